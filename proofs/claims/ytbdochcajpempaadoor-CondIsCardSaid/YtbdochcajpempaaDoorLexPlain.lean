/- The plain law of lex, on lists of octets: a text's tokens; one token; joined tokens; lines; places. -/
namespace Go.Proofs.YtbdochcajpempaaDoor.Lex

abbrev Bs := List UInt8
def white (c : UInt8) : Bool := c == 32 || c == 9 || c == 13 || c == 10
def letter (c : UInt8) : Bool := (decide (97 ≤ c) && decide (c ≤ 122)) || (decide (65 ≤ c) && decide (c ≤ 90)) || c == 95
def digit (c : UInt8) : Bool := decide (48 ≤ c) && decide (c ≤ 57)
/-- what is left behind white and remarks; true: within a remark -/
def skip : Bool → Bs → Bs
  | _, [] => []
  | true, c :: l => if c = 10 then skip false l else skip true l
  | false, c :: l => if white c then skip false l else if c = 35 then skip true l else c :: l
def twos : Bs := [61, 33, 60, 62]
def ones : Bs := [123, 125, 40, 41, 44, 58, 59, 61, 60, 62]
def firstIs (p : UInt8 → Bool) : Bs → Bool
  | [] => false
  | d :: _ => p d
/-- what begins with c, and how many octets a sign has -/
def begins (c : UInt8) (l : Bs) : Nat × Nat :=
  if letter c then (1, 0) else
  if digit c || (c == 45 && firstIs digit l) then (2, 0) else
  if c == 34 then (3, 0) else
  if twos.contains c && firstIs (· == 61) l then (4, 2) else
  if ones.contains c then (4, 1) else (0, 0)
/-- does a run go on? -/
def goes (points : Bool) (c : UInt8) : Bool := letter c || digit c || (points && c == 46)
/-- a text's octets and what is left behind it; or an error and its place -/
def text : Bs → Nat → Except (Nat × Int) (Bs × Bs)
  | [], _ => .error (0, 12)
  | c :: l, i =>
    if c = 34 then .ok ([], l) else
    if c = 10 then .error (0, 12) else
    if c = 92 then
      match l with
      | [] => .error (0, 12)
      | d :: l' => if d = 92 ∨ d = 34 then (text l' (i + 2)).map (fun r => (d :: r.1, r.2)) else if d = 110 then (text l' (i + 2)).map (fun r => (10 :: r.1, r.2)) else .error (i, 1)
    else (text l (i + 1)).map (fun r => (c :: r.1, r.2))
structure Tok where
  k : Nat
  at_ : Nat
  s : Bs
/-- one token: its kind, its text, what is left; or an error and its place -/
def one (c : UInt8) (l : Bs) : Except (Nat × Int) (Nat × Bs × Bs) :=
  match begins c l with
  | (1, _) => .ok (1, c :: l.takeWhile (goes false), l.dropWhile (goes false))
  | (2, _) => .ok (2, c :: l.takeWhile (goes true), l.dropWhile (goes true))
  | (3, _) => (text l 1).map (fun r => (3, r.1, r.2))
  | (0, _) => .error (0, 1)
  | (k, n) => .ok (k, (c :: l).take n, (c :: l).drop n)
def all : Nat → Bs → Nat → List Tok × Nat × Int
  | 0, _, n => ([], n, 0)
  | f + 1, l, n =>
    match skip false l with
    | [] => ([], n, 0)
    | c :: r =>
      match one c r with
      | .error (m, e) => ([], n - (r.length + 1) + m, e)
      | .ok (k, p, r') => (⟨k, n - (r.length + 1), p⟩ :: (all f r' n).1, (all f r' n).2)
end Go.Proofs.YtbdochcajpempaaDoor.Lex
namespace Go.Proofs.YtbdochcajpempaaDoor.Lex

def isSign (s : Bs) : Bool := [[61, 61], [33, 61], [60, 61], [62, 61], [123], [125], [40], [41], [44], [58], [59], [61], [60], [62]].contains s
/-- may it be a token? -/
def good (k : Nat) (s : Bs) : Prop :=
  (k = 1 ∧ ∃ c l, s = c :: l ∧ letter c = true ∧ l.all (goes false) = true) ∨
  (k = 2 ∧ ∃ c l, s = c :: l ∧ letter c = false ∧ (digit c || (c == 45 && firstIs digit l)) = true ∧ l.all (goes true) = true) ∨
  k = 3 ∨ (k = 4 ∧ isSign s = true)
def quoteIn : Bs → Bs
  | [] => []
  | c :: l => if c = 92 ∨ c = 34 then 92 :: c :: quoteIn l else if c = 10 then 92 :: 110 :: quoteIn l else c :: quoteIn l
def quote (s : Bs) : Bs := 34 :: (quoteIn s ++ [34])
def tokText (k : Nat) (s : Bs) : Bs := if k = 3 then quote s else s
/-- what may stand behind a token: nothing, white, a remark -/
def ends (r : Bs) : Prop := firstIs (fun c => !(white c || c == 35)) r = false

theorem take_ends {p : UInt8 → Bool} (hp : ∀ c, (white c || c == 35) = true → p c = false) {l r : Bs} (hl : l.all p = true) (hr : ends r) : (l ++ r).takeWhile p = l ∧ (l ++ r).dropWhile p = r := by
  induction l with
  | nil =>
    cases r with
    | nil => exact ⟨rfl, rfl⟩
    | cons c r =>
      have : p c = false := hp c (by unfold ends firstIs at hr; simpa only [Bool.not_eq_false'] using hr)
      simp [this]
  | cons c l ih =>
    simp only [List.all_cons, Bool.and_eq_true] at hl
    simp only [List.cons_append]
    rw [List.takeWhile_cons_of_pos hl.1, List.dropWhile_cons_of_pos hl.1, (ih hl.2).1, (ih hl.2).2]
    exact ⟨rfl, rfl⟩
theorem nat_eq {c : UInt8} {n : Nat} (hn : n < 256) : (c == UInt8.ofNat n) = decide (c.toNat = n) := by
  rw [Bool.eq_iff_iff]
  simp only [beq_iff_eq, decide_eq_true_eq, ← UInt8.toNat_inj, UInt8.toNat_ofNat']
  omega
theorem goes_white (b : Bool) (c : UInt8) (h : (white c || c == 35) = true) : goes b c = false := by
  simp only [white, Bool.or_eq_true, beq_iff_eq] at h
  rcases h with (((h | h) | h) | h) | h <;> subst h <;> cases b <;> decide
theorem text_quote (s r : Bs) (i : Nat) : text (quoteIn s ++ 34 :: r) i = .ok (s, r) := by
  induction s generalizing i with
  | nil =>
    show text (34 :: r) i = _
    unfold text
    rw [if_pos rfl]
  | cons c s ih =>
    unfold quoteIn
    by_cases h1 : c = 92 ∨ c = 34
    · rw [if_pos h1]
      simp only [List.cons_append]
      unfold text
      rw [if_neg (by decide), if_neg (by decide), if_pos rfl]
      simp only [h1, if_true, ih, Except.map]
    · rw [if_neg h1]
      by_cases h2 : c = 10
      · rw [if_pos h2]
        simp only [List.cons_append]
        unfold text
        rw [if_neg (by decide), if_neg (by decide), if_pos rfl]
        subst h2
        simp only [show ¬ ((110 : UInt8) = 92 ∨ (110 : UInt8) = 34) by decide, if_false, if_true, ih, Except.map]
      · rw [if_neg h2]
        simp only [List.cons_append]
        unfold text
        rw [if_neg (fun h => h1 (.inr h)), if_neg h2, if_neg (fun h => h1 (.inl h)), ih]
        rfl
end Go.Proofs.YtbdochcajpempaaDoor.Lex
namespace Go.Proofs.YtbdochcajpempaaDoor.Lex

theorem firstIs_cons (p : UInt8 → Bool) (c : UInt8) (l : Bs) : firstIs p (c :: l) = p c := rfl
theorem ends_not61 {r : Bs} (hr : ends r) : firstIs (· == 61) r = false := by
  cases r with
  | nil => rfl
  | cons c r =>
    have hr' : (!(white c || c == 35)) = false := hr
    show (c == 61) = false
    rcases h : (c == 61) with _ | _
    · rfl
    · have := eq_of_beq h
      subst this
      exact absurd hr' (by decide)
theorem letter_facts {c : UInt8} (h : letter c = true) : white c = false ∧ c ≠ 35 := by
  constructor
  · rcases hw : white c with _ | _
    · rfl
    · have := goes_white false c (by rw [hw]; rfl)
      unfold goes at this
      rw [h] at this
      cases this
  · intro hc
    subst hc
    exact absurd h (by decide)
theorem num_facts {c : UInt8} {b : Bool} (h : (digit c || (c == 45 && b)) = true) : white c = false ∧ c ≠ 35 := by
  constructor
  · rcases hw : white c with _ | _
    · rfl
    · simp only [white, Bool.or_eq_true, beq_iff_eq] at hw
      rcases hw with ((hw | hw) | hw) | hw <;> subst hw <;> cases b <;> exact absurd h (by decide)
  · intro hc
    subst hc
    cases b <;> exact absurd h (by decide)
theorem one_good {k : Nat} {s r : Bs} (hg : good k s) (hr : ends r) : ∃ c l, tokText k s ++ r = c :: l ∧ one c l = .ok (k, s, r) ∧ white c = false ∧ c ≠ 35 := by
  rcases hg with ⟨rfl, c, l, rfl, hc, hl⟩ | ⟨rfl, c, l, rfl, hc, hn, hl⟩ | rfl | ⟨rfl, hs⟩
  · refine ⟨c, l ++ r, rfl, ?_, letter_facts hc⟩
    have ht := take_ends (goes_white false) hl hr
    unfold one
    rw [show begins c (l ++ r) = (1, 0) by unfold begins; rw [if_pos hc]]
    simp only [ht.1, ht.2]
  · refine ⟨c, l ++ r, rfl, ?_, num_facts hn⟩
    have ht := take_ends (goes_white true) hl hr
    have hn' : (digit c || (c == 45 && firstIs digit (l ++ r))) = true := by
      cases l with
      | nil => simp only [firstIs, Bool.and_false, Bool.or_false] at hn; rw [hn]; rfl
      | cons d l => exact hn
    unfold one
    rw [show begins c (l ++ r) = (2, 0) by unfold begins; rw [if_neg (by rw [hc]; decide), if_pos hn']]
    simp only [ht.1, ht.2]
  · refine ⟨34, quoteIn s ++ 34 :: r, by simp [tokText, quote], ?_, by decide, by decide⟩
    unfold one
    rw [show begins 34 (quoteIn s ++ 34 :: r) = (3, 0) by unfold begins; rw [if_neg (by decide), if_neg (by simp only [show ((34 : UInt8) == 45) = false by decide, Bool.false_and, Bool.or_false]; decide), if_pos (by decide)]]
    simp only [text_quote]
    rfl
  · have h61 := ends_not61 hr
    simp only [isSign, List.contains_cons, List.contains_nil, Bool.or_eq_true, Bool.or_false, beq_iff_eq] at hs
    rcases hs with h | h | h | h | h | h | h | h | h | h | h | h | h | h <;> subst h <;> refine ⟨_, _, rfl, ?_, by decide, by decide⟩ <;> unfold one begins <;> simp [h61, firstIs_cons, letter, digit, twos, ones]
end Go.Proofs.YtbdochcajpempaaDoor.Lex
namespace Go.Proofs.YtbdochcajpempaaDoor.Lex

/-- white and remarks that end -/
def Sep (w : Bs) : Prop := ∀ r, skip false (w ++ r) = skip false r
/-- separators and tokens, and what stands at the end -/
def lay : List (Bs × Nat × Bs) → Bs → Bs
  | [], e => e
  | (w, k, s) :: L, e => w ++ (tokText k s ++ lay L e)
def bare (l : List Tok) : List (Nat × Bs) := l.map fun t => (t.k, t.s)
theorem ends_app {w r : Bs} (h : ends w) (hw : w ≠ []) : ends (w ++ r) := by
  cases w with
  | nil => exact absurd rfl hw
  | cons c w => exact h
theorem all_lay (L : List (Bs × Nat × Bs)) (e : Bs) (he : skip false e = []) (hee : ends e) (hg : ∀ x ∈ L, good x.2.1 x.2.2 ∧ Sep x.1) (ht : ∀ x ∈ L.tail, ends x.1 ∧ x.1 ≠ []) :
    ∀ f N, L.length < f → bare (all f (lay L e) N).1 = L.map (·.2) ∧ (all f (lay L e) N).2 = (N, 0) := by
  induction L with
  | nil =>
    intro f N hf
    obtain ⟨f, rfl⟩ : ∃ g, f = g + 1 := ⟨f - 1, by simp at hf; omega⟩
    unfold all
    rw [show skip false (lay [] e) = [] from he]
    exact ⟨rfl, rfl⟩
  | cons x L ih =>
    intro f N hf
    obtain ⟨f, rfl⟩ : ∃ g, f = g + 1 := ⟨f - 1, by simp at hf; omega⟩
    obtain ⟨w, k, s⟩ := x
    obtain ⟨hgood, hsep⟩ := hg _ (List.mem_cons_self)
    have hr : ends (lay L e) := by
      cases L with
      | nil => exact hee
      | cons y L =>
        obtain ⟨h1, h2⟩ := ht y (by simp)
        exact ends_app h1 h2
    obtain ⟨c, l, hcl, hone, hw, h35⟩ := one_good hgood hr
    have hsk : skip false (lay ((w, k, s) :: L) e) = c :: l := by
      show skip false (w ++ (tokText k s ++ lay L e)) = _
      rw [hsep, hcl]
      unfold skip
      rw [if_neg (by rw [hw]; decide), if_neg h35]
    unfold all
    simp only [hsk, hone]
    obtain ⟨i1, i2⟩ := ih (fun y hy => hg y (List.mem_cons_of_mem _ hy)) (fun y hy => ht y (List.mem_of_mem_tail hy)) f N (by simp at hf; omega)
    refine ⟨?_, i2⟩
    show (k, s) :: bare (all f (lay L e) N).1 = _
    rw [i1]
    rfl
end Go.Proofs.YtbdochcajpempaaDoor.Lex
namespace Go.Proofs.YtbdochcajpempaaDoor.Lex

theorem takeWhile_all {p : UInt8 → Bool} (l : Bs) : (l.takeWhile p).all p = true := by
  induction l with
  | nil => rfl
  | cons c l ih =>
    rcases h : p c with _ | _
    · rw [List.takeWhile_cons_of_neg (by rw [h]; decide)]; rfl
    · rw [List.takeWhile_cons_of_pos h, List.all_cons, h, ih]; rfl
theorem digit_goes {c : UInt8} (h : digit c = true) : goes true c = true := by unfold goes; rw [h]; simp
theorem one_ok {c : UInt8} {l p r : Bs} {k : Nat} (h : one c l = .ok (k, p, r)) : good k p := by
  unfold one at h
  unfold begins at h
  by_cases h1 : letter c = true
  · rw [if_pos h1] at h
    injection h with h
    injection h with hk h
    injection h with hp hr
    subst hk hp
    exact .inl ⟨rfl, _, _, rfl, h1, takeWhile_all _⟩
  · rw [if_neg h1] at h
    by_cases h2 : (digit c || (c == 45 && firstIs digit l)) = true
    · rw [if_pos h2] at h
      injection h with h
      injection h with hk h
      injection h with hp hr
      subst hk hp
      refine .inr (.inl ⟨rfl, _, _, rfl, by simpa using h1, ?_, takeWhile_all _⟩)
      cases l with
      | nil => exact h2
      | cons d l =>
        rcases hd : digit d with _ | _
        · rw [firstIs_cons, hd, Bool.and_false, Bool.or_false] at h2
          rw [h2]; rfl
        · rw [List.takeWhile_cons_of_pos (digit_goes hd), firstIs_cons, hd]
          rw [firstIs_cons, hd] at h2
          exact h2
    · rw [if_neg h2] at h
      by_cases h3 : (c == 34) = true
      · rw [if_pos h3] at h
        simp only at h
        cases ht : text l 1 with
        | error e => rw [ht] at h; cases h
        | ok v =>
          rw [ht] at h
          injection h with h
          injection h with hk h
          subst hk
          exact .inr (.inr (.inl rfl))
      · rw [if_neg h3] at h
        by_cases h4 : (twos.contains c && firstIs (· == 61) l) = true
        · rw [if_pos h4] at h
          simp only at h
          injection h with h
          injection h with hk h
          injection h with hp hr
          subst hk hp
          rw [Bool.and_eq_true] at h4
          cases l with
          | nil => exact absurd h4.2 (by simp [firstIs])
          | cons d l =>
            have hd : d = 61 := eq_of_beq h4.2
            subst hd
            refine .inr (.inr (.inr ⟨rfl, ?_⟩))
            have h5 := h4.1
            simp only [twos, List.contains_cons, List.contains_nil, Bool.or_eq_true, beq_iff_eq, Bool.or_false] at h5
            rcases h5 with h5 | h5 | h5 | h5 <;> subst h5 <;> rfl
        · rw [if_neg h4] at h
          by_cases h5 : ones.contains c = true
          · rw [if_pos h5] at h
            simp only at h
            injection h with h
            injection h with hk h
            injection h with hp hr
            subst hk hp
            refine .inr (.inr (.inr ⟨rfl, ?_⟩))
            simp only [ones, List.contains_cons, List.contains_nil, Bool.or_eq_true, beq_iff_eq, Bool.or_false] at h5
            rcases h5 with h5 | h5 | h5 | h5 | h5 | h5 | h5 | h5 | h5 | h5 <;> subst h5 <;> rfl
          · rw [if_neg h5] at h
            cases h
theorem all_good (f : Nat) (l : Bs) (N : Nat) : ∀ t ∈ (all f l N).1, good t.k t.s := by
  induction f generalizing l with
  | zero => intro t ht; cases ht
  | succ f ih =>
    intro t ht
    unfold all at ht
    cases hs : skip false l with
    | nil => rw [hs] at ht; cases ht
    | cons c r =>
      rw [hs] at ht
      simp only at ht
      cases ho : one c r with
      | error e => rw [ho] at ht; cases ht
      | ok v =>
        obtain ⟨k, p, r'⟩ := v
        rw [ho] at ht
        rcases List.mem_cons.1 ht with h | h
        · subst h; exact one_ok ho
        · exact ih r' t h
end Go.Proofs.YtbdochcajpempaaDoor.Lex
namespace Go.Proofs.YtbdochcajpempaaDoor.Lex

def joinR : List (Nat × Bs) → Bs
  | [] => []
  | (k, s) :: L => 32 :: (tokText k s ++ joinR L)
/-- tokens as a text -/
def join : List (Nat × Bs) → Bs
  | [] => []
  | (k, s) :: L => tokText k s ++ joinR L
theorem joinR_lay (L : List (Nat × Bs)) : joinR L = lay (L.map fun x => ([32], x.1, x.2)) [] := by
  induction L with
  | nil => rfl
  | cons x L ih =>
    show 32 :: (tokText x.1 x.2 ++ joinR L) = [32] ++ (tokText x.1 x.2 ++ lay _ [])
    rw [ih]
    rfl
theorem sep_blank : Sep [32] := fun _ => rfl
theorem ends_nil : ends [] := rfl
theorem joined (L : List (Nat × Bs)) (hg : ∀ x ∈ L, good x.1 x.2) (f N : Nat) (hf : L.length < f) : bare (all f (join L) N).1 = L ∧ (all f (join L) N).2 = (N, 0) := by
  cases L with
  | nil =>
    have := all_lay [] [] rfl rfl (by intro x h; cases h) (by intro x h; cases h) f N hf
    exact this
  | cons x L =>
    obtain ⟨k, s⟩ := x
    have e : join ((k, s) :: L) = lay (([], k, s) :: L.map fun x => ([32], x.1, x.2)) [] := by
      show tokText k s ++ joinR L = [] ++ (tokText k s ++ lay _ [])
      rw [joinR_lay]
      rfl
    have := all_lay (([], k, s) :: L.map fun x => ([32], x.1, x.2)) [] rfl rfl (by
      intro x hx
      rcases List.mem_cons.1 hx with h | h
      · subst h; exact ⟨hg _ List.mem_cons_self, fun _ => rfl⟩
      · obtain ⟨y, hy, rfl⟩ := List.mem_map.1 h
        exact ⟨hg _ (List.mem_cons_of_mem _ hy), sep_blank⟩) (by
      intro x hx
      obtain ⟨y, hy, rfl⟩ := List.mem_map.1 hx
      exact ⟨rfl, by simp⟩) f N (by simpa using hf)
    rw [e]
    refine ⟨this.1.trans ?_, this.2⟩
    simp [List.map_map, Function.comp_def]

/-- what is put between -/
def whites (i : Nat) : Bs :=
  match i % 5 with
  | 0 => [32]
  | 1 => [9]
  | 2 => [13, 10]
  | 3 => [35, 32, 120, 32, 34, 10]
  | _ => [10, 32, 35, 32, 59, 32, 10, 9]
theorem whites_sep (i : Nat) : Sep (whites i) := by
  unfold whites
  split <;> exact fun _ => rfl
theorem whites_ends (i : Nat) : ends (whites i) ∧ whites i ≠ [] := by
  unfold whites
  split <;> exact ⟨rfl, by simp⟩
/-- white and tokens -/
def whiteLay : Nat → List (Nat × Bs) → List (Bs × Nat × Bs)
  | _, [] => []
  | i, (k, s) :: L => (whites i, k, s) :: whiteLay (i + 1) L
theorem whiteLay_mem {i : Nat} {L : List (Nat × Bs)} {x : Bs × Nat × Bs} (h : x ∈ whiteLay i L) : x.2 ∈ L ∧ ∃ j, x.1 = whites j := by
  induction L generalizing i with
  | nil => cases h
  | cons y L ih =>
    rcases List.mem_cons.1 h with h | h
    · subst h; exact ⟨List.mem_cons_self, i, rfl⟩
    · exact ⟨List.mem_cons_of_mem _ (ih h).1, (ih h).2⟩
theorem whiteLay_map (i : Nat) (L : List (Nat × Bs)) : (whiteLay i L).map (·.2) = L := by
  induction L generalizing i with
  | nil => rfl
  | cons y L ih => show y :: _ = _; rw [ih]
theorem whited (L : List (Nat × Bs)) (hg : ∀ x ∈ L, good x.1 x.2) (i j f N : Nat) (hf : L.length < f) :
    bare (all f (lay (whiteLay i L) (whites j)) N).1 = L ∧ (all f (lay (whiteLay i L) (whites j)) N).2 = (N, 0) := by
  have hend : skip false (whites j) = [] := by
    have := whites_sep j []
    rw [List.append_nil] at this
    exact this
  have := all_lay (whiteLay i L) (whites j) hend (whites_ends j).1 (fun x hx => by
    obtain ⟨h1, m, h2⟩ := whiteLay_mem hx
    exact ⟨hg _ h1, h2 ▸ whites_sep m⟩) (fun x hx => by
    obtain ⟨_, m, h2⟩ := whiteLay_mem (List.mem_of_mem_tail hx)
    exact h2 ▸ whites_ends m) f N (by have := congrArg List.length (whiteLay_map i L); rw [List.length_map] at this; omega)
  rw [whiteLay_map] at this
  exact this
end Go.Proofs.YtbdochcajpempaaDoor.Lex
namespace Go.Proofs.YtbdochcajpempaaDoor.Lex

theorem skip_len (b : Bool) (l : Bs) : (skip b l).length ≤ l.length := by
  induction l generalizing b with
  | nil => cases b <;> simp [skip]
  | cons c l ih =>
    cases b with
    | true =>
      unfold skip
      split
      · exact Nat.le_succ_of_le (ih false)
      · exact Nat.le_succ_of_le (ih true)
    | false =>
      unfold skip
      split
      · exact Nat.le_succ_of_le (ih false)
      · split
        · exact Nat.le_succ_of_le (ih true)
        · exact Nat.le_refl _
theorem text_len (n : Nat) : ∀ (l : Bs) (i : Nat) (p r : Bs), l.length ≤ n → text l i = .ok (p, r) → (quoteIn p).length + 1 + r.length ≤ l.length := by
  induction n with
  | zero =>
    intro l i p r hl h
    cases l with
    | nil => unfold text at h; cases h
    | cons c l => simp at hl
  | succ n ih =>
    intro l i p r hl h
    cases l with
    | nil => unfold text at h; cases h
    | cons c l =>
      simp only [List.length_cons] at hl ⊢
      unfold text at h
      by_cases h1 : c = 34
      · rw [if_pos h1] at h
        injection h with h
        injection h with hp hr
        subst hp hr
        simp [quoteIn]
        omega
      · rw [if_neg h1] at h
        by_cases h2 : c = 10
        · rw [if_pos h2] at h; cases h
        · rw [if_neg h2] at h
          by_cases h3 : c = 92
          · rw [if_pos h3] at h
            cases l with
            | nil => cases h
            | cons d l =>
              simp only [List.length_cons] at hl ⊢
              simp only at h
              by_cases h4 : d = 92 ∨ d = 34
              · rw [if_pos h4] at h
                cases ht : text l (i + 2) with
                | error e => rw [ht] at h; cases h
                | ok v =>
                  obtain ⟨q, r2⟩ := v
                  rw [ht] at h
                  injection h with h
                  injection h with hp hr
                  subst hp hr
                  have := ih l (i + 2) q r2 (by omega) ht
                  simp only [quoteIn, if_pos h4, List.length_cons]
                  omega
              · rw [if_neg h4] at h
                by_cases h5 : d = 110
                · rw [if_pos h5] at h
                  cases ht : text l (i + 2) with
                  | error e => rw [ht] at h; cases h
                  | ok v =>
                    obtain ⟨q, r2⟩ := v
                    rw [ht] at h
                    injection h with h
                    injection h with hp hr
                    subst hp hr
                    have := ih l (i + 2) q r2 (by omega) ht
                    have e : quoteIn (10 :: q) = 92 :: 110 :: quoteIn q := rfl
                    show (quoteIn (10 :: q)).length + 1 + r2.length ≤ _
                    simp only [e, List.length_cons]
                    omega
                · rw [if_neg h5] at h; cases h
          · rw [if_neg h3] at h
            cases ht : text l (i + 1) with
            | error e => rw [ht] at h; cases h
            | ok v =>
              obtain ⟨q, r2⟩ := v
              rw [ht] at h
              injection h with h
              injection h with hp hr
              subst hp hr
              have := ih l (i + 1) q r2 (by omega) ht
              have e : quoteIn (c :: q) = c :: quoteIn q := by
                simp only [quoteIn, if_neg (show ¬ (c = 92 ∨ c = 34) from fun h => h.elim h3 h1), if_neg h2]
              simp only [e, List.length_cons]
              omega
theorem split_len (p : UInt8 → Bool) (l : Bs) : (l.takeWhile p).length + (l.dropWhile p).length = l.length := by
  rw [← List.length_append, List.takeWhile_append_dropWhile]
theorem one_len {c : UInt8} {l p r : Bs} {k : Nat} (h : one c l = .ok (k, p, r)) : (tokText k p).length + r.length ≤ l.length + 1 ∧ r.length ≤ l.length := by
  unfold one at h
  split at h
  · injection h with h
    injection h with hk h
    injection h with hp hr
    subst hk hp hr
    have := split_len (goes false) l
    simp [tokText]
    omega
  · injection h with h
    injection h with hk h
    injection h with hp hr
    subst hk hp hr
    have := split_len (goes true) l
    simp [tokText]
    omega
  · cases ht : text l 1 with
    | error e => rw [ht] at h; cases h
    | ok v =>
      obtain ⟨q, r2⟩ := v
      rw [ht] at h
      injection h with h
      injection h with hk h
      injection h with hp hr
      subst hk hp hr
      have := text_len _ l 1 q r2 (Nat.le_refl _) ht
      simp [tokText, quote]
      omega
  · cases h
  · rename_i k' n' h1 h2 h3 h4 hb
    injection h with h
    injection h with hk h
    injection h with hp hr
    subst hk hp hr
    have hk3 : ¬ k' = 3 := h3
    have hn : 1 ≤ n' := by
      unfold begins at hb
      split at hb
      · injection hb with hb1 hb2; exact absurd hb1.symm h1
      · split at hb
        · injection hb with hb1 hb2; exact absurd hb1.symm h2
        · split at hb
          · injection hb with hb1 hb2; exact absurd hb1.symm h3
          · split at hb
            · injection hb with hb1 hb2; omega
            · split at hb
              · injection hb with hb1 hb2; omega
              · injection hb with hb1 hb2; exact absurd hb1.symm h4
    simp [tokText, hk3]
    omega
/-- how long the tokens' texts are together -/
def tl : List Tok → Nat
  | [] => 0
  | t :: L => (tokText t.k t.s).length + tl L
theorem all_len (f : Nat) (l : Bs) (N : Nat) : tl (all f l N).1 ≤ l.length ∧ (all f l N).1.length ≤ l.length := by
  induction f generalizing l with
  | zero => exact ⟨Nat.zero_le _, Nat.zero_le _⟩
  | succ f ih =>
    unfold all
    have hsl := skip_len false l
    cases hs : skip false l with
    | nil => exact ⟨Nat.zero_le _, Nat.zero_le _⟩
    | cons c r =>
      rw [hs, List.length_cons] at hsl
      simp only
      cases ho : one c r with
      | error e => exact ⟨Nat.zero_le _, Nat.zero_le _⟩
      | ok v =>
        obtain ⟨k, p, r'⟩ := v
        have := one_len ho
        have := ih r'
        simp only [tl, List.length_cons]
        omega
theorem all_fuel (f g : Nat) (l : Bs) (N : Nat) (hf : l.length < f) (hg : l.length < g) : all f l N = all g l N := by
  induction f generalizing l g with
  | zero => omega
  | succ f ih =>
    obtain ⟨g, rfl⟩ : ∃ h, g = h + 1 := ⟨g - 1, by omega⟩
    unfold all
    have hsl := skip_len false l
    cases hs : skip false l with
    | nil => rfl
    | cons c r =>
      rw [hs, List.length_cons] at hsl
      simp only
      cases ho : one c r with
      | error e => rfl
      | ok v =>
        obtain ⟨k, p, r'⟩ := v
        have := one_len ho
        simp only
        rw [ih g r' (by omega) (by omega)]
theorem bare_len (l : List Tok) : (bare l).length = l.length := by simp [bare]
theorem joinR_len (L : List Tok) : (joinR (bare L)).length = tl L + L.length := by
  induction L with
  | nil => rfl
  | cons t L ih =>
    show (32 :: (tokText t.k t.s ++ joinR (bare L))).length = _
    simp only [List.length_cons, List.length_append, ih, tl]
    omega
theorem join_len (L : List Tok) : (join (bare L)).length ≤ tl L + L.length := by
  cases L with
  | nil => exact Nat.zero_le _
  | cons t L =>
    show (tokText t.k t.s ++ joinR (bare L)).length ≤ _
    simp only [List.length_cons, List.length_append, joinR_len, tl]
    omega
theorem good_ne {k : Nat} {s : Bs} (h : good k s) : 1 ≤ (tokText k s).length := by
  obtain ⟨c, l, hcl, _⟩ := one_good (r := []) h rfl
  rw [List.append_nil] at hcl
  rw [hcl]
  simp
theorem join_ge (L : List (Nat × Bs)) (hg : ∀ x ∈ L, good x.1 x.2) : L.length ≤ (join L).length := by
  have hR : ∀ L : List (Nat × Bs), L.length ≤ (joinR L).length := by
    intro L
    induction L with
    | nil => exact Nat.le_refl _
    | cons x L ih =>
      show _ ≤ (32 :: (tokText x.1 x.2 ++ joinR L)).length
      simp only [List.length_cons, List.length_append]
      omega
  cases L with
  | nil => exact Nat.le_refl _
  | cons x L =>
    show _ ≤ (tokText x.1 x.2 ++ joinR L).length
    have := hR L
    have := good_ne (hg x List.mem_cons_self)
    simp only [List.length_cons, List.length_append]
    omega
end Go.Proofs.YtbdochcajpempaaDoor.Lex
namespace Go.Proofs.YtbdochcajpempaaDoor.Lex

theorem skip_t (c : UInt8) (l : Bs) : skip true (c :: l) = if c = 10 then skip false l else skip true l := rfl
theorem skip_f (c : UInt8) (l : Bs) : skip false (c :: l) = if white c then skip false l else if c = 35 then skip true l else c :: l := rfl
theorem skip_line (a b : Bs) (m : Bool) : skip m (a ++ 10 :: b) = (match skip m a with | [] => skip false b | c :: r => c :: (r ++ 10 :: b)) := by
  induction a generalizing m with
  | nil => cases m <;> rfl
  | cons c a ih =>
    cases m with
    | true =>
      simp only [List.cons_append]
      rw [skip_t, skip_t]
      split
      · exact ih false
      · exact ih true
    | false =>
      simp only [List.cons_append]
      rw [skip_f, skip_f]
      split
      · exact ih false
      · split
        · exact ih true
        · rfl
theorem takeWhile_line (p : UInt8 → Bool) (hp : p 10 = false) (a b : Bs) : (a ++ 10 :: b).takeWhile p = a.takeWhile p ∧ (a ++ 10 :: b).dropWhile p = a.dropWhile p ++ 10 :: b := by
  induction a with
  | nil => simp [hp]
  | cons c a ih =>
    simp only [List.cons_append]
    rcases h : p c with _ | _
    · simp [h]
    · simp [h, ih.1, ih.2]
theorem text_line (n : Nat) : ∀ (l : Bs) (i : Nat) (p r b : Bs), l.length ≤ n → text l i = .ok (p, r) → text (l ++ 10 :: b) i = .ok (p, r ++ 10 :: b) := by
  induction n with
  | zero =>
    intro l i p r b hl h
    cases l with
    | nil => unfold text at h; cases h
    | cons c l => simp at hl
  | succ n ih =>
    intro l i p r b hl h
    cases l with
    | nil => unfold text at h; cases h
    | cons c l =>
      simp only [List.length_cons] at hl
      unfold text at h
      simp only [List.cons_append]
      unfold text
      by_cases h1 : c = 34
      · rw [if_pos h1] at h ⊢
        injection h with h
        injection h with hp hr
        subst hp hr
        rfl
      · rw [if_neg h1] at h ⊢
        by_cases h2 : c = 10
        · rw [if_pos h2] at h; cases h
        · rw [if_neg h2] at h ⊢
          by_cases h3 : c = 92
          · rw [if_pos h3] at h ⊢
            cases l with
            | nil => cases h
            | cons d l =>
              simp only [List.length_cons] at hl
              simp only at h
              simp only [List.cons_append]
              by_cases h4 : d = 92 ∨ d = 34
              · rw [if_pos h4] at h ⊢
                cases ht : text l (i + 2) with
                | error e => rw [ht] at h; cases h
                | ok v =>
                  obtain ⟨q, r2⟩ := v
                  rw [ht] at h
                  rw [ih l (i + 2) q r2 b (by omega) ht]
                  injection h with h
                  injection h with hp hr
                  subst hp hr
                  rfl
              · rw [if_neg h4] at h ⊢
                by_cases h5 : d = 110
                · rw [if_pos h5] at h ⊢
                  cases ht : text l (i + 2) with
                  | error e => rw [ht] at h; cases h
                  | ok v =>
                    obtain ⟨q, r2⟩ := v
                    rw [ht] at h
                    rw [ih l (i + 2) q r2 b (by omega) ht]
                    injection h with h
                    injection h with hp hr
                    subst hp hr
                    rfl
                · rw [if_neg h5] at h; cases h
          · rw [if_neg h3] at h ⊢
            cases ht : text l (i + 1) with
            | error e => rw [ht] at h; cases h
            | ok v =>
              obtain ⟨q, r2⟩ := v
              rw [ht] at h
              rw [ih l (i + 1) q r2 b (by omega) ht]
              injection h with h
              injection h with hp hr
              subst hp hr
              rfl
/-- what a text's error is, and where -/
theorem text_err (n : Nat) : ∀ (l : Bs) (i m : Nat) (e : Int), l.length ≤ n → text l i = .error (m, e) → (e = 12 ∧ m = 0) ∨ (e = 1 ∧ i ≤ m ∧ m < i + l.length) := by
  induction n with
  | zero =>
    intro l i m e hl h
    cases l with
    | nil => unfold text at h; injection h with h; injection h with h1 h2; exact .inl ⟨h2.symm, h1.symm⟩
    | cons c l => simp at hl
  | succ n ih =>
    intro l i m e hl h
    cases l with
    | nil => unfold text at h; injection h with h; injection h with h1 h2; exact .inl ⟨h2.symm, h1.symm⟩
    | cons c l =>
      simp only [List.length_cons] at hl ⊢
      unfold text at h
      by_cases h1 : c = 34
      · rw [if_pos h1] at h; cases h
      · rw [if_neg h1] at h
        by_cases h2 : c = 10
        · rw [if_pos h2] at h; injection h with h; injection h with h1 h2; exact .inl ⟨h2.symm, h1.symm⟩
        · rw [if_neg h2] at h
          by_cases h3 : c = 92
          · rw [if_pos h3] at h
            cases l with
            | nil => injection h with h; injection h with h1 h2; exact .inl ⟨h2.symm, h1.symm⟩
            | cons d l =>
              simp only [List.length_cons] at hl ⊢
              simp only at h
              by_cases h4 : d = 92 ∨ d = 34
              · rw [if_pos h4] at h
                cases ht : text l (i + 2) with
                | ok v => rw [ht] at h; cases h
                | error v =>
                  rw [ht] at h
                  injection h with h
                  rw [h] at ht
                  have := ih l (i + 2) m e (by omega) ht
                  omega
              · rw [if_neg h4] at h
                by_cases h5 : d = 110
                · rw [if_pos h5] at h
                  cases ht : text l (i + 2) with
                  | ok v => rw [ht] at h; cases h
                  | error v =>
                    rw [ht] at h
                    injection h with h
                    rw [h] at ht
                    have := ih l (i + 2) m e (by omega) ht
                    omega
                · rw [if_neg h5] at h
                  injection h with h; injection h with h1 h2
                  omega
          · rw [if_neg h3] at h
            cases ht : text l (i + 1) with
            | ok v => rw [ht] at h; cases h
            | error v =>
              rw [ht] at h
              injection h with h
              rw [h] at ht
              have := ih l (i + 1) m e (by omega) ht
              omega
theorem firstIs_line {p : UInt8 → Bool} (hp : p 10 = false) (l b : Bs) : firstIs p (l ++ 10 :: b) = firstIs p l := by
  cases l with
  | nil => exact hp
  | cons c l => rfl
theorem begins_line (c : UInt8) (l b : Bs) : begins c (l ++ 10 :: b) = begins c l := by
  unfold begins
  rw [firstIs_line (by decide), firstIs_line (by decide)]
theorem begins_two {c : UInt8} {l : Bs} {k n : Nat} (h : begins c l = (k, n)) (hk : k ≠ 0) (hk1 : k ≠ 1) (hk2 : k ≠ 2) (hk3 : k ≠ 3) : k = 4 ∧ 1 ≤ n ∧ n ≤ (c :: l).length := by
  unfold begins at h
  split at h
  · injection h with h1 h2; omega
  · split at h
    · injection h with h1 h2; omega
    · split at h
      · injection h with h1 h2; omega
      · split at h
        · rename_i h4
          injection h with h1 h2
          cases l with
          | nil => simp [firstIs] at h4
          | cons d l => simp; omega
        · split at h
          · injection h with h1 h2
            simp; omega
          · injection h with h1 h2; omega
theorem one_line {c : UInt8} {l p r : Bs} {k : Nat} (b : Bs) (h : one c l = .ok (k, p, r)) : one c (l ++ 10 :: b) = .ok (k, p, r ++ 10 :: b) := by
  unfold one at h ⊢
  rw [begins_line]
  split at h
  · injection h with h
    injection h with hk h
    injection h with hp hr
    subst hk hp hr
    have := takeWhile_line (goes false) (by decide) l b
    simp only [this.1, this.2]
  · injection h with h
    injection h with hk h
    injection h with hp hr
    subst hk hp hr
    have := takeWhile_line (goes true) (by decide) l b
    simp only [this.1, this.2]
  · cases ht : text l 1 with
    | error e => rw [ht] at h; cases h
    | ok v =>
      obtain ⟨q, r2⟩ := v
      rw [ht] at h
      injection h with h
      injection h with hk h
      injection h with hp hr
      subst hk hp hr
      simp only [text_line _ l 1 q r2 b (Nat.le_refl _) ht]
      rfl
  · cases h
  · rename_i k' n' h1 h2 h3 h4 hb
    injection h with h
    injection h with hk h
    injection h with hp hr
    subst hk hp hr
    have hn := (begins_two hb h4 h1 h2 h3).2.2
    simp only [← List.cons_append]
    rw [List.take_append_of_le_length hn, List.drop_append_of_le_length hn]
/-- tokens, each so much further on -/
def moved (m : Nat) (l : List Tok) : List Tok := l.map fun t => ⟨t.k, t.at_ + m, t.s⟩
theorem all_moved (f : Nat) (l : Bs) (N M : Nat) (h : l.length ≤ N) : all f l (N + M) = (moved M (all f l N).1, (all f l N).2.1 + M, (all f l N).2.2) := by
  induction f generalizing l with
  | zero => rfl
  | succ f ih =>
    unfold all
    have hsl := skip_len false l
    cases hs : skip false l with
    | nil => rfl
    | cons c r =>
      rw [hs, List.length_cons] at hsl
      simp only
      cases ho : one c r with
      | error e =>
        obtain ⟨m, e⟩ := e
        simp only [moved, List.map_nil, Prod.mk.injEq, true_and, and_true]
        omega
      | ok v =>
        obtain ⟨k, p, r'⟩ := v
        have hl := one_len ho
        simp only
        rw [ih r' (by omega)]
        simp only [moved, List.map_cons, Prod.mk.injEq, and_true, List.cons.injEq, Tok.mk.injEq, true_and]
        omega
theorem all_line (f : Nat) (a b : Bs) (N g : Nat) (hf : a.length < f) (hg : a.length + b.length + 1 < g) (hN : a.length ≤ N) (h0 : (all f a N).2.2 = 0) :
    all g (a ++ 10 :: b) (N + (b.length + 1)) = ((all f a N).1 ++ moved (N + 1) (all (b.length + 1) b b.length).1, (all (b.length + 1) b b.length).2.1 + (N + 1), (all (b.length + 1) b b.length).2.2) := by
  induction f generalizing a g with
  | zero => omega
  | succ f ih =>
    obtain ⟨g, rfl⟩ : ∃ h, g = h + 1 := ⟨g - 1, by omega⟩
    have hsl := skip_len false a
    have hsk := skip_line a b false
    cases hs : skip false a with
    | nil =>
      rw [hs] at hsk
      have h1 : all (f + 1) a N = ([], N, 0) := by unfold all; rw [hs]
      rw [h1]
      simp only [List.nil_append]
      have h2 : all (g + 1) (a ++ 10 :: b) (N + (b.length + 1)) = all (g + 1) b (N + (b.length + 1)) := by
        show (all (g + 1) (a ++ 10 :: b) (N + (b.length + 1))) = _
        unfold all
        rw [hsk]
      rw [h2, all_fuel (g + 1) (b.length + 1) b _ (by omega) (by omega), show N + (b.length + 1) = b.length + (N + 1) by omega, all_moved _ b b.length (N + 1) (Nat.le_refl _)]
    | cons c r =>
      rw [hs] at hsk hsl
      rw [List.length_cons] at hsl
      unfold all at h0
      rw [hs] at h0
      simp only at h0
      cases ho : one c r with
      | error e =>
        rw [ho] at h0
        obtain ⟨m, e⟩ := e
        exfalso
        simp only at h0
        subst h0
        unfold one at ho
        split at ho
        · cases ho
        · cases ho
        · cases ht : text r 1 with
          | error e =>
            rw [ht] at ho
            have := text_err _ r 1 _ _ (Nat.le_refl _) ht
            injection ho with ho
            rw [ho] at this
            simp at this
          | ok v => rw [ht] at ho; cases ho
        · injection ho with ho
          injection ho with h1 h2
          cases h2
        · cases ho
      | ok v =>
        obtain ⟨k, p, r'⟩ := v
        rw [ho] at h0
        simp only at h0
        have hl := one_len ho
        have := ih r' g (by omega) (by omega) (by omega) h0
        have e1 : all (f + 1) a N = (⟨k, N - (r.length + 1), p⟩ :: (all f r' N).1, (all f r' N).2) := by
          show (all (f + 1) a N) = _
          conv => lhs; unfold all
          rw [hs]
          simp only [ho]
        have e2 : all (g + 1) (a ++ 10 :: b) (N + (b.length + 1)) = (⟨k, N + (b.length + 1) - ((r ++ 10 :: b).length + 1), p⟩ :: (all g (r' ++ 10 :: b) (N + (b.length + 1))).1, (all g (r' ++ 10 :: b) (N + (b.length + 1))).2) := by
          conv => lhs; unfold all
          rw [hsk]
          simp only [one_line b ho]
        rw [e1, e2, this]
        simp only [List.cons_append, Prod.mk.injEq, and_true, List.cons.injEq, Tok.mk.injEq, true_and, List.length_append, List.length_cons]
        omega
end Go.Proofs.YtbdochcajpempaaDoor.Lex
namespace Go.Proofs.YtbdochcajpempaaDoor.Lex

/-- the tokens stand in S from lo on, rising; where the first error is -/
def Places (S : Bs) : Nat → List Tok → Nat × Int → Prop
  | lo, [], (n, e) => lo ≤ n ∧ n ≤ S.length ∧ (e = 0 → n = S.length) ∧ (e ≠ 0 → n < S.length)
  | lo, t :: L, x => lo ≤ t.at_ ∧ t.at_ < S.length ∧ 1 ≤ t.k ∧ t.k ≤ 4 ∧ (t.k = 3 → S[t.at_]? = some 34) ∧ (t.k ≠ 3 → t.s ≠ [] ∧ t.at_ + t.s.length ≤ S.length ∧ (S.drop t.at_).take t.s.length = t.s) ∧ Places S (t.at_ + 1) L x
theorem text_suf (n : Nat) : ∀ (l : Bs) (i : Nat) (p r : Bs), l.length ≤ n → text l i = .ok (p, r) → ∃ d, l = d ++ r := by
  induction n with
  | zero =>
    intro l i p r hl h
    cases l with
    | nil => unfold text at h; cases h
    | cons c l => simp at hl
  | succ n ih =>
    intro l i p r hl h
    cases l with
    | nil => unfold text at h; cases h
    | cons c l =>
      simp only [List.length_cons] at hl
      unfold text at h
      by_cases h1 : c = 34
      · rw [if_pos h1] at h
        injection h with h
        injection h with hp hr
        exact ⟨[c], by rw [hr]; rfl⟩
      · rw [if_neg h1] at h
        by_cases h2 : c = 10
        · rw [if_pos h2] at h; cases h
        · rw [if_neg h2] at h
          by_cases h3 : c = 92
          · rw [if_pos h3] at h
            cases l with
            | nil => cases h
            | cons d l =>
              simp only [List.length_cons] at hl
              simp only at h
              by_cases h4 : d = 92 ∨ d = 34
              · rw [if_pos h4] at h
                cases ht : text l (i + 2) with
                | error e => rw [ht] at h; cases h
                | ok v =>
                  obtain ⟨q, r2⟩ := v
                  rw [ht] at h
                  injection h with h
                  injection h with hp hr
                  obtain ⟨x, hx⟩ := ih l (i + 2) q r2 (by omega) ht
                  exact ⟨c :: d :: x, by rw [hx, ← hr]; rfl⟩
              · rw [if_neg h4] at h
                by_cases h5 : d = 110
                · rw [if_pos h5] at h
                  cases ht : text l (i + 2) with
                  | error e => rw [ht] at h; cases h
                  | ok v =>
                    obtain ⟨q, r2⟩ := v
                    rw [ht] at h
                    injection h with h
                    injection h with hp hr
                    obtain ⟨x, hx⟩ := ih l (i + 2) q r2 (by omega) ht
                    exact ⟨c :: d :: x, by rw [hx, ← hr]; rfl⟩
                · rw [if_neg h5] at h; cases h
          · rw [if_neg h3] at h
            cases ht : text l (i + 1) with
            | error e => rw [ht] at h; cases h
            | ok v =>
              obtain ⟨q, r2⟩ := v
              rw [ht] at h
              injection h with h
              injection h with hp hr
              obtain ⟨x, hx⟩ := ih l (i + 1) q r2 (by omega) ht
              exact ⟨c :: x, by rw [hx, ← hr]; rfl⟩
theorem skip_suf (b : Bool) (l : Bs) : ∃ d, l = d ++ skip b l := by
  induction l generalizing b with
  | nil => exact ⟨[], by cases b <;> rfl⟩
  | cons c l ih =>
    cases b with
    | true =>
      rw [skip_t]
      split
      · obtain ⟨d, hd⟩ := ih false
        exact ⟨c :: d, by rw [List.cons_append, ← hd]⟩
      · obtain ⟨d, hd⟩ := ih true
        exact ⟨c :: d, by rw [List.cons_append, ← hd]⟩
    | false =>
      rw [skip_f]
      split
      · obtain ⟨d, hd⟩ := ih false
        exact ⟨c :: d, by rw [List.cons_append, ← hd]⟩
      · split
        · obtain ⟨d, hd⟩ := ih true
          exact ⟨c :: d, by rw [List.cons_append, ← hd]⟩
        · exact ⟨[], rfl⟩
theorem one_suf {c : UInt8} {l p r : Bs} {k : Nat} (h : one c l = .ok (k, p, r)) : (∃ d, c :: l = d ++ r) ∧ 1 ≤ k ∧ k ≤ 4 ∧ (k = 3 → c = 34) ∧ (k ≠ 3 → p ≠ [] ∧ c :: l = p ++ r) := by
  unfold one at h
  split at h
  · injection h with h
    injection h with hk h
    injection h with hp hr
    subst hk hp hr
    have e : c :: l = (c :: l.takeWhile (goes false)) ++ l.dropWhile (goes false) := by
      rw [List.cons_append, List.takeWhile_append_dropWhile]
    exact ⟨⟨_, e⟩, by decide, by decide, fun h => absurd h (by decide), fun _ => ⟨by simp, e⟩⟩
  · injection h with h
    injection h with hk h
    injection h with hp hr
    subst hk hp hr
    have e : c :: l = (c :: l.takeWhile (goes true)) ++ l.dropWhile (goes true) := by
      rw [List.cons_append, List.takeWhile_append_dropWhile]
    exact ⟨⟨_, e⟩, by decide, by decide, fun h => absurd h (by decide), fun _ => ⟨by simp, e⟩⟩
  · rename_i x hb
    cases ht : text l 1 with
    | error e => rw [ht] at h; cases h
    | ok v =>
      obtain ⟨q, r2⟩ := v
      rw [ht] at h
      injection h with h
      injection h with hk h
      injection h with hp hr
      subst hk hp hr
      obtain ⟨d, hd⟩ := text_suf _ l 1 q r2 (Nat.le_refl _) ht
      refine ⟨⟨c :: d, ?_⟩, by decide, by decide, fun _ => ?_, fun h => absurd rfl h⟩
      · rw [List.cons_append, ← hd]
      · unfold begins at hb
        by_cases h1 : letter c = true
        · rw [if_pos h1] at hb; injection hb with h1 h2; omega
        · rw [if_neg h1] at hb
          split at hb
          · injection hb with h1 h2; omega
          · by_cases h3 : (c == 34) = true
            · exact eq_of_beq h3
            · rw [if_neg h3] at hb
              split at hb
              · injection hb with h1 h2; omega
              · split at hb <;> (injection hb with h1 h2; omega)
  · cases h
  · rename_i k' n' h1 h2 h3 h4 hb
    injection h with h
    injection h with hk h
    injection h with hp hr
    subst hk hp hr
    obtain ⟨hk4, hn1, hn⟩ := begins_two hb h4 h1 h2 h3
    have e : c :: l = (c :: l).take n' ++ (c :: l).drop n' := (List.take_append_drop _ _).symm
    refine ⟨⟨_, e⟩, by omega, by omega, fun h => absurd h h3, fun _ => ⟨?_, e⟩⟩
    obtain ⟨m, rfl⟩ : ∃ m, n' = m + 1 := ⟨n' - 1, by omega⟩
    simp
theorem one_err {c : UInt8} {l : Bs} {m : Nat} {e : Int} (h : one c l = .error (m, e)) : m < l.length + 1 ∧ e ≠ 0 ∧ (e = 1 ∨ e = 12) := by
  unfold one at h
  split at h
  · cases h
  · cases h
  · cases ht : text l 1 with
    | error v =>
      rw [ht] at h
      injection h with h
      rw [h] at ht
      have := text_err _ l 1 m e (Nat.le_refl _) ht
      omega
    | ok v => rw [ht] at h; cases h
  · injection h with h
    injection h with h1 h2
    omega
  · cases h
theorem all_err (f : Nat) (l : Bs) (N : Nat) : (all f l N).2.2 = 0 ∨ (all f l N).2.2 = 1 ∨ (all f l N).2.2 = 12 := by
  induction f generalizing l with
  | zero => exact .inl rfl
  | succ f ih =>
    unfold all
    cases hs : skip false l with
    | nil => exact .inl rfl
    | cons c r =>
      simp only
      cases ho : one c r with
      | error v =>
        obtain ⟨m, e⟩ := v
        exact .inr (one_err ho).2.2
      | ok v => exact ih _
theorem all_places (S : Bs) (f : Nat) : ∀ (D l : Bs) (lo : Nat), S = D ++ l → lo ≤ D.length → l.length < f → Places S lo (all f l S.length).1 (all f l S.length).2 := by
  induction f with
  | zero => intro D l lo _ _ h; omega
  | succ f ih =>
    intro D l lo hS hlo hf
    have hSl : S.length = D.length + l.length := by rw [hS, List.length_append]
    obtain ⟨d, hd⟩ := skip_suf false l
    have hsl := skip_len false l
    unfold all
    cases hs : skip false l with
    | nil => exact ⟨by omega, Nat.le_refl _, fun _ => rfl, fun h => absurd rfl h⟩
    | cons c r =>
      rw [hs] at hd hsl
      have hdl : l.length = d.length + (r.length + 1) := by
        have := congrArg List.length hd
        rwa [List.length_append, List.length_cons] at this
      simp only
      cases ho : one c r with
      | error v =>
        obtain ⟨m, e⟩ := v
        obtain ⟨h1, h2, _⟩ := one_err ho
        exact ⟨by omega, by omega, fun h => absurd h h2, fun _ => by omega⟩
      | ok v =>
        obtain ⟨k, p, r'⟩ := v
        obtain ⟨⟨x, hx⟩, hk1, hk4, h34, hp⟩ := one_suf ho
        have hl := one_len ho
        have hxl : r.length + 1 = x.length + r'.length := by
          have := congrArg List.length hx
          rwa [List.length_append, List.length_cons] at this
        have hat : S.length - (r.length + 1) = (D ++ d).length := by rw [List.length_append]; omega
        have hSd : S = (D ++ d) ++ (c :: r) := by rw [hS, hd, List.append_assoc]
        have hdrop : S.drop (S.length - (r.length + 1)) = c :: r := by
          rw [hat]
          conv => lhs; rw [hSd]
          exact List.drop_left
        refine ⟨by simp only; omega, by simp only; omega, hk1, hk4, ?_, ?_, ?_⟩
        · intro h3
          have := congrArg (fun l : Bs => l[0]?) hdrop
          simp only [List.getElem?_drop, Nat.add_zero] at this
          show S[S.length - (r.length + 1)]? = _
          rw [this, h34 h3]
          rfl
        · intro h3
          obtain ⟨hp0, hpe⟩ := hp h3
          have hpl : r.length + 1 = p.length + r'.length := by
            have := congrArg List.length hpe
            rwa [List.length_append, List.length_cons] at this
          refine ⟨hp0, by simp only; omega, ?_⟩
          show (S.drop (S.length - (r.length + 1))).take p.length = p
          rw [hdrop, hpe]
          exact List.take_left
        · refine ih (D ++ d ++ x) r' _ ?_ ?_ (by omega)
          · rw [hSd, hx, List.append_assoc]
            simp [List.append_assoc]
          · simp only [List.length_append]
            omega
theorem text_cut (s : Bs) : ∀ (m i : Nat), text ((quoteIn s).take m) i = .error (0, 12) := by
  induction s with
  | nil =>
    intro m i
    show text ([].take m) i = _
    rw [List.take_nil]
    unfold text
    rfl
  | cons c s ih =>
    intro m i
    cases m with
    | zero => rw [List.take_zero]; unfold text; rfl
    | succ m =>
      unfold quoteIn
      by_cases h1 : c = 92 ∨ c = 34
      · rw [if_pos h1, List.take_succ_cons]
        unfold text
        rw [if_neg (by decide), if_neg (by decide), if_pos rfl]
        cases m with
        | zero => rfl
        | succ m =>
          rw [List.take_succ_cons]
          simp only [h1, if_true, ih, Except.map]
      · rw [if_neg h1]
        by_cases h2 : c = 10
        · rw [if_pos h2, List.take_succ_cons]
          unfold text
          rw [if_neg (by decide), if_neg (by decide), if_pos rfl]
          cases m with
          | zero => rfl
          | succ m =>
            rw [List.take_succ_cons]
            simp only [show ¬ ((110 : UInt8) = 92 ∨ (110 : UInt8) = 34) by decide, if_false, if_true, ih, Except.map]
        · rw [if_neg h2, List.take_succ_cons]
          unfold text
          rw [if_neg (fun h => h1 (.inr h)), if_neg h2, if_neg (fun h => h1 (.inl h)), ih]
          rfl
theorem one_34 (l : Bs) : one 34 l = (text l 1).map (fun r => (3, r.1, r.2)) := by
  unfold one
  rw [show begins 34 l = (3, 0) by unfold begins; rw [if_neg (by decide), if_neg (by simp only [show ((34 : UInt8) == 45) = false by decide, Bool.false_and, Bool.or_false]; decide), if_pos (by decide)]]
  rfl
theorem all_cut (s : Bs) (m f N : Nat) (hm : m ≤ (quoteIn s).length) (hN : N = m + 1) : all (f + 1) ((quote s).take (m + 1)) N = ([], 0, 12) := by
  have e : (quote s).take (m + 1) = 34 :: (quoteIn s).take m := by
    unfold quote
    rw [List.take_succ_cons, List.take_append_of_le_length hm]
  rw [e]
  unfold all
  rw [show skip false (34 :: (quoteIn s).take m) = 34 :: (quoteIn s).take m from rfl]
  simp only [one_34, text_cut, Except.map]
  rw [List.length_take, Nat.min_eq_left hm, hN]
  simp
theorem all_quote (s : Bs) (f N : Nat) (hN : N = (quote s).length + 5) : all (f + 2) ([32, 9] ++ (quote s ++ [35, 32, 34])) N = ([⟨3, 2, s⟩], N, 0) := by
  unfold all
  rw [show skip false ([32, 9] ++ (quote s ++ [35, 32, 34])) = 34 :: (quoteIn s ++ 34 :: [35, 32, 34]) by simp [quote, skip, white]]
  simp only [one_34, text_quote, Except.map]
  unfold all
  rw [show skip false [35, 32, 34] = [] from rfl]
  simp only [List.length_append, List.length_cons, List.length_nil]
  have : (quote s).length = (quoteIn s).length + 2 := by simp [quote]
  simp only [Prod.mk.injEq, List.cons.injEq, Tok.mk.injEq, true_and, and_true]
  omega
end Go.Proofs.YtbdochcajpempaaDoor.Lex
namespace Go.Proofs.YtbdochcajpempaaDoor.Lex

theorem skip_idem (b : Bool) (l : Bs) : skip false (skip b l) = skip b l := by
  induction l generalizing b with
  | nil => cases b <;> rfl
  | cons c l ih =>
    cases b with
    | true =>
      rw [skip_t]
      split
      · exact ih false
      · exact ih true
    | false =>
      rw [skip_f]
      by_cases hw : white c = true
      · rw [if_pos hw]; exact ih false
      · rw [if_neg hw]
        by_cases h35 : c = 35
        · rw [if_pos h35]; exact ih true
        · rw [if_neg h35, skip_f, if_neg hw, if_neg h35]
theorem all_skip (f : Nat) (l : Bs) (N : Nat) : all (f + 1) (skip false l) N = all (f + 1) l N := by
  conv => lhs; unfold all
  conv => rhs; unfold all
  rw [skip_idem]
theorem skip_head {c : UInt8} {r l : Bs} {b : Bool} (h : skip b l = c :: r) : white c = false ∧ c ≠ 35 := by
  have hi := skip_idem b l
  rw [h, skip_f] at hi
  by_cases hw : white c = true
  · rw [if_pos hw] at hi
    have := skip_len false r
    rw [hi] at this
    simp at this
    omega
  · refine ⟨by simpa using hw, fun h35 => ?_⟩
    rw [if_neg hw, if_pos h35] at hi
    have := skip_len true r
    rw [hi] at this
    simp at this
    omega
theorem all_err_at {f N : Nat} {c : UInt8} {r : Bs} {m : Nat} {e : Int} (hs : skip false (c :: r) = c :: r) (h : one c r = .error (m, e)) : all (f + 1) (c :: r) N = ([], N - (r.length + 1) + m, e) := by
  unfold all
  rw [hs]
  simp only [h]
theorem all_ok_at {f N : Nat} {c : UInt8} {r r' p : Bs} {k : Nat} (hs : skip false (c :: r) = c :: r) (h : one c r = .ok (k, p, r')) (hf : r.length < f) :
    all (f + 1) (c :: r) N = (⟨k, N - (r.length + 1), p⟩ :: (all (f + 1) (skip false r') N).1, (all (f + 1) (skip false r') N).2) := by
  have hl := one_len h
  rw [all_skip, all_fuel (f + 1) f r' N (by omega) (by omega)]
  conv => lhs; unfold all
  rw [hs]
  simp only [h]
theorem all_nil (f N : Nat) : all (f + 1) [] N = ([], N, 0) := by
  unfold all
  rfl
theorem begins_kind {c : UInt8} {l : Bs} {k n : Nat} (h : begins c l = (k, n)) : (k = 0 ∨ k = 1 ∨ k = 2 ∨ k = 3 ∨ k = 4) ∧ (k = 4 → 1 ≤ n ∧ n ≤ l.length + 1) := by
  refine ⟨?_, fun h4 => ?_⟩
  · unfold begins at h
    split at h
    · injection h with h1 h2; omega
    · split at h
      · injection h with h1 h2; omega
      · split at h
        · injection h with h1 h2; omega
        · split at h
          · injection h with h1 h2; omega
          · split at h <;> (injection h with h1 h2; omega)
  · have := begins_two h (by omega) (by omega) (by omega) (by omega)
    simpa using this.2
theorem one_kind {c : UInt8} {l : Bs} {k n : Nat} (h : begins c l = (k, n)) :
    (k = 0 → one c l = .error (0, 1)) ∧ (k = 1 → one c l = .ok (1, c :: l.takeWhile (goes false), l.dropWhile (goes false))) ∧ (k = 2 → one c l = .ok (2, c :: l.takeWhile (goes true), l.dropWhile (goes true))) ∧
    (k = 3 → one c l = (text l 1).map (fun r => (3, r.1, r.2))) ∧ (k = 4 → one c l = .ok (4, (c :: l).take n, (c :: l).drop n)) := by
  refine ⟨?_, ?_, ?_, ?_, ?_⟩ <;> intro hk <;> subst hk <;> unfold one <;> rw [h] <;> rfl
end Go.Proofs.YtbdochcajpempaaDoor.Lex
