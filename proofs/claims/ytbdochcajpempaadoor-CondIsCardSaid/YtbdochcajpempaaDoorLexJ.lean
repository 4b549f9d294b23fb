/- The walk of lex's All: a text's tokens, and where and what the first error is. -/
import Derived.Test.YtbdochcajpempaaDoorLexI
namespace Go.Proofs.YtbdochcajpempaaDoor
open Go.RowKit

theorem infoTok : (Tryd.prog.info? 47).map (fun i => (i.zero, i.size, i.bytes)) = some (some (.agg #[.int .i64 0, .int .i64 0, .string ⟨#[]⟩]), 3, 32) := by kernel_rfl
/-- what the loop of All holds at its head -/
def AllI (w : World) (s : ByteArray) (v : Value) (k : Nat) (xs : List Lex.Tok) (wr : World) : Prop :=
  k ≤ s.size ∧ xs.length ≤ k ∧ wr.ownsRow w.heap.size 47 3 v xs.length (xs.flatMap Lex.tokCells) ∧ Below w.heap.size w wr ∧ Lex.skip false ((Lex.bl s).drop k) = (Lex.bl s).drop k ∧
    Lex.all (s.size + 1) (Lex.bl s) s.size = (xs ++ (Lex.all (s.size + 1) ((Lex.bl s).drop k) s.size).1, (Lex.all (s.size + 1) ((Lex.bl s).drop k) s.size).2)

theorem AllI.start (w : World) (s : ByteArray) : AllI w s (.slice none 0 0) (Lex.skipAt s false 0) [] w := by
  have hd : (Lex.bl s).drop (Lex.skipAt s false 0) = Lex.skip false (Lex.bl s) := by
    obtain ⟨d, hd⟩ := Lex.skip_suf false (Lex.bl s)
    unfold Lex.skipAt
    rw [List.drop_zero]
    exact Lex.suf_drop (k := 0) (d := d) (by rw [List.drop_zero]; exact hd)
  refine ⟨(Lex.skipAt_ge s false 0 (Nat.zero_le _)).2, Nat.zero_le _, World.ownsRow_nil _ _ _ _, Below.refl _ _, ?_, ?_⟩
  · rw [hd, Lex.skip_idem]
  · rw [hd, Lex.all_skip]
    simp
/-- one token more -/
theorem AllI.step {w wr w2 : World} {s : ByteArray} {v v' : Value} {k kk : Nat} {xs : List Lex.Tok} {c : UInt8} {r r' p : Lex.Bs} (h : AllI w s v k xs wr) (hd : (Lex.bl s).drop k = c :: r) (ho : Lex.one c r = .ok (kk, p, r'))
    (hown : w2.ownsRow w.heap.size 47 3 v' (xs.length + 1) (xs.flatMap Lex.tokCells ++ [.int .i64 (kk : Int), .int .i64 (k : Int), .string ⟨p.toArray⟩])) (hb : Below w.heap.size w w2) :
    AllI w s v' (Lex.skipAt s false (s.size - r'.length)) (xs ++ [⟨kk, k, p⟩]) w2 ∧ k < Lex.skipAt s false (s.size - r'.length) := by
  obtain ⟨hk, hxs, _, _, hsk, hall⟩ := h
  have hl := congrArg List.length hd
  rw [List.length_drop, Lex.bl_len, List.length_cons] at hl
  obtain ⟨⟨d, hdr⟩, _⟩ := Lex.one_suf ho
  have hlen := Lex.one_len ho
  have hd2 : (Lex.bl s).drop (s.size - r'.length) = r' := Lex.suf_drop (hd.trans hdr)
  have hge := Lex.skipAt_ge s false (s.size - r'.length) (Nat.sub_le _ _)
  have hd3 : (Lex.bl s).drop (Lex.skipAt s false (s.size - r'.length)) = Lex.skip false r' := by
    obtain ⟨d2, hd2'⟩ := Lex.skip_suf false r'
    unfold Lex.skipAt
    rw [hd2]
    exact Lex.suf_drop (hd2.trans hd2')
  refine ⟨⟨hge.2, by simp; omega, ?_, hb, ?_, ?_⟩, by omega⟩
  · rw [List.flatMap_append, List.length_append]
    exact hown
  · rw [hd3, Lex.skip_idem]
  · rw [hd3, hall, hd]
    have hstep := Lex.all_ok_at (f := s.size) (N := s.size) (by rw [← hd]; exact hsk) ho (by omega)
    rw [hstep]
    have e : s.size - (r.length + 1) = k := by omega
    rw [e]
    simp [List.append_assoc]
theorem AllI.err {w wr : World} {s : ByteArray} {v : Value} {k : Nat} {xs : List Lex.Tok} {c : UInt8} {r : Lex.Bs} {m : Nat} {e : Int} (h : AllI w s v k xs wr) (hd : (Lex.bl s).drop k = c :: r) (ho : Lex.one c r = .error (m, e)) :
    Lex.all (s.size + 1) (Lex.bl s) s.size = (xs, k + m, e) := by
  obtain ⟨hk, _, _, _, hsk, hall⟩ := h
  have hl := congrArg List.length hd
  rw [List.length_drop, Lex.bl_len, List.length_cons] at hl
  rw [hall, hd, Lex.all_err_at (by rw [← hd]; exact hsk) ho]
  have e : s.size - (r.length + 1) = k := by omega
  rw [e, List.append_nil]
theorem AllI.later {w wr w3 : World} {s : ByteArray} {v : Value} {k : Nat} {xs : List Lex.Tok} (h : AllI w s v k xs wr) (hb : Below wr.heap.size wr w3) : AllI w s v k xs w3 := by
  obtain ⟨h1, h2, hown, hb0, h4, h5⟩ := h
  refine ⟨h1, h2, ⟨hown.1, ?_⟩, hb0.trans (hb.mono hb0.size), h4, h5⟩
  rcases hown.2 with h0 | ⟨g, cap, cur, hv, hbg, hg, rest⟩
  · exact .inl h0
  · exact .inr ⟨g, cap, cur, hv, hbg, (hb.block g (Array.getElem?_eq_some_iff.1 hg).1).trans hg, rest⟩
theorem AllI.end_ {w wr : World} {s : ByteArray} {v : Value} {k : Nat} {xs : List Lex.Tok} (h : AllI w s v k xs wr) (hk : ¬ k < s.size) : Lex.all (s.size + 1) (Lex.bl s) s.size = (xs, s.size, 0) := by
  obtain ⟨_, _, _, _, _, hall⟩ := h
  rw [hall, Lex.drop_all s k (by omega), Lex.all_nil, List.append_nil]
/-- what All hands back -/
def AllR (w : World) (s : ByteArray) (e : Ending) (w' : World) : Prop :=
  ∃ A n c, e = .returned (.tuple #[.slice A n c, .int .i64 ((Lex.all (s.size + 1) (Lex.bl s) s.size).2.1 : Nat), .int .i64 (Lex.all (s.size + 1) (Lex.bl s) s.size).2.2]) ∧ Toks w' w'.heap.size A n c (Lex.all (s.size + 1) (Lex.bl s) s.size).1 ∧ Below w.heap.size w w'
theorem AllI.ret {w wr : World} {s : ByteArray} {v : Value} {k : Nat} {xs : List Lex.Tok} {m : Nat} {e : Int} {x y : Int} (h : AllI w s v k xs wr) (he : Lex.all (s.size + 1) (Lex.bl s) s.size = (xs, m, e)) (hx : x = (m : Int)) (hy : y = e) :
    AllR w s (.returned (.tuple #[v, .int .i64 x, .int .i64 y])) wr := by
  obtain ⟨_, _, hown, hb, _, _⟩ := h
  obtain ⟨A, c, rfl, hT⟩ := Recs.of_own Lex.tokCells_len (by decide) hown
  refine ⟨A, xs.length, c, ?_, ?_, hb⟩
  · rw [he, hx, hy]
  · rw [he]; exact hT

set_option maxRecDepth 100000 in
set_option maxHeartbeats 4000000 in
theorem all_any (s : ByteArray) (hs : s.size ≤ 60000) (w : World) : Calls Tryd.prog 22 #[.string s] w fun e w' => AllR w s e w' := by
  obtain ⟨i0, hi, hz0, hz1, hz2⟩ := info_parts infoTok
  go_enter Tryd.func22, Tryd.ntmps22
  go_wp2_with fail
  refine (skip_at s 0 0 _ rfl (Nat.zero_le _) (by omega)).mono ?_
  rintro e w' ⟨rfl, rfl⟩
  go_wp2
  go_loopw [5, 6] (fun v i wr => ∃ (k : Nat) (xs : List Lex.Tok), i = .int .i64 k ∧ AllI w s v k xs wr) (fun _ i _ => s.size - (intOf i).toNat)
  case atStart => exact ⟨_, [], rfl, AllI.start w s⟩
  case round =>
    obtain ⟨k, xs, rfl, hI⟩ := hrel
    have hk := hI.1
    have hxs := hI.2.1
    have hb := hI.2.2.2.1
    have hbs := hb.size
    have HI := Lib.hid hI
    clear hI
    by_cases hlt : k < s.size
    · obtain ⟨c, hc⟩ : ∃ c, s[k] = c := ⟨_, rfl⟩
      have hd := Lex.drop_cons s k hlt
      rw [hc] at hd
      obtain ⟨r, hr⟩ : ∃ r, r = (Lex.bl s).drop (k + 1) := ⟨_, rfl⟩
      rw [← hr] at hd
      clear hr
      have hl := congrArg List.length hd
      rw [List.length_drop, Lex.bl_len, List.length_cons] at hl
      have HD := Lib.hid hd
      have HL := Lib.hid hl
      have hbl := (Lex.bl_from s k).trans hd
      have HB := Lib.hid hbl
      clear hd hl hbl
      obtain ⟨ao, cap, rfl⟩ : ∃ ao cap, u5 = .slice ao xs.length cap := by
        rcases HI.out.2.2.1.2 with ⟨hv, h0⟩ | ⟨g, cap, cur, hv, _⟩
        · exact ⟨none, 0, by rw [hv, h0]⟩
        · exact ⟨_, _, hv⟩
      have hne : ((xs.length : Int) == 65536) = false := by simp; omega
      rcases hbeg : Lex.begins c r with ⟨kk, nn⟩
      obtain ⟨hkk, hn4⟩ := Lex.begins_kind hbeg
      have HK := Lib.hid (Lex.one_kind hbeg)
      go_wp2_with fail
      refine (begins_at _ c r _ HB.out).mono ?_
      rintro e w' ⟨rfl, rfl⟩
      rw [hbeg]
      clear hbeg
      rcases hkk with rfl | rfl | rfl | rfl | rfl
      · have HO := Lib.hid (HK.out.1 rfl)
        clear HK hn4
        go_wp2
        go_ret3
        exact HI.out.ret (HI.out.err HD.out HO.out) (by simp) rfl
      · have HO := Lib.hid (HK.out.2.1 rfl)
        obtain ⟨m, hm⟩ : ∃ m, m = (r.takeWhile (Lex.goes false)).length + 1 := ⟨_, rfl⟩
        have hsp := Lex.while_len (Lex.goes false) r
        have hl := HL.out
        have hm1 : 1 ≤ m ∧ k + m ≤ s.size := by omega
        have HM := Lib.hid (show s.size - (r.dropWhile (Lex.goes false)).length = k + m by omega)
        have HP := Lib.hid (show s.extract k (k + m) = ⟨(c :: r.takeWhile (Lex.goes false)).toArray⟩ from Lex.piece (r := r.dropWhile (Lex.goes false)) (by rw [HD.out, List.cons_append, List.takeWhile_append_dropWhile]) (by simp [hm]))
        have HM0 := Lib.hid hm.symm
        clear HK hn4 hm hsp hl
        obtain ⟨hm1, hm2⟩ := hm1
        go_wp2_with fail
        refine (run_at _ false c r _ HB.out (by simp; omega)).mono ?_
        rintro e w' ⟨rfl, rfl⟩
        rw [HM0.out]
        go_wp2_with (at_builtin; refine wpList_append_own _ rfl _ _ 27 rfl w.heap.size 47 i0 _ 3 32 Tryd.underlying27 hi hz0 hz1 hz2 rfl (by decide) _ _ _ rfl (HI.out.2.2.1.alloc (.cells #[.int .i64 1, .int .i64 (k : Int), .string (s.extract k (k + m))] 47)) ⟨wr.heap.size, 0, none⟩ 1 1 [.int .i64 1, .int .i64 (k : Int), .string (s.extract k (k + m))] rfl rfl ?c1 ?c2 ?c3 ?c4 ?c5 ?_)
        case c1 =>
          intro j u hj
          match j, hj with
          | 0, hj => simp at hj; subst hj; simp [Addr.add]
          | 1, hj => simp at hj; subst hj; simp [Addr.add]
          | 2, hj => simp at hj; subst hj; simp [Addr.add]
        case c2 => intro u hu; simp at hu; rcases hu with rfl | rfl | rfl <;> rfl
        case c3 => unfold maxLen; omega
        case c4 => omega
        case c5 => simp; omega
        intro v' w2 hown' hgrow _
        have hb2 : Below w.heap.size w w2 := (hb.alloc hbs _).grown hgrow (by simp; omega) (fun g e => (HI.out.2.2.1.lt g e).1)
        clear hgrow
        rw [HP.out] at hown'
        obtain ⟨hst, hlt2⟩ := HI.out.step (kk := 1) HD.out HO.out hown' hb2
        have HST := Lib.hid hst
        clear hst hown'
        go_wp2_with fail
        refine (skip_at s _ (s.size - (r.dropWhile (Lex.goes false)).length) _ (by rw [HM.out]; simp) (by omega) (by omega)).mono ?_
        rintro e w' ⟨rfl, rfl⟩
        go_wp2
        go_roundw
        case rel => exact ⟨_, _, rfl, HST.out⟩
        case measure => simp [intOf]; omega
      · have HO := Lib.hid (HK.out.2.2.1 rfl)
        obtain ⟨m, hm⟩ : ∃ m, m = (r.takeWhile (Lex.goes true)).length + 1 := ⟨_, rfl⟩
        have hsp := Lex.while_len (Lex.goes true) r
        have hl := HL.out
        have hm1 : 1 ≤ m ∧ k + m ≤ s.size := by omega
        have HM := Lib.hid (show s.size - (r.dropWhile (Lex.goes true)).length = k + m by omega)
        have HP := Lib.hid (show s.extract k (k + m) = ⟨(c :: r.takeWhile (Lex.goes true)).toArray⟩ from Lex.piece (r := r.dropWhile (Lex.goes true)) (by rw [HD.out, List.cons_append, List.takeWhile_append_dropWhile]) (by simp [hm]))
        have HM0 := Lib.hid hm.symm
        clear HK hn4 hm hsp hl
        obtain ⟨hm1, hm2⟩ := hm1
        go_wp2_with fail
        refine (run_at _ true c r _ HB.out (by simp; omega)).mono ?_
        rintro e w' ⟨rfl, rfl⟩
        rw [HM0.out]
        go_wp2_with (at_builtin; refine wpList_append_own _ rfl _ _ 27 rfl w.heap.size 47 i0 _ 3 32 Tryd.underlying27 hi hz0 hz1 hz2 rfl (by decide) _ _ _ rfl (HI.out.2.2.1.alloc (.cells #[.int .i64 2, .int .i64 (k : Int), .string (s.extract k (k + m))] 47)) ⟨wr.heap.size, 0, none⟩ 1 1 [.int .i64 2, .int .i64 (k : Int), .string (s.extract k (k + m))] rfl rfl ?c1 ?c2 ?c3 ?c4 ?c5 ?_)
        case c1 =>
          intro j u hj
          match j, hj with
          | 0, hj => simp at hj; subst hj; simp [Addr.add]
          | 1, hj => simp at hj; subst hj; simp [Addr.add]
          | 2, hj => simp at hj; subst hj; simp [Addr.add]
        case c2 => intro u hu; simp at hu; rcases hu with rfl | rfl | rfl <;> rfl
        case c3 => unfold maxLen; omega
        case c4 => omega
        case c5 => simp; omega
        intro v' w2 hown' hgrow _
        have hb2 : Below w.heap.size w w2 := (hb.alloc hbs _).grown hgrow (by simp; omega) (fun g e => (HI.out.2.2.1.lt g e).1)
        clear hgrow
        rw [HP.out] at hown'
        obtain ⟨hst, hlt2⟩ := HI.out.step (kk := 2) HD.out HO.out hown' hb2
        have HST := Lib.hid hst
        clear hst hown'
        go_wp2_with fail
        refine (skip_at s _ (s.size - (r.dropWhile (Lex.goes true)).length) _ (by rw [HM.out]; simp) (by omega) (by omega)).mono ?_
        rintro e w' ⟨rfl, rfl⟩
        go_wp2
        go_roundw
        case rel => exact ⟨_, _, rfl, HST.out⟩
        case measure => simp [intOf]; omega
      · have HO := Lib.hid (HK.out.2.2.2.1 rfl)
        clear HK hn4
        go_wp2_with fail
        refine (text_at _ c r _ HB.out (by simp; omega)).mono ?_
        rintro e w3 ⟨rfl, hb3⟩
        rcases htx : Lex.text r 1 with ⟨m, er⟩ | ⟨p, r'⟩
        · have HO2 := Lib.hid (show Lex.one c r = .error (m, er) by rw [HO.out, htx]; rfl)
          have her := Lex.text_err _ r 1 m er (Nat.le_refl _) htx
          have HI3 := Lib.hid (HI.out.later hb3)
          have hl := HL.out
          have hkm : k + m ≤ s.size := by omega
          clear htx HO
          rw [show Lex.textV (r.length + 1) (Except.error (m, er)) = .tuple #[.string ⟨#[]⟩, .int .i64 (m : Int), .int .i64 er] from rfl]
          rcases her with ⟨rfl, rfl⟩ | ⟨rfl, her1, her2⟩
          · go_wp2
            go_ret3
            exact HI3.out.ret (HI3.out.err HD.out HO2.out) (by simp) rfl
          · go_wp2
            go_ret3
            exact HI3.out.ret (HI3.out.err HD.out HO2.out) (by simp) rfl
        · have ho2 : Lex.one c r = .ok (3, p, r') := by rw [HO.out, htx]; rfl
          have hl2 := Lex.one_len ho2
          have HO2 := Lib.hid ho2
          have HI3 := Lib.hid (HI.out.later hb3)
          obtain ⟨m, hm⟩ : ∃ m, m = r.length + 1 - r'.length := ⟨_, rfl⟩
          have hl := HL.out
          have hm1 : 1 ≤ m ∧ k + m ≤ s.size := by omega
          have HM := Lib.hid (show s.size - r'.length = k + m by omega)
          rw [show Lex.textV (r.length + 1) (Except.ok (p, r')) = .tuple #[.string ⟨p.toArray⟩, .int .i64 ((r.length + 1 - r'.length : Nat) : Int), .int .i64 0] from rfl, ← hm]
          clear htx HO ho2 hl2 hm
          obtain ⟨hm1, hm2⟩ := hm1
          have hbs3 := hb3.size
          go_wp2_with (at_builtin; refine wpList_append_own _ rfl _ _ 27 rfl w.heap.size 47 i0 _ 3 32 Tryd.underlying27 hi hz0 hz1 hz2 rfl (by decide) _ _ _ rfl (HI3.out.2.2.1.alloc (.cells #[.int .i64 3, .int .i64 (k : Int), .string (⟨p.toArray⟩)] 47)) ⟨w3.heap.size, 0, none⟩ 1 1 [.int .i64 3, .int .i64 (k : Int), .string (⟨p.toArray⟩)] rfl rfl ?c1 ?c2 ?c3 ?c4 ?c5 ?_)
          case c1 =>
            intro j u hj
            match j, hj with
            | 0, hj => simp at hj; subst hj; simp [Addr.add]
            | 1, hj => simp at hj; subst hj; simp [Addr.add]
            | 2, hj => simp at hj; subst hj; simp [Addr.add]
          case c2 => intro u hu; simp at hu; rcases hu with rfl | rfl | rfl <;> rfl
          case c3 => unfold maxLen; omega
          case c4 => omega
          case c5 => simp; omega
          intro v' w2 hown' hgrow _
          have hb2 : Below w.heap.size w w2 := ((hb.trans (hb3.mono hbs)).alloc (by omega) _).grown hgrow (by simp; omega) (fun g e => (HI3.out.2.2.1.lt g e).1)
          clear hgrow
          obtain ⟨hst, hlt2⟩ := HI3.out.step (kk := 3) HD.out HO2.out hown' hb2
          have HST := Lib.hid hst
          clear hst hown'
          go_wp2_with fail
          refine (skip_at s _ (s.size - r'.length) _ (by rw [HM.out]; simp) (by omega) (by omega)).mono ?_
          rintro e w' ⟨rfl, rfl⟩
          go_wp2
          go_roundw
          case rel => exact ⟨_, _, rfl, HST.out⟩
          case measure => simp [intOf]; omega
      · obtain ⟨p, hp⟩ : ∃ p, p = (c :: r).take nn := ⟨_, rfl⟩
        obtain ⟨r', hr'⟩ : ∃ r', r' = (c :: r).drop nn := ⟨_, rfl⟩
        have ho := HK.out.2.2.2.2 rfl
        have hcat : (Lex.bl s).drop k = p ++ r' := by rw [HD.out, hp, hr', List.take_append_drop]
        have hn := hn4 rfl
        have hl := HL.out
        have hm1 : 1 ≤ nn ∧ k + nn ≤ s.size := by omega
        have HM := Lib.hid (show s.size - r'.length = k + nn by rw [hr', List.length_drop, List.length_cons]; omega)
        have HP := Lib.hid (show s.extract k (k + nn) = ⟨p.toArray⟩ from Lex.piece hcat (by rw [hp, List.length_take, List.length_cons]; omega))
        rw [← hp, ← hr'] at ho
        have HO := Lib.hid ho
        clear HK hn4 hn hl hp hr' ho hcat
        obtain ⟨hm1, hm2⟩ := hm1
        go_wp2_with (at_builtin; refine wpList_append_own _ rfl _ _ 27 rfl w.heap.size 47 i0 _ 3 32 Tryd.underlying27 hi hz0 hz1 hz2 rfl (by decide) _ _ _ rfl (HI.out.2.2.1.alloc (.cells #[.int .i64 4, .int .i64 (k : Int), .string (s.extract k (k + nn))] 47)) ⟨wr.heap.size, 0, none⟩ 1 1 [.int .i64 4, .int .i64 (k : Int), .string (s.extract k (k + nn))] rfl rfl ?c1 ?c2 ?c3 ?c4 ?c5 ?_)
        case c1 =>
          intro j u hj
          match j, hj with
          | 0, hj => simp at hj; subst hj; simp [Addr.add]
          | 1, hj => simp at hj; subst hj; simp [Addr.add]
          | 2, hj => simp at hj; subst hj; simp [Addr.add]
        case c2 => intro u hu; simp at hu; rcases hu with rfl | rfl | rfl <;> rfl
        case c3 => unfold maxLen; omega
        case c4 => omega
        case c5 => simp; omega
        intro v' w2 hown' hgrow _
        have hb2 : Below w.heap.size w w2 := (hb.alloc hbs _).grown hgrow (by simp; omega) (fun g e => (HI.out.2.2.1.lt g e).1)
        clear hgrow
        rw [HP.out] at hown'
        obtain ⟨hst, hlt2⟩ := HI.out.step (kk := 4) HD.out HO.out hown' hb2
        have HST := Lib.hid hst
        clear hst hown'
        go_wp2_with fail
        refine (skip_at s _ (s.size - r'.length) _ (by rw [HM.out]; simp) (by omega) (by omega)).mono ?_
        rintro e w' ⟨rfl, rfl⟩
        go_wp2
        go_roundw
        case rel => exact ⟨_, _, rfl, HST.out⟩
        case measure => simp [intOf]; omega
    · go_wp2
      go_ret3
      exact HI.out.ret (HI.out.end_ hlt) rfl rfl
end Go.Proofs.YtbdochcajpempaaDoor
