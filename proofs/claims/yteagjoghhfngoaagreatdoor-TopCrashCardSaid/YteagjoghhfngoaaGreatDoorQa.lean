import Derived.Below
import Derived.BigQuiet
import Derived.BigRegion
import Derived.Calls
import Derived.ChangeAlike
import Derived.ChangeSame
import Derived.Deep.AppendLies
import Derived.Deep.AppendSrc
import Derived.Deep.Cut
import Derived.Deep.CutRange
import Derived.Deep.DeepAppendWide
import Derived.Deep.Draws
import Derived.Deep.Fields
import Derived.Deep.LoopGhost
import Derived.Deep.OwnRows
import Derived.Deep.QuietTactic
import Derived.Deep.RegionHeld3
import Derived.Deep.Slices
import Derived.Deep.WholeRow
import Derived.DeepKeys4
import Derived.IntWalk
import Derived.KernelRfl
import Derived.LaidEql
import Derived.Laws.AppendOwn
import Derived.Laws.BytesArg
import Derived.Laws.CopyOwn
import Derived.Laws.CopyRow
import Derived.Laws.Externs
import Derived.Laws.MakeOwn
import Derived.Laws.OwnMore
import Derived.Laws.RangeAny
import Derived.Laws.Rows
import Derived.Laws.Strings
import Derived.Laws.StructEq
import Derived.Lib.AppendStr
import Derived.Lib.AppendZeros
import Derived.Lib.AppendZerosOnto
import Derived.Lib.Builder
import Derived.Lib.EndianBits
import Derived.Lib.Hide
import Derived.Lib.Index
import Derived.Lib.IndexLaws
import Derived.Lib.ItoaLen
import Derived.Lib.ItoaMem
import Derived.Lib.ItoaNum
import Derived.Lib.JoinLaws
import Derived.Lib.LaidTab
import Derived.Lib.OthersKept
import Derived.Lib.Overlaps
import Derived.Lib.SliceRun
import Derived.Lib.Slices
import Derived.Lib.SmallJoins
import Derived.Lib.Strings
import Derived.Lib.TrimByte
import Derived.Lib.UnsafeStr
import Derived.LoopIn
import Derived.LoopNIn
import Derived.LoopTactic
import Derived.Maps.AppendAt
import Derived.Maps.RangeWalk
import Derived.OwnWalk
import Derived.OwnWalkIn
import Derived.ProofKit
import Derived.RangeFuncBound
import Derived.RangeFuncBox
import Derived.RangeFuncCalls
import Derived.RangeFuncLeaves
import Derived.RangeFuncNested
import Derived.Recover
import Derived.RegionTactic
import Derived.Shelf.Abstract
import Derived.Shelf.LaysM
import Derived.Shelf.RegionOpen
import Derived.Shelf.RegionOpenPlain
import Derived.Shelf.Small.Bits
import Derived.Shelf.Small.Strs
import Derived.Shelf.Small.Utf8
import Derived.Shelf.Small.Wraps
import Derived.Shelf.Spec.SlicesInsert
import Derived.Shelf.Strconv.Itoa0
import Derived.Shelf.Strconv.Itoa1
import Derived.Shelf.Strconv.Itoa2
import Derived.Shelf.Strconv.Itoa3
import Derived.Shelf.Strings.AsciiSet
import Derived.Shelf.Strings.Builder1
import Derived.Shelf.Strings.BuilderF
import Derived.Shelf.Strings.BuilderK
import Derived.Shelf.Strings.Prefix
import Derived.Shelf.Strings.Runes
import Derived.Shelf.Strings.Search1
import Derived.Shelf.Strings.Trim
import Derived.Shelf.Unicode.DecodeSlow
import Derived.Sort.Grow
import Derived.Sort.Statements
import Derived.TacticsInMore
import Derived.WalkKit
import Derived.WalkLawsBesides
import Derived.WalkSpells
import GoSem.Op.String
import Derived.Test.YteagjoghhfngoaaGreatDoorProg
set_option maxRecDepth 100000
set_option maxHeartbeats 32000000
set_option linter.all false
namespace Go.Proofs.YteagjoghhfngoaaGreatDoor
namespace Mem
end Mem
namespace aw
end aw
open Go.RowKit Tryz Value List Mem aw
variable{p:Addr} {B m n:Nat} {W X w:World} {P Q b c d e g h i j:Prop} {G0:Oper} {v x y z:Value} {L:Array Bool} {r:List Value} {cs:Array Value}
namespace Mem
theorem rG (a:Addr) (n:Nat):(a.add n).block=a.block:=by grind[Addr.add]
theorem Zb (a:Addr) (i j:Nat):(a.add i).add j=a.add (i+j):=by grind[Addr.add]
def Reads (w:World) (B size:Nat) (A:Option Addr) (n:Nat) (xs:List Value):Prop:=
 xs.length=n*size/\(0<n-> ∃a,A=some a/\a.block<B/\ ∀j b,xs[j]?=some b->w.cell? (a.add j)=some b)
section
variable{w w':World} {B B' size n:Nat} {A:Option Addr} {xs:List Value}
theorem Reads.keep (a:Reads w B size A n xs) (k: ∀p:Addr,p.block<B->w'.cell? p=w.cell? p):Reads w' B size A n xs:=
 ⟨a.1,λc=>by
  obtain⟨h,e,b,i⟩:=a.2 c;exact⟨h,e,b,λj f d=>(k _ (by rw[rG];exact b)).trans (i j f d)⟩⟩
def Reads.alloc (b:Reads w B size A n xs) (d:B<=w.heap.size) (a:Obj):Reads (w.alloc a) B size A n xs:=b.keep λp c=>World.cell?_alloc_lt w a p (by omega)
theorem Reads.cut (a:Reads w B size A n xs) {k cap:Nat} (f:k<=n) (e:n<=cap):
 Reads w B size (if cap=k then A else A.map (·.add (k*size))) (n-k) (xs.drop (k*size)):=by refine⟨by rw[length_drop,a.1,Nat.sub_mul],λb=>?_⟩;obtain⟨d,rfl,h,c⟩:=a.2 (by omega);grind[rG,Zb]
def Reads.dV {base:Nat} {e:TypeId} {c:Nat} (a:w.ownsRow base e size (.slice A n c) n xs):Reads w w.heap.size size A n xs:=by
 refine⟨a.1,λd=>?_⟩;obtain⟨g,cap,h,_,f⟩:=a.form d;have b:A=some ⟨g,0,none⟩:=by injection h
 subst b;exact⟨_,rfl,f,a.cells (g:=g) rfl⟩
end
def af (w:World) (g:Nat) (t:TypeId) (cs:Array Value):Prop:=w.heap[g]?=some (.cells cs t (0,0))
section
variable{w w':World} {g:Nat} {t:TypeId} {cs:Array Value}
theorem af.lt (a:af w g t cs):g<w.heap.size:=by grind[af]
def af.cell (a:af w g t cs) (i:Nat):w.cell? ⟨g,i,none⟩=cs[i]?:=cell_of_row w g i cs t (0,0) a
def af.frozen (a:af w g t cs) (i:Nat):w.frozen? ⟨g,i,none⟩=false:=by unfold af at a;simp[World.frozen?,a]
def af.new (w:World) (t:TypeId) (cs:Array Value):af (w.alloc (.cells cs t)) w.heap.size t cs:=heap_alloc_new w _
def af.drew (a:af w g t cs):af w.drew g t cs:=a
def af.drewN (a:af w g t cs) (n:Nat):af (w.drewN n) g t cs:=a
def af.alloc (b:af w g t cs) (a:Obj):af (w.alloc a) g t cs:=(Below.heap_alloc w a g b.lt).trans b
theorem af.ay (b:af w g t cs) (i:Nat) (a:Value):af (w.setCell ⟨g,i,none⟩ a) g t (cs.setIfInBounds i a):=by grind[World.setCell,af]
def af.aI (c:af w g t cs) (b:g≠p.block) (a:Value):af (w.setCell p a) g t cs:=(Below.heap_setCell w p a g b).trans c
def af.below (c:af w g t cs) (b:Below B w w') (a:g<B):af w' g t cs:=(b.block g a).trans c
def af.grown {a:Option Nat} (b:af w g t cs) (d:w.grownBy w' a) (c:some g≠a):af w' g t cs:=(d.block g b.lt c).trans b
theorem af.Tw {k:Nat} {H7:TypeId} {cs':Array Value} (a:af w g t cs) (b:af w k H7 cs') (c:t≠H7):g≠k:=by grind[af]
theorem qv {base:Nat} {e:TypeId} {size n:Nat} {v:Value} {xs:List Value} (a:w.ownsRow base e size v n xs) (b:af w g t cs) (f:e≠t):v.ownBlock≠some g:=by obtain⟨rfl,_⟩|⟨c,cap,h,rfl,_,d,_⟩:=a.2;{simp[Value.ownBlock]};intro i;(have:c=g:=by grind[Value.ownBlock]);subst this;exact af.Tw (t:=e) d b f rfl
end
section
variable{P:Program} (w:World)
def TU (base:Nat) (t h e:TypeId) (i:TypeInfo) (size:Nat) (b:P.underlying t=some (.slice e)) (a:P.info? e=some i)
 (v:Value) (n:Nat) (xs:List Value) (f:w.ownsRow base e size v n xs) (c:Nat):(Builtin.append_ #[t,t] h #[v,.slice none 0 c]).run P w= .ok v w:=by obtain⟨rfl,rfl⟩|⟨g,cap,j,rfl,_,_,d,_⟩:=f.2;{simp[Builtin.append_,run_underlying b,sizeOf,typeInfo,a,Builtin.lenOf,Builtin.firstCells]};simp[Builtin.append_,run_underlying b,sizeOf,typeInfo,a,Builtin.lenOf,Builtin.firstCells,d,storeCells]
theorem FP (base:Nat) (t k e:TypeId) (i:TypeInfo) (z:Value) (size p:Nat) (r:P.underlying t=some (.slice e)) (s:P.info? e=some i) (F:i.zero=some z)
 (H:i.size=size) (C:i.bytes=p) (J:z.cells.size=size) (y:0<size)
 (v:Value) (n:Nat) (xs:List Value) (l:w.ownsRow base e size v n xs)
 (B:Nat) (A:Option Addr) (m c:Nat) (news:List Value) (f:Reads w B size A m news) (I: ∀b∈news,b.oneCell'=true)
 (x:n+m<=maxLen) (u:(n+m)*p<=140737488355328) (E:base<=w.heap.size):
 ∃d w',(Builtin.append_ #[t,t] k #[v,.slice A m c]).run P w= .ok d w'/\w'.ownsRow base e size d (n+m) (xs++news)/\w.grownBy w' v.ownBlock/\
  (d.ownBlock=v.ownBlock\/d.ownBlock=some w.heap.size):=by obtain _|o:=A;{(have D:m=0:=by obtain a|a:=Nat.eq_zero_or_pos m;{exact a};obtain⟨o,q,_⟩:=f.2 a;cases q);subst D;have h:news=[]:=eq_nil_of_length_eq_zero (by simpa using f.1);subst h;exact⟨v,w,TU w base t k e i size r s v n xs l c,by simpa using l,World.grownBy.refl w _,.inl rfl⟩};(have K: ∀j b,news[j]?=some b->w.cell? (o.add j)=some b:=by intro j b G;obtain a|a:=Nat.eq_zero_or_pos m;{subst a;have h:news=[]:=eq_nil_of_length_eq_zero (by simpa using f.1);subst h;simp at G};obtain⟨M,q,_,R⟩:=f.2 a;grind);obtain⟨d,w',N,Q,L,_,O⟩:=run_append_own_at (P:=P) w base t k e i z size p r s F H C J y v n xs l o m c news f.1 K I x u E;grind
theorem Gd {G0:Oper} {a:Act} {K:Act->World->Prop} {H8:Exit->Act->World->Prop} (s x:Operand) (t:TypeId)
 (f:G0.op= .call {callee:= .builtin .append,args:= #[s,x],argTypes:= #[t,t]})
 (base:Nat) (e:TypeId) (i:TypeInfo) (z:Value) (size d:Nat) (j:P.underlying t=some (.slice e)) (E:P.info? e=some i) (C:i.zero=some z)
 (I:i.size=size) (r:i.bytes=d) (N:z.cells.size=size) (q:0<size)
 (v:Value) (n:Nat) (xs:List Value) (k:a.eval s=v) (D:w.ownsRow base e size v n xs)
 (B:Nat) (A:Option Addr) (m c:Nat) (news:List Value) (H:a.eval x= .slice A m c) (M:Reads w B size A m news) (J: ∀u∈news,u.oneCell'=true)
 (p:n+m<=maxLen) (o:(n+m)*d<=140737488355328) (y:base<=w.heap.size)
 (h: ∀b w',w'.ownsRow base e size b (n+m) (xs++news)->w.grownBy w' v.ownBlock->(b.ownBlock=v.ownBlock\/b.ownBlock=some w.heap.size)->K (a.put G0.dst b) w'):G0.wp P a w K H8:=by obtain⟨b,w',F,G,l,L⟩:=FP (P:=P) w base t G0.type e i z size d j E C I r N q v n xs D B A m c news M J p o y;unfold Oper.wp execOp;simp only[f,resolve,invoke,builtin,Sem.run_bind,Sem.run_pure,Result.andThen_ok,map_toArray,map_cons,map_nil,k,H,F];exact h b w' G l L
def nd {G9:Array Oper} {rest:List Oper} {G0:Oper} {a:Act} {H8:Exit->Act->World->Prop} (F:G0.guard=none) (s x:Operand) (t:TypeId)
 (f:G0.op= .call {callee:= .builtin .append,args:= #[s,x],argTypes:= #[t,t]})
 (base:Nat) (e:TypeId) (i:TypeInfo) (z:Value) (size d:Nat) (j:P.underlying t=some (.slice e)) (E:P.info? e=some i) (C:i.zero=some z)
 (I:i.size=size) (r:i.bytes=d) (N:z.cells.size=size) (q:0<size)
 (v:Value) (n:Nat) (xs:List Value) (k:a.eval s=v) (D:w.ownsRow base e size v n xs)
 (B:Nat) (A:Option Addr) (m c:Nat) (news:List Value) (H:a.eval x= .slice A m c) (L:Reads w B size A m news) (J: ∀u∈news,u.oneCell'=true)
 (p:n+m<=maxLen) (o:(n+m)*d<=140737488355328) (y:base<=w.heap.size)
 (h: ∀b w',w'.ownsRow base e size b (n+m) (xs++news)->w.grownBy w' v.ownBlock->(b.ownBlock=v.ownBlock\/b.ownBlock=some w.heap.size)->wpList P G9 H8 rest (a.put G0.dst b) w'):wpList P G9 H8 (G0::rest) a w:=
 wpList_plain F λ_ M=>Gd w s x t f base e i z size d j E C I r N q v n xs k D B A m c news H L J p o y λb w' G l K=>M _ _ (h b w' G l K)
theorem Ue {G9:Array Oper} {G0:Oper} {a:Act} {K:Act->World->Prop} {H8:Exit->Act->World->Prop} {E:Prop} (F:G0.guard=none) (s x:Operand) (t:TypeId)
 (h:G0.op= .call {callee:= .builtin .append,args:= #[s,x],argTypes:= #[t,t]})
 (base:Nat) (e:TypeId) (i:TypeInfo) (z:Value) (size d:Nat) (k:P.underlying t=some (.slice e)) (D:P.info? e=some i) (y:i.zero=some z)
 (H:i.size=size) (r:i.bytes=d) (L:z.cells.size=size) (q:0<size)
 (v:Value) (n:Nat) (xs:List Value) (l:a.eval s=v) (C:w.ownsRow base e size v n xs)
 (B:Nat) (A:Option Addr) (m c:Nat) (news:List Value) (G:a.eval x= .slice A m c) (J:Reads w B size A m news) (I: ∀f∈news,f.oneCell'=true)
 (p:n+m<=maxLen) (o:(n+m)*d<=140737488355328) (u:base<=w.heap.size)
 (j: ∀b w',w'.ownsRow base e size b (n+m) (xs++news)->w.grownBy w' v.ownBlock->(b.ownBlock=v.ownBlock\/b.ownBlock=some w.heap.size)->K (a.put G0.dst b) w'):
 if Region.wanted G0 (yielded G9 a.tmps)=true then Oper.wp P G0 a w K H8 else E:=by grind[Region.wanted,Gd]
end
def below_drewN {a:World} (b:Below B a w) (n:Nat):Below B a (w.drewN n):=⟨b.os,b.tape,b.output,b.size,b.block⟩
def Bk {a:World} {b:Option Nat} (c:a.grownBy w b) (e:Obj):a.grownBy (w.alloc e) b:=
 ⟨c.os,c.tape,c.output,Nat.le_trans c.size (by simp),λi d f=>(Below.heap_alloc w e i (Nat.lt_of_lt_of_le d c.size)).trans (c.block i d f)⟩
def mA {a:World} {g:Nat} (b:a.grownBy w (some g)) (c:p.block=g\/a.heap.size<=p.block) (d:Value):a.grownBy (w.setCell p d) (some g):=
 ⟨b.os,b.tape,b.output,by simpa[World.setCell]using b.size,λi f e=>(Below.heap_setCell w p d i (by
  rintro rfl;obtain c|c:=c;{exact e (by rw[c])};omega)).trans (b.block i f e)⟩
def nV {a:World} (b:Below a.heap.size a w) (d:Option Nat):a.grownBy w d:=⟨b.os,b.tape,b.output,b.size,λi c _=>b.block i c⟩
open Go.ChangeShapes Go.WideShapes Go.Deep
end Mem
section
variable{P:Program} {ops:Array Oper} {Q:Exit->Act->World->Prop} {md:Region.Mode} {S:World->Prop}
def tk (i:Nat) {a a2:Act} (b:wpAnyH P md ops Q S n (L.setIfInBounds i true) a2 w) (j:S w:=by exact hH)
 (e:ops[i]?=some G0:=by(simp only[getElem?_toArray,getElem?_cons_succ,getElem?_cons_zero];exact rfl))
 (f:Region.noSelect ops=true:=by kernel_rfl) (m:Region.free md ops L i=true:=by kernel_rfl) (h:(Region.ready md ops L).contains i=true:=by kernel_rfl)
 (d: ∀c a w,Q (.panic c) (a.put G0.dst v) w->Q (.panic c) a w:=by first|exact λ_ _ _ b=>b|exact λ_ _ _ b=>qM _ (by decide) b) (l:Region.wanted G0 (yielded ops a.tmps)=true:=by rfl)
 (hy: ∀wq,S wq->(execOp a.eval G0).run P wq= .ok (.value v) wq:=by intro wq hSw;go_simp;all_goals(with_reducible rfl))
 (k:a.put G0.dst v=a2:=by((try simp only[Act.put,setIfInBounds_toArray,set_cons_zero,set_cons_succ]);rfl)):wpAnyH P md ops Q S (n+1) L a w:=
 wpAnyH_take e f m h d (.inl ⟨l,hy⟩) j (k▸b)
def cw (i:Nat) {a a2:Act} (b:wpAnyH P md ops Q S n (L.setIfInBounds i true) a2 w) (j:S w:=by exact hH)
 (e:ops[i]?=some G0:=by(simp only[getElem?_toArray,getElem?_cons_succ,getElem?_cons_zero];exact rfl))
 (f:Region.noSelect ops=true:=by kernel_rfl) (m:Region.free md ops L i=true:=by kernel_rfl) (h:(Region.ready md ops L).contains i=true:=by kernel_rfl)
 (d: ∀c a w,Q (.panic c) (a.put G0.dst undef) w->Q (.panic c) a w:=by exact λ_ _ _ b=>b) (l:Region.wanted G0 (yielded ops a.tmps)=false:=by rfl)
 (k:a.put G0.dst undef=a2:=by((try simp only[Act.put,setIfInBounds_toArray,set_cons_zero,set_cons_succ]);rfl)):wpAnyH P md ops Q S (n+1) L a w:=
 wpAnyH_take e f m h d (.inr ⟨l,rfl⟩) j (k▸b)
def aV (i:Nat) {a:Act}
 (b: ∀K':Act->World->Prop,Shut (∀a w,S w->(S w->wpAnyH P md ops Q S n (L.setIfInBounds i true) a w)->K' a w)->if Region.wanted G0 (yielded ops a.tmps)=true then Oper.wp P G0 a w K' Q else K' (a.put G0.dst undef) w)
 (c:ops[i]?=some G0:=by(simp only[getElem?_toArray,getElem?_cons_succ,getElem?_cons_zero];exact rfl)) (d:Region.ready md ops L=[i]:=by kernel_rfl):wpAnyH P md ops Q S (n+1) L a w:=
 wpAnyH_ready d (by simp) (AllReadyH.cons c b AllReadyH.nil)
def be {a a2:Act} {K:Act->World->Prop} (c:Shut (∀a w,S w->(S w->wpAnyH P md ops Q S n L a w)->K a w)) (e:S w) (b:S w->wpAnyH P md ops Q S n L a2 w)
 (d:a=a2:=by((try simp only[Act.put,setIfInBounds_toArray,set_cons_zero,set_cons_succ]);rfl)):K a w:=
 c.out _ _ e (d▸b)
def dj {a:Act} (b:Q .normal a w) (c:Region.ready md ops L=[]:=by kernel_rfl):wpAnyH P md ops Q S n L a w:=wpAnyH_done c b n
def cO {id:Nat} {a:Act} (c:Below w.heap.size w w.drew->wpAnyH P .any ops Q (λW'=>Below w.heap.size w W') ops.size (Array.replicate ops.size false) a w.drew) (b:P.follows .mixedOrders=true:=by kernel_rfl):(Code.region id ops true).wp P Q a w:=
 wp_region_held_drew b (Below.refl _ _).drew c
end
def hJ {p:Prop} (a:p):Hid p:=a
def _root_.Go.RowKit.Hid.o {p:Prop} (a:Hid p):p:=a
def aq {a:Prop} (c:a) (a1:b):Hid a/\Hid b:=⟨c,a1⟩
def aM {a:Prop} (d:a) (a1:b) (a2:c):Hid a/\Hid b/\Hid c:=⟨d,a1,a2⟩
def bJ {a:Prop} (f:a) (a1:c) (a2:d) (e:b):Hid a/\Hid c/\Hid d/\Hid b:=⟨f,a1,a2,e⟩
def de {a:Prop} (i:b) (a1:d) (a2:e) (h:c) (f:a):Hid b/\Hid d/\Hid e/\Hid c/\Hid a:=⟨i,a1,a2,h,f⟩
def dN {f a:Prop} (k:b) (a1:d) (a2:f) (j:c) (h:a) (i:e):Hid b/\Hid d/\Hid f/\Hid c/\Hid a/\Hid e:=⟨k,a1,a2,j,h,i⟩
def jx {a f:Prop} (m:b) (a1:e) (a2:h) (k:d) (i:a) (j:f) (l:c):Hid b/\Hid e/\Hid h/\Hid d/\Hid a/\Hid f/\Hid c:=⟨m,a1,a2,k,i,j,l⟩
def tN {f a:Prop} (o:c) (a1:f) (a2:i) (m:e) (j:b) (k:h) (n:d) (l:a):Hid c/\Hid f/\Hid i/\Hid e/\Hid b/\Hid h/\Hid d/\Hid a:=⟨o,a1,a2,m,j,k,n,l⟩
def Ax {f a:Prop} (q:c) (a1:f) (a2:j) (n:e) (k:b) (l:h) (p:d) (m:a) (o:i):Hid c/\Hid f/\Hid j/\Hid e/\Hid b/\Hid h/\Hid d/\Hid a/\Hid i:=⟨q,a1,a2,n,k,l,p,m,o⟩
def zV {f k a:Prop} (s:c) (a1:f) (a2:k) (p:e) (l:b) (m:h) (r:d) (n:a) (q:i) (o:j):Hid c/\Hid f/\Hid k/\Hid e/\Hid b/\Hid h/\Hid d/\Hid a/\Hid i/\Hid j:=⟨s,a1,a2,p,l,m,r,n,q,o⟩
def EX {a m l k f:Prop} (y:a) (a1:m) (a2:l) (v:c) (o:i) (p:j) (s:b) (x:h) (n:k) (q:d) (u:f) (r:e):Hid a/\Hid m/\Hid l/\Hid c/\Hid i/\Hid j/\Hid b/\Hid h/\Hid k/\Hid d/\Hid f/\Hid e:=⟨y,a1,a2,v,o,p,s,x,n,q,u,r⟩
section
variable{w:World} {g:Nat} {t:TypeId}
def fR (a:af w g t (x::y::r).toArray):w.cell? ⟨g,0,none⟩=some x/\w.cell? ⟨g,1,none⟩=some y:=⟨a.cell 0,a.cell 1⟩
def mX (a:af w g t (x::y::z::r).toArray):w.cell? ⟨g,0,none⟩=some x/\w.cell? ⟨g,1,none⟩=some y/\w.cell? ⟨g,2,none⟩=some z:=⟨a.cell 0,a.cell 1,a.cell 2⟩
def Fw {a:Value} (b:af w g t (x::z::y::a::r).toArray):w.cell? ⟨g,0,none⟩=some x/\w.cell? ⟨g,1,none⟩=some z/\w.cell? ⟨g,2,none⟩=some y/\w.cell? ⟨g,3,none⟩=some a:=⟨b.cell 0,b.cell 1,b.cell 2,b.cell 3⟩
def cW5 {a d:Value} (b:af w g t (x::a::z::d::y::r).toArray):w.cell? ⟨g,0,none⟩=some x/\w.cell? ⟨g,1,none⟩=some a/\w.cell? ⟨g,2,none⟩=some z/\w.cell? ⟨g,3,none⟩=some d/\w.cell? ⟨g,4,none⟩=some y:=⟨b.cell 0,b.cell 1,b.cell 2,b.cell 3,b.cell 4⟩
def cW8 {b a c d e:Value} (f:af w g t (y::b::a::c::z::d::x::e::r).toArray):w.cell? ⟨g,0,none⟩=some y/\w.cell? ⟨g,1,none⟩=some b/\w.cell? ⟨g,2,none⟩=some a/\w.cell? ⟨g,3,none⟩=some c/\w.cell? ⟨g,4,none⟩=some z/\w.cell? ⟨g,5,none⟩=some d/\w.cell? ⟨g,6,none⟩=some x/\w.cell? ⟨g,7,none⟩=some e:=⟨f.cell 0,f.cell 1,f.cell 2,f.cell 3,f.cell 4,f.cell 5,f.cell 6,f.cell 7⟩
def bD (a:af w g t (x::r).toArray):w.cell? ⟨g,0,none⟩=some x:=a.cell 0
def bL (a:af w g t (y::x::r).toArray):w.cell? ⟨g,1,none⟩=some x:=a.cell 1
def dp (a:af w g t (y::z::x::r).toArray):w.cell? ⟨g,2,none⟩=some x:=a.cell 2
def dF {a:Value} (b:af w g t (y::a::z::x::r).toArray):w.cell? ⟨g,3,none⟩=some x:=b.cell 3
def eW {a d:Value} (b:af w g t (a::y::d::z::x::r).toArray):w.cell? ⟨g,4,none⟩=some x:=b.cell 4
def jd {d e a:Value} (b:af w g t (d::y::e::a::z::x::r).toArray):w.cell? ⟨g,5,none⟩=some x:=b.cell 5
def jA {e b d a:Value} (c:af w g t (e::z::b::d::a::y::x::r).toArray):w.cell? ⟨g,6,none⟩=some x:=c.cell 6
def kJ {e b d a c:Value} (f:af w g t (e::z::b::d::a::y::c::x::r).toArray):w.cell? ⟨g,7,none⟩=some x:=f.cell 7
def mS {b c e d f a:Value} (h:af w g t (b::z::c::e::d::y::f::a::x::r).toArray):w.cell? ⟨g,8,none⟩=some x:=h.cell 8
def nM {c a f b e h d:Value} (i:af w g t (c::a::f::b::e::z::h::d::y::x::r).toArray):w.cell? ⟨g,9,none⟩=some x:=i.cell 9
def ta {f a h c e i d b:Value} (j:af w g t (f::a::h::c::e::z::i::d::y::b::x::r).toArray):w.cell? ⟨g,10,none⟩=some x:=j.cell 10
def pQ {h a i c e j d b f:Value} (k:af w g t (h::a::i::c::e::z::j::d::y::b::f::x::r).toArray):w.cell? ⟨g,11,none⟩=some x:=k.cell 11
def sU {i a j c e k d b f h:Value} (l:af w g t (i::a::j::c::e::z::k::d::y::b::f::h::x::r).toArray):w.cell? ⟨g,12,none⟩=some x:=l.cell 12
def sZ {j d k f b a l e c h i:Value} (m:af w g t (j::d::k::f::b::a::l::e::z::c::h::i::y::x::r).toArray):w.cell? ⟨g,13,none⟩=some x:=m.cell 13
def qh (a:af w g t cs):w.frozen? ⟨g,0,none⟩=false/\w.frozen? ⟨g,1,none⟩=false:=⟨a.frozen 0,a.frozen 1⟩
def wo (a:af w g t cs):w.frozen? ⟨g,0,none⟩=false/\w.frozen? ⟨g,1,none⟩=false/\w.frozen? ⟨g,2,none⟩=false:=⟨a.frozen 0,a.frozen 1,a.frozen 2⟩
def fJ4 (a:af w g t cs):w.frozen? ⟨g,0,none⟩=false/\w.frozen? ⟨g,1,none⟩=false/\w.frozen? ⟨g,2,none⟩=false/\w.frozen? ⟨g,3,none⟩=false:=⟨a.frozen 0,a.frozen 1,a.frozen 2,a.frozen 3⟩
def fJ5 (a:af w g t cs):w.frozen? ⟨g,0,none⟩=false/\w.frozen? ⟨g,1,none⟩=false/\w.frozen? ⟨g,2,none⟩=false/\w.frozen? ⟨g,3,none⟩=false/\w.frozen? ⟨g,4,none⟩=false:=⟨a.frozen 0,a.frozen 1,a.frozen 2,a.frozen 3,a.frozen 4⟩
end
def aJ {w W:World} {cs:Array Value} {T:TypeId} (a:w.alloc (.cells cs T)=W):af W w.heap.size T cs/\Below w.heap.size w W/\w.heap.size<W.heap.size:=by
 subst a
 exact⟨af.new w T cs,(Below.refl _ w).alloc (Nat.le_refl _) _,by simp⟩
def mr {w v W:World} {cs ds:Array Value} {T H7:TypeId} (b:w.alloc (.cells cs T)=v) (c:v.alloc (.cells ds H7)=W):af W w.heap.size T cs/\af W (w.heap.size+1) H7 ds/\Below w.heap.size w W/\w.heap.size<W.heap.size/\w.heap.size+1<W.heap.size:=by
 subst b c
 have a:=af.new (w.alloc (.cells cs T)) H7 ds
 rw[World.size_alloc]at a
 exact⟨(af.new w T cs).alloc _,a,((Below.refl _ w).alloc (Nat.le_refl _) _).alloc (by simp) _,by simp;omega,by simp⟩
def oy (a:P:=by omega):P:=a
def iy (a:P:=by simp):P:=a
def uy (a:P:=by(simp;omega)):P:=a
def ry (a:P:=by kernel_rfl):P:=a
def dy (a:P:=by decide):P:=a
def ly (a:P:=by repeat(first|assumption|exact Below.refl _ _|apply Mem.below_drewN|apply Below.drew|refine Below.alloc ?_ (by first|assumption|omega|(simp;done)|(simp;omega)) _|refine Below.setCell ?_ (by first|assumption|omega|(simp;done)|(simp;omega)) _)):P:=a
def gy (a:P:=by(simp only[getElem?_toArray,getElem?_cons_succ,getElem?_cons_zero];exact rfl)):P:=a
def my (a:P:=by(unfold maxLen;omega)):P:=a
def ny:n<=n:=Nat.le_refl n
def xR {H2:Sort _} (a:H2): ∃x,a=x:=⟨_,rfl⟩
def xS {H2:Sort _} (a:H2): ∃x,x=a:=⟨_,rfl⟩
def gC {F4:Type}:(∀ (l:List F4) (i:Nat),l.toArray[i]?=l[i]?)/\(∀ (a:F4) (l:List F4) (i:Nat),(a::l)[i+1]?=l[i]?)/\(∀ (a:F4) (l:List F4),(a::l)[0]?=some a):=⟨λ_ _=>getElem?_toArray,λ_ _ _=>getElem?_cons_succ,λ_ _=>getElem?_cons_zero⟩
def gS {F4:Type}:(∀ (l:List F4) (i:Nat) (a:F4),l.toArray.setIfInBounds i a=(l.set i a).toArray)/\(∀ (x:F4) (l:List F4) (n:Nat) (a:F4),(x::l).set (n+1) a=x::l.set n a)/\(∀ (x:F4) (l:List F4) (a:F4),(x::l).set 0 a=a::l):=⟨λ_ _ _=>setIfInBounds_toArray ..,λ_ _ _ _=>set_cons_succ,λ_ _ _=>set_cons_zero⟩
def bC {b i:Nat} {w':World} {v:Option Value} (d:Below B w w') (a:w.cell? ⟨b,i,none⟩=v) (c:b<B:=by first|assumption|omega|(simp;done)|(simp;omega)):w'.cell? ⟨b,i,none⟩=v:=(d.cell (p:=⟨b,i,none⟩) c).trans a
def bB {B g:Nat} {w w':World} {t:TypeId} {cs:Array Value} (b:Below B w w') (k:af w g t cs) (a:g<B:=by first|assumption|omega|(simp;done)|(simp;omega)):af w' g t cs:=k.below b a
def bT {v:World} (b:Below B W v) (k:Below v.heap.size v w) (a:B<=v.heap.size:=by first|exact Below.size (by assumption)|assumption|omega):Below B W w:=b.trans (k.mono a)
def bU {v:World} (a:Below W.heap.size W v) (k:Below v.heap.size v w):Below W.heap.size W w:=a.trans (k.mono a.size)
def Mem.af.q {w W X:World} {g:Nat} {t:TypeId} {cs ds:Array Value} (a:af w g t cs) (e:X=W) (k:af w g t cs->af X g t ds:=by(intro a;repeat(first|with_reducible exact a|with_reducible apply af.ay|with_reducible apply af.alloc|with_reducible apply af.drew|with_reducible apply af.aI|focus(first|assumption|omega|(simp;done)|(simp;omega))))):af W g t ds:=e▸k a
def bQ {v:World} (a:Below B v w) (e:X=W) (k:Below B v w->Below B v X:=by(intro a;repeat(first|with_reducible exact a|with_reducible apply Below.drew|with_reducible apply Below.alloc|with_reducible apply Below.setCell|focus(first|assumption|omega|(simp;done)|(simp;omega))))):Below B v W:=e▸k a
def nQ {w W:World} {t:TypeId} {cs:Array Value} (e:w.alloc (.cells cs t)=W):af W w.heap.size t cs:=e▸af.new w t cs
def lQ (e:X=W) (k:Below B w X:=by repeat(first|with_reducible assumption|with_reducible exact Below.refl _ _|with_reducible apply Mem.below_drewN|with_reducible apply Below.drew|with_reducible apply Below.alloc|with_reducible apply Below.setCell|focus(first|assumption|omega|(simp;done)|(simp;omega)))):Below B w W:=e▸k
def zQ (e:X=W) (k:X.heap.size=n:=by(try simp only[World.size_setCell,World.size_alloc]);rfl):W.heap.size=n:=e▸k
section
variable{P:Program} {ops:Array Oper} {Q:Exit->Act->World->Prop} {md:Region.Mode} {S:World->Prop}
def tf (i:Nat) {F:World->Prop} {a a2:Act} (hF: ∀wq,S wq->F wq) (b:wpAnyH P md ops Q S n (L.setIfInBounds i true) a2 w) (j:S w:=by exact hH)
 (f:ops[i]?=some G0:=by(simp only[getElem?_toArray,getElem?_cons_succ,getElem?_cons_zero];exact rfl))
 (g:Region.noSelect ops=true:=by kernel_rfl) (m:Region.free md ops L i=true:=by kernel_rfl) (h:(Region.ready md ops L).contains i=true:=by kernel_rfl)
 (e: ∀c a w,Q (.panic c) (a.put G0.dst v) w->Q (.panic c) a w:=by first|exact λ_ _ _ b=>b|exact λ_ _ _ b=>qM _ (by decide) b) (l:Region.wanted G0 (yielded ops a.tmps)=true:=by rfl)
 (hy: ∀wq,S wq->F wq->(execOp a.eval G0).run P wq= .ok (.value v) wq:=by intro wq hSw hF;(repeat(have hG:=hF.1;replace hF:=hF.2));go_simp;all_goals(with_reducible rfl))
 (k:a.put G0.dst v=a2:=by((try simp only[Act.put,setIfInBounds_toArray,set_cons_zero,set_cons_succ]);rfl)):wpAnyH P md ops Q S (n+1) L a w:=
 wpAnyH_take f g m h e (.inl ⟨l,λwq d=>hy wq d (hF wq d)⟩) j (k▸b)
end
def bj {p:Prop} [Decidable p] (a:¬p):decide p=false:=decide_eq_false a
def bG {p:Prop} [Decidable p] (a:p):decide p=true:=decide_eq_true a
def br {F6:Type _} {l:List F6} {i:Nat} (a:i<l.length):l[i]?=some l[i]:=getElem?_eq_getElem a
theorem bu {F6:Type _} {a b:List F6}:(a++b).length=a.length+b.length:=length_append
theorem bZ {F6:Type _} {i:Nat} {a:F6} {l:List F6}:l[i]?=some a↔ ∃b:i<l.length,l[i]=a:=List.getElem?_eq_some_iff
def cz {F6:Type _} {l:List F6} {i:Nat} {a:F6} (b:l[i]?=some a):a∈l:=mem_of_getElem? b
def aG {c:Prop} {a:Decidable c} (k:¬c) {H2:Sort _} {t e:H2}:(if c then t else e)=e:=if_neg k
def aK {c:Prop} {a:Decidable c} (k:c) {H2:Sort _} {t e:H2}:(if c then t else e)=t:=if_pos k
def dS {k:Nat} (a:n<m) (g:m<=k):n<k:=Nat.lt_of_lt_of_le a g
def dH (a:n<m):n<=m:=Nat.le_of_lt a
def cK {k:Nat} (a:n<=m) (g:m<=k):n<=k:=Nat.le_trans a g
def cm (a b:Bool):((a&&b)=true)=(a=true/\b=true):=Bool.and_eq_true a b
theorem cC {F6 β:Type _} {l:List F6} (f:F6->β):(l.map f).length=l.length:=length_map f
def dE {F6:Type _} {i:Nat} {l:List F6} (a:l.length<=i):l.take i=l:=take_of_length_le a
theorem cH {F6:Type _} {a:F6} {l:List F6}:(a::l).length=l.length+1:=length_cons
def fj (w:World) (a b:Addr) (v:Value) (c:a≠b):(w.setCell a v).cell? b=w.cell? b:=World.cell?_setCell_other w a b v c
def dw {F6 β:Type _} {f:F6->β} {l:List F6} {i:Nat}:(l.map f)[i]?=l[i]?.map f:=getElem?_map
def gm {F6:Type _} {i:Nat} {b:F6} {l:Array F6}:l[i]?=some b↔ ∃a:i<l.size,l[i]=b:=Array.getElem?_eq_some_iff
def dP {p:Prop} [Decidable p]:(decide p=true)=p:=decide_eq_true_eq
def eX {F6 β:Type _} {a b:List F6} {f:F6->List β}:(a++b).flatMap f=a.flatMap f++b.flatMap f:=flatMap_append
def ed {F6:Type _} (a b c:List F6):a++b++c=a++(b++c):=append_assoc a b c
def fA (n:Int) (a:-9223372036854775808<=n/\n<=9223372036854775807):IntKind.i64.wrap n=n:=IntWalk.i64_in n a
theorem je {F6:Type _} {l:List F6} (a:l.length=0):l=[]:=eq_nil_of_length_eq_zero a
theorem et {F6:Type _} {i:Nat} {l:List F6}:(l.take i).length=min i l.length:=length_take
def fS {F6:Type _} {a b:F6}:a∈[b]↔a=b:=mem_singleton
def eQ {F6:Type _} {a:F6} {s t:List F6}:a∈s++t↔a∈s\/a∈t:=mem_append
theorem gK {F6:Type _} {l:List F6} {i:Nat}:l.take (i+1)=l.take i++l[i]?.toList:=take_add_one
def fF {F6:Type _} {a:F6} {l:List F6} (b:a∈l): ∃i:Nat,l[i]?=some a:=getElem?_of_mem b
def gW {F6:Type _} (y:F6) {a:F6} {l:List F6} (b:a∈l):a∈y::l:=mem_cons_of_mem y b
theorem gJ {F6:Type _} {i:Nat} {l:List F6}:(l.drop i).length=l.length-i:=length_drop
def fx {F6 β:Type _} {b:β} {f:F6->β} {l:List F6}:b∈l.map f↔ ∃a,a∈l/\f a=b:=mem_map
def gl {F6:Type _} {a:F6} {l:List F6}:a∈a::l:=mem_cons_self
theorem gX {F6 β:Type _} {x:F6} {l:List F6} {f:F6->List β}:(x::l).flatMap f=f x++l.flatMap f:=flatMap_cons
def ir {F6 β:Type _} {f:F6->β} {a b:List F6}:(a++b).map f=a.map f++b.map f:=map_append
theorem lu {F6:Type _} {a:F6} {l m:List F6}:a::l++m=a::(l++m):=cons_append
def re {F6:Type _} [BEq F6] [LawfulBEq F6] {a b:F6}:(a==b)=false↔a≠b:=beq_eq_false_iff_ne
def mT {p:Prop} [Decidable p] (a:decide p=true):p:=of_decide_eq_true a
def jY (n:Nat):n=0\/n>0:=Nat.eq_zero_or_pos n
theorem fQ {F6:Type _}:([]:List F6).length=0:=length_nil
def na {F6:Type _} (l:List F6):l++[]=l:=append_nil l
theorem jb {F6:Type _} (l:List F6):[]++l=l:=nil_append l
theorem fI {F6:Type _} {b:F6} {l:List F6} {a:F6}:a∈b::l↔a=b\/a∈l:=mem_cons
def jE {F6:Type _} {i:Nat} {l:List F6} (a:i<l.length):l.drop i=l[i]::l.drop (i+1):=drop_eq_getElem_cons a
def kI {F6:Type _} {l:Array F6}:l.toList.length=l.size:=Array.length_toList
def dR (n:Nat):0<=n:=Nat.zero_le n
abbrev Wd:=World
abbrev au:=ByteArray
abbrev ah (a:Type _):=Option a
abbrev ai:=Value
abbrev ak:=Addr
abbrev aU:=UInt8
abbrev Bs:=List aU
abbrev ch:=TypeId
abbrev bO (w:World) (v:Value) (e:Ending) (w':World):Prop:=e= .returned v/\Below w.heap.size w w'
abbrev az (w w':World):Prop:=Below w.heap.size w w'
def gG (a:P) (a1:Q):P/\Q:=⟨a,a1⟩
def lx {a:Prop} (b:P) (a1:Q) (a2:a):P/\Q/\a:=⟨b,a1,a2⟩
def FH {a:Prop} (d:P) (a1:a) (a2:b) (c:Q):P/\a/\b/\Q:=⟨d,a1,a2,c⟩
def Tz {a:Prop} (f:Q) (a1:b) (a2:c) (e:a) (d:P):Q/\b/\c/\a/\P:=⟨f,a1,a2,e,d⟩
def jn6 {a:Prop} (h:Q) (a1:b) (a2:d) (g:a) (e:P) (f:c):Q/\b/\d/\a/\P/\c:=⟨h,a1,a2,g,e,f⟩
def Fu {a:Prop} (j:Q) (a1:c) (a2:e) (h:b) (f:P) (g:d) (i:a):Q/\c/\e/\b/\P/\d/\a:=⟨j,a1,a2,h,f,g,i⟩
def jn9 {a f:Prop} (n:a) (a1:d) (a2:g) (k:c) (h:Q) (i:e) (m:b) (j:P) (l:f):a/\d/\g/\c/\Q/\e/\b/\P/\f:=⟨n,a1,a2,k,h,i,m,j,l⟩
def aiK {a f:Prop} (p:a) (a1:d) (a2:h) (m:c) (i:Q) (j:e) (o:b) (k:P) (n:f) (l:g):a/\d/\h/\c/\Q/\e/\b/\P/\f/\g:=⟨p,a1,a2,m,i,j,o,k,n,l⟩
abbrev an (b a:Nat):Addr:=⟨b,a,none⟩
abbrev bR (b n c:Nat):Value:=.slice (some ⟨b,0,none⟩) n c
abbrev bK (b:Nat):Value:=.pointer (some ⟨b,0,none⟩)
section
variable{P:Program} {ops:Array Oper} {Q:Exit->Act->World->Prop} {md:Region.Mode} {S F:World->Prop} {f g:Nat} {l l':Array Bool} {a b:Act} {w:World}
structure Wk (P:Program) (md:Region.Mode) (ops:Array Oper) (Q:Exit->Act->World->Prop) (S:World->Prop) (is:List Nat) (f:Nat) (l:Array Bool) (a:Act) (g:Nat) (l':Array Bool) (b:Act):Prop where
 o: ∀w,S w->wpAnyH P md ops Q S g l' b w->wpAnyH P md ops Q S f l a w
def Wk.no:Wk P md ops Q S [] f l a f l a:=⟨λ_ _ c=>c⟩
def Wk.co (i:Nat) {d:List Nat} {a2:Act}
 (m:ops[i]?=some G0) (o:Region.noSelect ops=true) (r:Region.free md ops l i=true) (n:(Region.ready md ops l).contains i=true)
 (h: ∀c a w,Q (.panic c) (a.put G0.dst v) w->Q (.panic c) a w) (q:Region.wanted G0 (yielded ops a.tmps)=true)
 (hy: ∀wq,S wq->(execOp a.eval G0).run P wq= .ok (.value v) wq) (p:a.put G0.dst v=a2) (k:Wk P md ops Q S d f (l.setIfInBounds i true) a2 g l' b):Wk P md ops Q S (i::d) (f+1) l a g l' b:=⟨λ_ e j=>tk i (k.o _ e j) e m o r n h q hy p⟩
def ts (e:List Nat) (c:wpAnyH P md ops Q S g l' b w) (d:S w:=by exact hH) (k:Wk P md ops Q S e f l a g l' b:=by repeat(first|exact Wk.no|(apply Wk.co;(focus(simp only[getElem?_toArray,getElem?_cons_succ,getElem?_cons_zero];exact rfl));kernel_rfl;kernel_rfl;kernel_rfl;(first|exact λ_ _ _ c=>c|exact λ_ _ _ c=>qM _ (by decide) c);rfl;(focus(intro wq hSw;go_simp;all_goals(with_reducible rfl)));(focus((try simp only[Act.put,setIfInBounds_toArray,set_cons_zero,set_cons_succ]);rfl))))):wpAnyH P md ops Q S f l a w:=k.o w d c
def te (h:List Nat) (c:Q .normal b w) (e:S w:=by exact hH) (k:Wk P md ops Q S h f l a g l' b:=by repeat(first|exact Wk.no|(apply Wk.co;(focus(simp only[getElem?_toArray,getElem?_cons_succ,getElem?_cons_zero];exact rfl));kernel_rfl;kernel_rfl;kernel_rfl;(first|exact λ_ _ _ c=>c|exact λ_ _ _ c=>qM _ (by decide) c);rfl;(focus(intro wq hSw;go_simp;all_goals(with_reducible rfl)));(focus((try simp only[Act.put,setIfInBounds_toArray,set_cons_zero,set_cons_succ]);rfl))))) (d:Region.ready md ops l'=[]:=by kernel_rfl):wpAnyH P md ops Q S f l a w:=k.o w e (wpAnyH_done d c g)
structure Wf (P:Program) (md:Region.Mode) (ops:Array Oper) (Q:Exit->Act->World->Prop) (S F:World->Prop) (is:List Nat) (f:Nat) (l:Array Bool) (a:Act) (g:Nat) (l':Array Bool) (b:Act):Prop where
 o: ∀w,S w->(∀wq,S wq->F wq)->wpAnyH P md ops Q S g l' b w->wpAnyH P md ops Q S f l a w
def Wf.no:Wf P md ops Q S F [] f l a f l a:=⟨λ_ _ _ c=>c⟩
def Wf.co (i:Nat) {d:List Nat} {a2:Act}
 (m:ops[i]?=some G0) (o:Region.noSelect ops=true) (r:Region.free md ops l i=true) (n:(Region.ready md ops l).contains i=true)
 (h: ∀c a w,Q (.panic c) (a.put G0.dst v) w->Q (.panic c) a w) (q:Region.wanted G0 (yielded ops a.tmps)=true)
 (hy: ∀wq,S wq->F wq->(execOp a.eval G0).run P wq= .ok (.value v) wq) (p:a.put G0.dst v=a2) (k:Wf P md ops Q S F d f (l.setIfInBounds i true) a2 g l' b):Wf P md ops Q S F (i::d) (f+1) l a g l' b:=⟨λ_ e hF j=>tf i hF (k.o _ e hF j) e m o r n h q hy p⟩
def tg (e:List Nat) (hF: ∀wq,S wq->F wq) (c:wpAnyH P md ops Q S g l' b w) (d:S w:=by exact hH) (k:Wf P md ops Q S F e f l a g l' b:=by repeat(first|exact Wf.no|(apply Wf.co;(focus(simp only[getElem?_toArray,getElem?_cons_succ,getElem?_cons_zero];exact rfl));kernel_rfl;kernel_rfl;kernel_rfl;(first|exact λ_ _ _ c=>c|exact λ_ _ _ c=>qM _ (by decide) c);rfl;(focus(intro wq hSw hF;(try simp only[and_assoc]at hF);(repeat(have hG:=hF.1;replace hF:=hF.2));go_simp;all_goals(with_reducible rfl)));(focus((try simp only[Act.put,setIfInBounds_toArray,set_cons_zero,set_cons_succ]);rfl))))):wpAnyH P md ops Q S f l a w:=k.o w d hF c
def th (h:List Nat) (hF: ∀wq,S wq->F wq) (c:Q .normal b w) (e:S w:=by exact hH) (k:Wf P md ops Q S F h f l a g l' b:=by repeat(first|exact Wf.no|(apply Wf.co;(focus(simp only[getElem?_toArray,getElem?_cons_succ,getElem?_cons_zero];exact rfl));kernel_rfl;kernel_rfl;kernel_rfl;(first|exact λ_ _ _ c=>c|exact λ_ _ _ c=>qM _ (by decide) c);rfl;(focus(intro wq hSw hF;(try simp only[and_assoc]at hF);(repeat(have hG:=hF.1;replace hF:=hF.2));go_simp;all_goals(with_reducible rfl)));(focus((try simp only[Act.put,setIfInBounds_toArray,set_cons_zero,set_cons_succ]);rfl))))) (d:Region.ready md ops l'=[]:=by kernel_rfl):wpAnyH P md ops Q S f l a w:=k.o w e hF (wpAnyH_done d c g)
end
def po (h:P:=by intro j a3 s;match j,s with|0,s=>(simp at s;subst s;simp[Addr.add])|1,s=>(simp at s;subst s;simp[Addr.add])):P:=h
def gI (h:P:=by first|exact bG oy|exact bj oy):P:=h
def dO (h:P:=by simp only;omega):P:=h
def FG (h:P:=by intro j b a;match j,a with|0,a=>(simp at a;subst a;simp[Addr.add])|1,a=>(simp at a;subst a;simp[Addr.add])|2,a=>(simp at a;subst a;simp[Addr.add])|3,a=>(simp at a;subst a;simp[Addr.add])|4,a=>(simp at a;subst a;simp[Addr.add])|5,a=>(simp at a;subst a;simp[Addr.add])|6,a=>(simp at a;subst a;simp[Addr.add])):P:=h
def jB (h:P:=by first|omega|(simp;done)|(simp;omega)):P:=h
def TD (h:P:=by exact λq e=>by injection e with e;omega):P:=h
def jc (h:P:=by simp[Value.oneCell']):P:=h
def iO (h:P:=by rw[z.o];exact u):P:=h
def rm (h:P:=by exact λ_ _ _ a=>a):P:=h
def mo (h:P:=by first|(simp;done)|(simp;omega)):P:=h
def rz (h:P:=by exact λk e=>by injection e with e;omega):P:=h
def ri (h:P:=by exact λe=>by injection e with e;omega):P:=h
def tJ (h:P:=by exact λx y m=>by injection m):P:=h
def vqv (h:P:=by rw[o,show(k:Int)+1=((k+1:Nat):Int)by omega];exact fA _ oy):P:=h
def wb (h:P:=by simp only[Nat.min_def];split<;>omega):P:=h
def vQg (h:P:=by exact λk e=>by simp[Value.ownBlock]at e;omega):P:=h
def rq (h:P:=by exact λc p a e=>(b _ e.symm).1 c p a rfl):P:=h
def Aq (h:P:=by simp at e;simp only;omega):P:=h
def nP (h:P:=by rw[e];rfl):P:=h
def jZ (h:P:=by rw[z.o];omega):P:=h
def vQq (h:P:=by have:=f.size;simp at this;omega):P:=h
def vQr (h:P:=by exact λg e=>fP.qN m.o e):P:=h
def nR (h:P:=by exact λ_=>rfl):P:=h
def tI (h:P:=by rw[d.1.1];exact f):P:=h
def Fv (h:P:=by injection x with g;injection g with a b;exact⟨a,b⟩):P:=h
def Aj (h:P:=by simp[Act.eval,Act.put]):P:=h
def vzg (h:P:=by exact λp e=>by cases e):P:=h
def FC (h:P:=by rw[bne_iff_ne];exact b):P:=h
def vzk (h:P:=by exact λq e=>by injection e with e;have:=r.o;omega):P:=h
def vzp (h:P:=by rw[b];simp):P:=h
def Fq (h:P:=by have:=l.o.size;omega):P:=h
def FJ (h:P:=by have:=l.o.size;omega):P:=h
def im (h:P:=by assumption):P:=h
def Ao (h:P:=by unfold gD;rw[Option.bind_some,a];rfl):P:=h
def Az (h:P:=by obtain⟨m,n,c,Z,u,_⟩:=d;exact u.lt):P:=h
def Au (h:P:=by unfold kD;rw[Option.bind_some,a];rfl):P:=h
def Tx (h:P:=by rw[bne_iff_ne];exact d):P:=h
def TQ (h:P:=by exact λv z=>M v (mem_of_mem_drop z)):P:=h
def As (h:P:=by have:=O.size;omega):P:=h
def tK (h:P:=by unfold aC.top;omega):P:=h
def Am (h:P:=by rw[<-a1.o];unfold pf;simp;omega):P:=h
def vZf (h:P:=by simp at a1;omega):P:=h
def Aw (h:P:=by simp only[UInt8.toNat_ofNat'];omega):P:=h
def tG (h:P:=by rw[beq_iff_eq];omega):P:=h
def vX (h:P:=by rw[g.len];exact i):P:=h
def Ay (h:P:=by exact λk e=>(l.o.lt k e).1):P:=h
def An (h:P:=by rw[i];exact r):P:=h
theorem Ai (h:P:=by unfold Addr.add;split<;>simp_all):P:=h
def Ah (h:P:=by exact λe=>by have:=c _ e.symm;omega):P:=h
def AA (h:P:=by injection e):P:=h
def vZt (h:P:=by exact λf a=>aO.ge R (e5.o f a)):P:=h
def vZv (h:P:=by rw[<-e7.o];exact e6.o.symm):P:=h
def Ap (h:P:=by exact λp e=>by have:=c9 p e;omega):P:=h
def TM (h:P:=by simp[results,results63,go_sem,a4,a5,a6,a7]):P:=h
def tP (h:P:=by rw[e];exact m):P:=h
def Fs (h:P:=by rw[show f.val.2.2=f.x.2 from rfl,a3];simp):P:=h
def TH (h:P:=by rw[Lib.cell_of_heap f];rfl):P:=h
def TN (h:P:=by rw[Lib.cell_of_heap d];rfl):P:=h
def vxj (h:P:=by have:=(g q e).2;omega):P:=h
def Ty (h:P:=by simp[results,results39,go_sem,b1,b3,b2]):P:=h
def FE (h:P:=by rw[g.1.1];exact l):P:=h
def FF (h:P:=by rw[u.o];exact t):P:=h
def vxs (h:P:=by exact λW d=>hH.trans (d.mono hH.size)):P:=h
def oZ (h:P:=by rw[e]):P:=h
def FD (h:P:=by rw[o.o];rfl):P:=h
def TJ (h:P:=by simp[results,results77,go_sem,J,L]):P:=h
def wB (h:P:=by exact λq a=>b q (gW _ a)):P:=h
def AB (h:P:=by exact λb=>b rfl):P:=h
def TE (h:P:=by intro e;injection e with e;omega):P:=h
def vXg (h:P:=by exact λq e=>(g q e).1):P:=h
def vXh (h:P:=by have:=r.size;omega):P:=h
def vXi (h:P:=by exact λe=>by have:=u r e.symm;omega):P:=h
def vXj (h:P:=by exact λe=>by have:=u k e.symm;omega):P:=h
def Fx (h:P:=by rw[g,e];rfl):P:=h
def vXm (h:P:=by rw[x];rfl):P:=h
def vXn (h:P:=by have:=d3.size;omega):P:=h
def TS (h:P:=by unfold maxLen at G;exact G):P:=h
def vXv (h:P:=by exact λ_ _=>rfl):P:=h
def Ag (h:P:=by exact λk e=>by cases e):P:=h
def Av (h:P:=by unfold top;omega):P:=h
def Fy (h:P:=by rw[d.1];exact g):P:=h
def mu (h:P:=by rw[re];omega):P:=h
def vjf (h:P:=by exact λa=> .inr (by rw[a];rfl)):P:=h
instance:CoeOut World Nat:=⟨λw=>w.heap.size⟩
instance:Coe Int Value:=⟨int .i64⟩
instance:Coe Nat Value:=⟨λn=>int .i64 n⟩
instance:Coe Bool Value:=⟨bool⟩
instance:Coe ByteArray Value:=⟨string⟩
instance:Coe Unit Value:=⟨λ_=>slice none 0 0⟩
instance:CoeDep String "" Value:=⟨int .i64 0⟩
instance:CoeDep String "1" Value:=⟨int .i64 1⟩
instance:CoeDep String "2" Value:=⟨int .i64 2⟩
instance:CoeDep String "3" Value:=⟨int .i64 3⟩
instance:CoeDep String "6" Value:=⟨int .i64 6⟩
instance:CoeDep String "s" Value:=⟨string ⟨#[]⟩⟩
instance:CoeTail String Nat:=⟨λ_=>9223372036854775807⟩
instance:CoeTail String Int:=⟨λ_=>9223372036854775807⟩
instance:CoeTail Unit Nat:=⟨λ_=>9007199254740992⟩
instance:CoeTail Unit Int:=⟨λ_=>9007199254740992⟩
instance:CoeFun World λ_=>Addr->Value->World:=⟨World.setCell⟩
instance:CoeFun Nat λ_=>Nat->Addr:=⟨an⟩
section
variable {P:Program} {f:FuncId} {a:Array Value} {w:World} {R:World->Prop} {Q:Ending->World->Prop}
def mB {u} (c:Calls P f a w λe w'=>e= .returned u/\R w') (b:∀w',R w'->Q (.returned u) w'):Calls P f a w Q:=c.mono λ_ _ ⟨e,r⟩=>e▸b _ r
def mE {u} (c:Calls P f a w λe w'=>e= .returned u/\w=w') (b:Q (.returned u) w):Calls P f a w Q:=c.mono λ_ _ ⟨e,r⟩=>e▸r▸b
def cE {u} (c:Calls P f a w λe w'=>e= .returned u/\w=w') (d:Q (.returned u) w) (z:Calls P f a w Q->b:=by intro k;go_wp2_with fail;exact k):b:=z (c.mono λ_ _ ⟨e,r⟩=>e▸r▸d)
def cM {S:Ending->World->Prop} (c:Calls P f a w S) (d:∀e w',S e w'->Q e w') (z:Calls P f a w Q->b:=by intro k;go_wp2_with fail;exact k):b:=z (c.mono d)
end
def Mem.af.a {w:World} {g:Nat} {t:TypeId} {l:List Value} (d:af w g t l.toArray):∀i b,l[i]?=some b->w.cell? ⟨g,i,none⟩=some b:=λi _ e=>(d.cell i).trans ((getElem?_toArray ..).trans e)
def Mem.af.f {w:World} {g:Nat} {t:TypeId} {l:List Value} (d:af w g t l.toArray):∀i b,l[i]?=some b->w.frozen? ⟨g,i,none⟩=false:=λi _ _=>d.frozen i
section
variable {c:Nat->Value->Prop} {r:List Value}
def bE {b x1} (e:∀i d,(b::x1::r)[i]?=some d->c i d):c 0 b/\c 1 x1:=⟨e 0 _ rfl,e 1 _ rfl⟩
def bi {d x1 x2} (b:∀i e,(d::x1::x2::r)[i]?=some e->c i e):c 0 d/\c 1 x1/\c 2 x2:=⟨b 0 _ rfl,b 1 _ rfl,b 2 _ rfl⟩
def cJ {d x1 x2 x3} (b:∀i e,(d::x1::x2::x3::r)[i]?=some e->c i e):c 0 d/\c 1 x1/\c 2 x2/\c 3 x3:=⟨b 0 _ rfl,b 1 _ rfl,b 2 _ rfl,b 3 _ rfl⟩
def fV {d x1 x2 x3 x4} (b:∀i e,(d::x1::x2::x3::x4::r)[i]?=some e->c i e):c 0 d/\c 1 x1/\c 2 x2/\c 3 x3/\c 4 x4:=⟨b 0 _ rfl,b 1 _ rfl,b 2 _ rfl,b 3 _ rfl,b 4 _ rfl⟩
def gW6 {d x1 x2 x3 x4 x5} (b:∀i e,(d::x1::x2::x3::x4::x5::r)[i]?=some e->c i e):c 0 d/\c 1 x1/\c 2 x2/\c 3 x3/\c 4 x4/\c 5 x5:=⟨b 0 _ rfl,b 1 _ rfl,b 2 _ rfl,b 3 _ rfl,b 4 _ rfl,b 5 _ rfl⟩
def qn {d x1 x2 x3 x4 x5 x6} (b:∀i e,(d::x1::x2::x3::x4::x5::x6::r)[i]?=some e->c i e):c 0 d/\c 1 x1/\c 2 x2/\c 3 x3/\c 4 x4/\c 5 x5/\c 6 x6:=⟨b 0 _ rfl,b 1 _ rfl,b 2 _ rfl,b 3 _ rfl,b 4 _ rfl,b 5 _ rfl,b 6 _ rfl⟩
def eN {d x1 x2 x3 x4 x5 x6 x7} (b:∀i e,(d::x1::x2::x3::x4::x5::x6::x7::r)[i]?=some e->c i e):c 0 d/\c 1 x1/\c 2 x2/\c 3 x3/\c 4 x4/\c 5 x5/\c 6 x6/\c 7 x7:=⟨b 0 _ rfl,b 1 _ rfl,b 2 _ rfl,b 3 _ rfl,b 4 _ rfl,b 5 _ rfl,b 6 _ rfl,b 7 _ rfl⟩
def AE {d x1 x2 x3 x4 x5 x6 x7 x8} (b:∀i e,(d::x1::x2::x3::x4::x5::x6::x7::x8::r)[i]?=some e->c i e):c 0 d/\c 1 x1/\c 2 x2/\c 3 x3/\c 4 x4/\c 5 x5/\c 6 x6/\c 7 x7/\c 8 x8:=⟨b 0 _ rfl,b 1 _ rfl,b 2 _ rfl,b 3 _ rfl,b 4 _ rfl,b 5 _ rfl,b 6 _ rfl,b 7 _ rfl,b 8 _ rfl⟩
def iC {d x1 x2 x3 x4 x5 x6 x7 x8 x9 x10 x11 x12 x13} (b:∀i e,(d::x1::x2::x3::x4::x5::x6::x7::x8::x9::x10::x11::x12::x13::r)[i]?=some e->c i e):c 0 d/\c 1 x1/\c 2 x2/\c 3 x3/\c 4 x4/\c 5 x5/\c 6 x6/\c 7 x7/\c 8 x8/\c 9 x9/\c 10 x10/\c 11 x11/\c 12 x12/\c 13 x13:=⟨b 0 _ rfl,b 1 _ rfl,b 2 _ rfl,b 3 _ rfl,b 4 _ rfl,b 5 _ rfl,b 6 _ rfl,b 7 _ rfl,b 8 _ rfl,b 9 _ rfl,b 10 _ rfl,b 11 _ rfl,b 12 _ rfl,b 13 _ rfl⟩
end
def sF {F6:Type _} {x:Option F6} {f g:F6} (b:x=some f) (e:f=g:=by kernel_rfl):x=some g:=b.trans (congrArg some e)
def aR {q:Prop} (a:q) (b:q->P:=by intro;omega):P:=b a
def bM (b:P:=by(go_simp;all_goals(with_reducible rfl))):P:=b
def cn (b:P:=by(simp[intOf];omega)):P:=b
def bh (b:P:=by go_num):P:=b
def bq (b:P:=by rfl):P:=b
def aN:Below B w w:=Below.refl _ _
end Go.Proofs.YteagjoghhfngoaaGreatDoor
