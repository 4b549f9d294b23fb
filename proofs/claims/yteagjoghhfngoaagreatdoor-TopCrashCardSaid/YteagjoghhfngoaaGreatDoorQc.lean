import Derived.Test.YteagjoghhfngoaaGreatDoorQb
set_option maxRecDepth 100000
set_option maxHeartbeats 32000000
set_option linter.all false
namespace Go.Proofs.YteagjoghhfngoaaGreatDoor
namespace aa
end aa
namespace aj
end aj
namespace ap
end ap
open Go.RowKit Tryz Value List Mem aQ aa aj ap
variable{B base c g i n p:Nat} {W W' w:Wd} {I t:Int} {x y z:Int×Int} {b:Bool} {xs ys:List (Int×Int)} {F2 F3 v:ai} {P:Nat->Bool} {H3 s:au} {F0:ah ak} {cs:Array ai}
namespace dX
open Go.Shelf
attribute [local go_sem] Oper.semAt_some
def KB (a Bs:Nat) (W W':Wd):Prop:=Below a W W'/\W'.heap[Bs]?=W.heap[Bs]?
def KB.refl (n₀ Bs W):KB n₀ Bs W W:=⟨aN,rfl⟩
theorem KB.trans {Bs:Nat} {B C:Wd} (a:KB n Bs w B) (k:KB n Bs B C):KB n Bs w C:=⟨a.1.trans k.1,k.2.trans a.2⟩
def KB.cell {Bs:Nat} {B:Wd} (a:KB n Bs w B):B.cell? (Bs 0)=w.cell? (Bs 0):=World.cell?_of_block a.2
def Re {Bs:Nat} (d:n<=w.heap.size) (j:Bs<w.heap.size) (W l) (a b:Obj) (f:w.heap.size<=l) (c:W.heap[l]?=some a) (i:a.isCells=false) (g:a.isWalk=false):KB n Bs W (W.putObj l b):=by refine⟨belowK_b d W l a b f c i g,?_⟩;exact(grownBy_putObj' W l b).block Bs (aR (gm.1 c).1) ri
def vw (x:Int×Int):Array ai:= #[agg #[x.1,x.2]]
def ahk (F:Fence) (n) (C:F.fn 203) (D:F.round=none) (J:1<=n) (l Bs n₀ m c A xs) (f p:List (Int×Int)->Wd->Prop)
 (q: ∀a x W,f a W->a.length<m->YieldAt F (n-1) prog l (vw x) W λe W'=>
  (e= .returned true/\f (a++[x]) W'/\KB n₀ Bs W W')\/(e= .returned false/\p (a++[x]) W'))
 (W:Wd) (t:W.cell? (Bs 0)=some (slice A m c)) (d:cP W n₀ A m c xs) (y:f [] W):
 CallsIn F n prog 203 #[.func (.yield l) #[] #[],bK Bs] W λe W'=>(∃v,e= .returned v)/\
  ((∃ys,ys=xs.reverse/\f ys W')\/(∃a,a<+:xs.reverse/\p a W')):=by
 have z:=d.1;have H:=d.2.1;have K:=d.2.2.1;refine callsIn_of_wp func203 rfl C ?_ D;simp only[ntmps203,size_toArray,cH,fQ,Nat.reduceAdd,Nat.reduceSub,Array.replicate_succ,Array.replicate_zero,push_toArray,append_toArray,jb,lu];have g:=hJ z;gi_wp2;gi_loopw [3] (λi wr=> ∃r:Nat,r<=m/\i=((r:Int)-1:Int)/\f (mO xs r) wr/\KB n₀ Bs W wr) (λi _=>(intOf i+1).toNat);case atStart=>exact⟨m,ny,bh,by rw[<-g.o,Zj];exact y,KB.refl _ _ _⟩
 case round=>obtain⟨r,Q,rfl,o,h⟩:=hrel;obtain _|s:=r;{gi_wp2;go_end0;exact⟨⟨_,rfl⟩,.inl ⟨_,rfl,by rw[<-abx];exact o⟩⟩};have es:((s+1:Nat):Int)-1=s:=oy;rw[es];have j:s<m:=oy;obtain⟨b,N,rfl,G,k⟩:=d.at_ j;have P:=bC h.1 (k s j).1;have M:=bC h.1 (k s j).2;have R:=h.cell.trans t;let⟨O,tmps,assign,S,hy,u⟩:=q _ (cF xs s,dU xs s) wr o (by rw[VC,g.o];omega);dsimp only[vw]at hy;let⟨L,E⟩:=aq k d;gi_wp2;refine u.mono ?_;rintro e I (⟨rfl,aM,w⟩|⟨rfl,B⟩);{gi_wp2;go_roundw;(case rel=>exact⟨s,oy,bh,by rw[IG (by rw[g.o];omega)]at aM;exact aM,h.trans w⟩);case measure=>simp[intOf]};gi_wp2;refine bodyPost_ret (results_none rfl _ _ _) rfl ?_;exact⟨⟨_,rfl⟩,.inr ⟨_,by rw[IG (by rw[g.o];omega)];exact Vx _ _,B⟩⟩
def NK (F:Fence) (n) (b:F.fn 160) (c:F.round=none) (a len cap w):
 CallsIn F n prog 160 #[slice a len cap] w λe w'=>e= .returned (.func (.func 203) #[] #[bK w])/\w'=w.alloc (.cells #[slice a len cap] 105):=by refine callsIn_of_wp func160 rfl b ?_ c;simp only[ntmps160,size_toArray,cH,fQ,Nat.reduceAdd,Nat.reduceSub,Array.replicate_succ,Array.replicate_zero,push_toArray,append_toArray,jb,lu];gi_wp2;go_ret;exact⟨rfl,rfl⟩
def KD (F:Fence) (n) (o:F.fn 203) (p:F.round=none) (d:1<=n) (Bs n₀ m c A xs w) (q:Bs<w.heap.size) (e:n₀<=w.heap.size)
 (k:w.cell? (an Bs 0)=some (slice A m c)) (g:cP w n₀ A m c xs):
 SeqStopsK F n prog 203 #[bK Bs] vw (KB n₀ Bs) (λys=>ys=xs.reverse) (λb=>b<+:xs.reverse) m w:=λl f j W a _ _ i h=>
 ahk F n o p d l Bs n₀ m c A xs f j i W (bC a k) (g.below (a.mono e)) h
end dX
namespace dX
open Go.Shelf
attribute [local go_sem] Oper.semAt_some
def lH {β:Type} (B:Nat) (t:ch) (f:β->Array ai):Own (λs W=>af W B t (f s)):=λs X h i b d c=>
 af.grown b d (λe=>by obtain⟨j,a,g⟩:=c B e.symm;rw[show X.heap[B]?=_ from b]at a;cases a;cases g)
def Kv {β:Type} (p:β->Prop) (B:Nat):OwnFrom B (λ(s:β) (_:Wd)=>p s):=λ_ _ _ _ a _ _=>a
def mx (w:Wd) (t a:Int) (z:Int×Int) (b:Bool) (W:Wd):Prop:=
 (((af W w 3 #[t]/\af W (w+1) 3 #[a])/\af W (w+1+1) 49 #[z.1,z.2])/\af W (w+1+1+1) 4 #[b])/\az w W
def AtX (w:Wd) (t a:Int) (x:Int×Int) (b:Code) (W:Wd):Prop:=
 (b= .ret/\wrap64 (t-x.1)<a/\mx w t a x true W)\/(b= .exit 0/\ ¬wrap64 (t-x.1)<a/\mx w t a (0,0) false W)
def uG {β:Type} (w:Wd) (t a:Int) (z:β->Int×Int) (b:β->Bool) (B:Nat) (c:w<=B):OwnFrom B (λ(s:β) W=>mx w t a (z s) (b s) W):=
 OwnFrom.and (OwnFrom.and (OwnFrom.and (OwnFrom.and (Own.from (lH _ _ _) _) (Own.from (lH _ _ _) _)) (Own.from (lH _ _ (λs=> #[(z s).1,(z s).2])) _)) (Own.from (lH _ _ (λs=> #[(b s)])) _)) (ownFrom_below ny c)
def mx.alloc (a:mx w t I z b W) (c:Obj):mx w t I z b (W.alloc c):=
 ⟨⟨⟨⟨a.1.1.1.1.alloc _,a.1.1.1.2.alloc _⟩,a.1.1.2.alloc _⟩,a.1.2.alloc _⟩,a.2.alloc a.2.size _⟩
def mx.result (a:mx w t I z b W) (x:Int×Int) (d:Bool):
 mx w t I x d (W (an (w+1+1) 0) x.1 (an (w+1+1) 1) x.2 (an (w+1+1+1) 0) d):=by refine⟨⟨⟨⟨?_,?_⟩,?_⟩,?_⟩,?_⟩;{exact((a.1.1.1.1.aI uy _).aI uy _).aI uy _};{exact((a.1.1.1.2.aI iy _).aI iy _).aI iy _};{exact((a.1.1.2.ay 0 _).ay 1 _).aI iy _};{exact((a.1.2.aI iy _).aI iy _).ay 0 _};exact((a.2.setCell uy _).setCell uy _).setCell uy _
def aho (W:Wd) (a b c:ak) (d v x:ai) (B:Nat):KeepsFrom B W (W a d b v c x):=
 (((KeepsOthers.setCell _ _ _).trans (KeepsOthers.setCell _ _ _)).trans (KeepsOthers.setCell _ _ _)).from _
def KU {Bs:Nat} (b:n<=W) (c:Bs<W) (a:Obj):KB n Bs W (W.alloc a):=⟨aN.alloc b _,Below.heap_alloc W a Bs c⟩
def IC (a:mx w t I z b W) (tmps:Array ai) (e:tmps[6]?.getD undef=bK (w+1+1)) (c:tmps[7]?.getD undef=bK (w+1+1+1)):
 (results f242 tmps).run prog W= .ok (tuple #[agg #[z.1,z.2],b]) W:=by obtain⟨c6,d⟩:=fR a.1.1.2;have f:=bD a.1.2;simp[results,results242,e,c,go_sem,c6,d,f]
def aha (E:ah ak) (m c:Nat) (xs:List (Int×Int)) (t f:Int) (w:Wd) (b1:t<= "") (C:cP w w E m c xs):
 Calls prog 242 #[slice E m c,t,f] w (bO w (tuple #[agg #[(kh xs t f).1.1,(kh xs t f).1.2],(kh xs t f).2])):=by
 have b9:=hJ b1;clear b1;refine(callsIn_wide (n:=10)).1 ?_;have a0:Fence.wide.round=none:=rfl;refine callsIn_of_wp_marks func242 rfl trivial ?_ a0;simp only[ntmps242,size_toArray,cH,fQ,Nat.reduceAdd,Nat.reduceSub,Array.replicate_succ,Array.replicate_zero,push_toArray,append_toArray,jb,lu];gi_wp2_with fail;have R:=(((af.new w 3 #[t]).alloc (.cells #[f] 3)).alloc (.cells #["",""] 49)).alloc (.cells #[false] 4);have M:=((af.new (w.alloc (.cells #[t] 3)) 3 #[f]).alloc (.cells #["",""] 49)).alloc (.cells #[false] 4);have Q:=(af.new ((w.alloc (.cells #[t] 3)).alloc (.cells #[f] 3)) 49 #["",""]).alloc (.cells #[false] 4);have N:=af.new (((w.alloc (.cells #[t] 3)).alloc (.cells #[f] 3)).alloc (.cells #["",""] 49)) 4 #[false];have b0:az w ((((w.alloc (.cells #[t] 3)).alloc (.cells #[f] 3)).alloc (.cells #["",""] 49)).alloc (.cells #[false] 4)):=ly;simp only[World.size_alloc]at R M Q N;have b7:((((w.alloc (.cells #[t] 3)).alloc (.cells #[f] 3)).alloc (.cells #["",""] 49)).alloc (.cells #[false] 4)).heap.size=w+4:=iy;obtain⟨c2,b3⟩:=xR ((((w.alloc (.cells #[t] 3)).alloc (.cells #[f] 3)).alloc (.cells #["",""] 49)).alloc (.cells #[false] 4));rw[b3]at R M Q N b0 b7⊢;clear b3;refine⟨trivial,?_⟩;refine(callsIn_wide.2 (GC w E m c xs c2 oy (C.below b0))).mono ?_;rintro e o ⟨A',n',c',rfl,b',A⟩;have d0:=A.size;gi_wp2_with (refine⟨trivial,?_⟩;gi_at_call 160;refine(NK Fence.wide 9 trivial a0 _ _ _ _).mono ?_;rintro e w' ⟨rfl,rfl⟩);have c0:mx w t f (0,0) false (o.alloc (.cells #[slice A' n' c'] 105)):= ⟨⟨⟨⟨(R.below A R.lt).alloc _,(M.below A M.lt).alloc _⟩,(Q.below A Q.lt).alloc _⟩,(N.below A N.lt).alloc _⟩,(b0.trans (A.mono oy)).alloc oy _⟩;refine wpIn_rangeFunc_ownH (n:=10) a0 dy (gf:=203) (lb:= #[bK o]) rfl trivial (enters_of func203 ry rfl) (KD Fence.wide 9 trivial a0 dy o w n' c' A' (aQ.aD xs) _ iy uy (Boxed.new o 105 (slice A' n' c')).cell (b'.alloc oy _)) KB.trans (Re uy iy) aN (λ_=>bq) (λg W=>(mx w t f (0,0) false W/\af W o 105 #[slice A' n' c'])/\ ∀x∈g,t<x.1) (λa7 g W=> ∃F x,g=F++[x]/\(∀y∈F,t<y.1)/\x.1<=t/\AtX w t f x a7 W) (OwnFrom.and (OwnFrom.and (uG w t f (λ_=>(0,0)) (λ_=>false) _ uy) (Own.from (lH _ _ _) _)) (Kv (λg:List (Int×Int)=> ∀x∈g,t<x.1) _)) (λa7 g X S Z a3 J G=>by obtain⟨F,x,e,a',a8,a9⟩:=a3;refine⟨F,x,e,a',a8,?_⟩;obtain⟨a,b,d⟩|⟨a,b,d⟩:=a9;{exact .inl ⟨a,b,uG w t f (λ(_:Unit)=>x) (λ_=>true) _ uy () X S Z d J G⟩};exact .inr ⟨a,b,uG w t f (λ(_:Unit)=>(0,0)) (λ_=>false) _ uy () X S Z d J G⟩) ⟨⟨c0,af.new o _ _⟩,iy⟩ (λx a2 W=> ∃Bx,o.heap.size<Bx/\af W Bx 49 #[x.1,x.2]/\a2={tmps:= #[slice E m c,t,f,undef,bK w,bK (w+1),bK (w+1+1),bK (w+1+1+1),bK Bx,slice E m c,slice A' n' c',.func (.func 203) #[] #[bK o],agg #[x.1,x.2],undef,undef,undef,undef,undef,undef,undef,undef,undef,undef,undef,undef],defers:=[]}) (λx a2 _ X S Z a3 J G=>by obtain⟨Bx,a',a8,b6⟩:=a3;exact⟨Bx,a',lH Bx 49 (λ(_:Unit)=> #[x.1,x.2]) () X S Z a8 J (λr e=>(G r e).2),b6⟩) ?assign ?body ?done ?stop;case assign=>rintro l g x W K ⟨⟨d,D⟩,v⟩ B;have a5:=D.lt;have c8:=d.2.size;simp only[vw];gi_wp2;refine B _ _ ((KeepsOthers.alloc _ _).from _) (KU oy a5 _) ⟨⟨d.alloc _,D.alloc _⟩,v⟩ ⟨W,a5,af.new W _ _,rfl⟩
 case body=>rintro l g x a2 W c7 ⟨r,G⟩ ⟨⟨d,D⟩,v⟩ ⟨Bx,c3,b4,rfl⟩ a5;have c4:=d.1.1.1.1.cell 0;have c5:=d.1.1.1.2.cell 0;have c1:=b4.cell 0;have b8:=b4.cell 1;refine EP λc6 q V U p L=>?_;obtain⟨z,u⟩:=aq d v;clear d v;simp at c4 c5 c1 b8 c6 q p;gi_wp2;{have i:t<x.1:=im;exact⟨KeepsFrom.refl _ _,KB.refl _ _ _,⟨⟨z.o,D⟩,λy hy=>by obtain C|C:=eQ.1 hy;{exact u.o y C};rw[fS.1 C];exact i⟩⟩};{have i:x.1<=t:=im;have I:wrap64 (t-x.1)<f:=im;exact⟨aho _ _ _ _ _ _ _ _,⟨g,x,rfl,u.o,i,.inl ⟨rfl,I,z.o.result x true⟩⟩⟩};have i:x.1<=t:=im;have I:f<=wrap64 (t-x.1):=im;exact⟨KeepsFrom.refl _ _,⟨g,x,rfl,u.o,i,.inr ⟨rfl,oy,z.o⟩⟩⟩
 case done=>rintro b2 ys W a1 rfl ⟨⟨d,D⟩,v⟩ B;refine EP λc6 q V U p L=>?_;obtain⟨z,u⟩:=aq d v;clear d v;simp at c6 q p;gi_wp2;refine Qw λY H j=>?_;rw[aeT u.o];exact⟨rfl,j.2⟩
 case stop=>rintro b2 a7 g W a1 a6 ⟨F,x,rfl,O,i,a9⟩ B;have c9:=UU (Gj a6 O i).1;have a4:wrap64 (t-x.1)=t-x.1:=IntWalk.wrap64_in _ (aR b9.o);obtain⟨rfl,I,d⟩|⟨rfl,I,d⟩:=a9;{gi_wp2;refine⟨iy,.inl ⟨_,_,rfl,run_takeDeferred B,?_⟩⟩;have j:=(uG w t f (λ(_:Unit)=>x) (λ_=>true) _ ny).putObj (s:=()) (.deferred none) d (by simp at a1;omega) B rfl;refine⟨_,IC j _ rfl rfl,?_⟩;rw[IE a6 O i,aK (by rw[<-a4];exact I)];exact⟨rfl,j.2⟩};refine EP λc6 q V U p L=>?_;obtain⟨z,u,b5⟩:=aM d O a4;clear d O a4;simp at c6 q p;gi_wp2;refine Qw λY H j=>?_;rw[IE a6 u.o i,if_neg (by rw[<-b5.o];omega)];exact⟨rfl,j.2⟩
end dX
namespace aQ
def tZ (xs:List (Int×Int)) (x:Int×Int):cells (xs++[x])=cells xs++[x.1,x.2]:=by simp[cells]
theorem qq (a:(bS x.1&&fh x.2)=false):append xs x=(aD xs,2):=by grind[append]
theorem Hk (b:[y]<+:ys.reverse):0<ys.length/\cF ys (ys.length-1)=y.1:=by
 obtain⟨l,a⟩:=b;have e:ys=l.reverse++[y]:=by have:=congrArg reverse a;grind
 subst e;simp[cF]
theorem AS (c:bS x.1) (f:fh x.2) (a:[y]<+:(aD xs).reverse) (e:x.1<=y.1):append xs x=(aD xs,9):=by obtain⟨d,b⟩:=Hk a;grind[append]
def kept (ys:List (Int×Int)):List (Int×Int):=if 64<=ys.length then ys.tail else ys
theorem JY (c:bS x.1) (f:fh x.2) (a:[y]<+:(aD xs).reverse) (e: ¬x.1<=y.1):append xs x=(kept (aD xs)++[x],0):=by obtain⟨d,b⟩:=Hk a;grind[append,kept]
theorem UT (b:bS x.1) (a:fh x.2) (c:aD xs=[]):append xs x=([x],0):=by grind[append]
def Ik (a:ys.length<64):kept ys=ys:=by unfold kept;rw[if_neg oy]
def Jg (a:64<=ys.length):kept ys=ys.tail:=by unfold kept;rw[if_pos a]
end aQ
namespace dX
open Go.Shelf
attribute [local go_sem] Oper.semAt_some
theorem qN {e size k:Nat} {xs:List ai} (b:W.ownsRow base e size v n xs) (a:v.ownBlock=some k):base<=k:=by obtain⟨rfl,_⟩|⟨g,cap,c,rfl,d,_⟩:=b.2;{simp[Value.ownBlock]at a};grind[Value.ownBlock]
end dX
namespace dX
open Go.Shelf
attribute [local go_sem] Oper.semAt_some
def fG (w:Wd) (a:ai) (x:Int×Int) (c:ai) (b:Int) (W:Wd):Prop:=
 (((af W w 105 #[a]/\af W (w+1) 49 #[x.1,x.2])/\af W (w+1+1) 105 #[c])/\af W (w+1+1+1) 41 #[b])/\Below w w W
def uN {β:Type} (w:Wd) (a:ai) (x:Int×Int) (d:ai) (c:Int) (B:Nat) (b:w<=B):OwnFrom B (λ(_:β) W=>fG w a x d c W):=
 OwnFrom.and (OwnFrom.and (OwnFrom.and (OwnFrom.and (Own.from (lH _ _ _) _) (Own.from (lH _ _ _) _)) (Own.from (lH _ _ _) _)) (Own.from (lH _ _ _) _)) (ownFrom_below ny b)
def fG.alloc (a:fG w F3 x F2 t W) (b:Obj):fG w F3 x F2 t (W.alloc b):=
 ⟨⟨⟨⟨a.1.1.1.1.alloc _,a.1.1.1.2.alloc _⟩,a.1.1.2.alloc _⟩,a.1.2.alloc _⟩,a.2.alloc a.2.size _⟩
def fG.result (a:fG w F2 x F3 t W) (b:ai) (c:Int):
 fG w F2 x b c (W (an (w+1+1) 0) b (an (w+1+1+1) 0) c):=by refine⟨⟨⟨⟨?_,?_⟩,?_⟩,?_⟩,?_⟩;{exact(a.1.1.1.1.aI uy _).aI uy _};{exact(a.1.1.1.2.aI iy _).aI iy _};{exact(a.1.1.2.ay 0 _).aI iy _};{exact(a.1.2.aI iy _).ay 0 _};exact(a.2.setCell uy _).setCell uy _
def wQ (a:fG w F3 x F2 t W) (tmps:Array ai) (b:tmps[4]?.getD undef=pointer (some (an (w+1+1) 0))) (c:tmps[5]?.getD undef=pointer (some (an (w+1+1+1) 0))):
 (results f116 tmps).run prog W= .ok (tuple #[F2,t]) W:=by have c4:=bD a.1.1.2;have c5:=bD a.1.2;simp[results,results116,b,c,go_sem,c4,c5]
def fG.drew (a:fG w F2 x F3 t W):fG w F2 x F3 t W.drew:=⟨a.1,a.2.drew⟩
def fG.later (a:fG w F3 x F2 t W) (b:Below W W W'):fG w F3 x F2 t W':=
 ⟨⟨⟨⟨a.1.1.1.1.below b a.1.1.1.1.lt,a.1.1.1.2.below b a.1.1.1.2.lt⟩,a.1.1.2.below b a.1.1.2.lt⟩,a.1.2.below b a.1.2.lt⟩,a.2.trans (b.mono a.2.size)⟩
def fG.grown {F8:ah Nat} (a:fG w F3 x F2 t W) (b:W.grownBy W' F8) (c: ∀k,F8=some k->w.heap.size+4<=k):fG w F3 x F2 t W':=by refine⟨⟨⟨⟨a.1.1.1.1.grown b ?_,a.1.1.1.2.grown b ?_⟩,a.1.1.2.grown b ?_⟩,a.1.2.grown b ?_⟩,a.2.grown b a.2.size (λk e=>aR (c k e))⟩;all_goals intro e;have:=c _ e.symm;omega
def fG.reset (a:fG w F3 x F2 t W) (b:ai):fG w b x F2 t (W (an w 0) b):=by refine⟨⟨⟨⟨a.1.1.1.1.ay 0 _,?_⟩,?_⟩,?_⟩,a.2.setCell ny _⟩;{exact a.1.1.1.2.aI iy _};{exact a.1.1.2.aI uy _};exact a.1.2.aI uy _
theorem cP.tail {b k:Nat} (a:cP W B (some (b k)) n c xs) (g:1<=n):cP W B (some (b (k+2))) (n-1) (c-1) xs.tail:=by refine⟨by rw[length_tail,a.1],aR a.2.1,aR a.2.2.1,λl=>?_⟩;obtain⟨h,i,e,f,d⟩:=a.2.2.2 oy;cases e;refine⟨b,k+2,rfl,f,λj m=>?_⟩;have:=d (j+1) oy;grind[cF,dU]
def ij (W:Wd):W.drew=W.heap.size:=rfl
def ahh (W:Wd) (a b:ak) (c v:ai) (B:Nat):KeepsFrom B W (W a c b v):=((KeepsOthers.setCell _ _ _).trans (KeepsOthers.setCell _ _ _)).from _
def ApX (w:Wd) (a:ai) (x y:Int×Int) (b:Code) (W:Wd):Prop:=
 (b= .ret/\x.1<=y.1/\fG w a x a 9 W)\/(b= .exit 0/\ ¬x.1<=y.1/\fG w a x () 0 W)
def TK (w:Wd) (xs:List (Int×Int)) (x:Int×Int) (e:Ending) (w':Wd):Prop:=
 ∃a n c,e= .returned (tuple #[slice a n c,(aQ.append xs x).2])/\cP w' w' a n c (aQ.append xs x).1/\Below w w w'/\((aQ.append xs x).2=0-> ∀p:ak,a=some p->w<=p.block)
def abD {cap j:Nat} (u:fG w F3 x F2 t W)
 (g:W.ownsRow base 49 2 (slice (some ⟨i,0,none⟩) (n+1) cap) (n+1) ((aQ.cells ys).map (Value.int .i64)++[int .i64 x.1,int .i64 x.2])) (A:w.heap.size+4<=base)
 (y:W.heap[j]?=some (.deferred (some []))) (z:w+4<=j) (d:aQ.append xs x=(ys++[x],0)) (tmps:Array ai)
 (v:tmps[4]?.getD undef=pointer (some (an (w+1+1) 0))) (r:tmps[5]?.getD undef=pointer (some (an (w+1+1+1) 0))):
 bodyPostM Fence.wide 10 prog f116 (TK w xs x) .ret {tmps:=tmps,defers:=[{target:=Target.collected j,args:= #[]}]}
  ((W (an (w+1+1) 0) (slice (some (i 0)) (n+1) cap)).setCell (an (w+1+1+1) 0) ""):=by
 have B:=qN (k:=i) g rfl;have b:=((KeepsOthers.setCell W (an (w+1+1) 0) (slice (some (i 0)) (n+1) cap)).trans (KeepsOthers.setCell _ (an (w+1+1+1) 0) "")).same j _ y rfl;refine⟨iy,.inl ⟨_,_,rfl,run_takeDeferred b,?_⟩⟩;have f:=(uN (β:=Unit) w _ _ _ _ _ ny).putObj (s:=()) (.deferred none) (u.result (slice (some (i 0)) (n+1) cap) 0) oy b rfl;have l:=g.kept (grownBy_setCell' W (w+1+1) (slice (some (i 0)) (n+1) cap)) (.inr (by simp[Value.ownBlock];omega));have q:=l.kept (grownBy_setCell' _ (w+1+1+1) "") (.inr (by simp[Value.ownBlock];omega));have h:=ownsRow_putObj q (.deferred none) b rfl;have e:(aQ.cells ys).map (Value.int .i64)++[int .i64 x.1,int .i64 x.2]=(aQ.cells (ys++[x])).map (Value.int .i64):=by rw[aQ.tZ,ir];rfl
 rw[e]at h;obtain⟨o,c,a,m⟩:=cP.dV h;refine⟨_,wQ f _ v r,o,n+1,c,?_,?_,f.2,λ_ p e=>by injection a with a _;rw[<-a]at e;injection e with e;subst e;simp only;omega⟩;{rw[d,a]};rw[d];exact m
def IL (F:ah ak) (m c:Nat) (xs:List (Int×Int)) (x:Int×Int) (w:Wd) (U:cP w w.heap.size F m c xs):
 Calls prog 116 #[slice F m c,agg #[int .i64 x.1,int .i64 x.2]] w (TK w xs x):=by
 obtain⟨a7,a5,a8,a4,b0⟩:=info_parts Mw;refine(callsIn_wide (n:=10)).1 ?_;have d':Fence.wide.round=none:=rfl;refine callsIn_of_wp_marks func116 rfl trivial ?_ d';simp only[ntmps116,size_toArray,cH,fQ,Nat.reduceAdd,Nat.reduceSub,Array.replicate_succ,Array.replicate_zero,push_toArray,append_toArray,jb,lu];gi_wp2_with fail;have M:=(((af.new w 105 #[slice F m c]).alloc (.cells #[int .i64 x.1,int .i64 x.2] 49)).alloc (.cells #[slice none 0 0] 105)).alloc (.cells #[int .i64 0] 41);have Z:=((af.new (w.alloc (.cells #[slice F m c] 105)) 49 #[int .i64 x.1,int .i64 x.2]).alloc (.cells #[slice none 0 0] 105)).alloc (.cells #[int .i64 0] 41);have c7:=(af.new ((w.alloc (.cells #[slice F m c] 105)).alloc (.cells #[int .i64 x.1,int .i64 x.2] 49)) 105 #[slice none 0 0]).alloc (.cells #[int .i64 0] 41);have c6:=af.new (((w.alloc (.cells #[slice F m c] 105)).alloc (.cells #[int .i64 x.1,int .i64 x.2] 49)).alloc (.cells #[slice none 0 0] 105)) 41 #[int .i64 0];have d9:Below w.heap.size w ((((w.alloc (.cells #[slice F m c] 105)).alloc (.cells #[int .i64 x.1,int .i64 x.2] 49)).alloc (.cells #[slice none 0 0] 105)).alloc (.cells #[int .i64 0] 41)):=ly;simp only[World.size_alloc]at M Z c7 c6;have f8:((((w.alloc (.cells #[slice F m c] 105)).alloc (.cells #[int .i64 x.1,int .i64 x.2] 49)).alloc (.cells #[slice none 0 0] 105)).alloc (.cells #[int .i64 0] 41)).heap.size=w.heap.size+4:=by simp
 obtain⟨e7,g7⟩: ∃e7,(((w.alloc (.cells #[slice F m c] 105)).alloc (.cells #[int .i64 x.1,int .i64 x.2] 49)).alloc (.cells #[slice none 0 0] 105)).alloc (.cells #[int .i64 0] 41)=e7:=⟨_,rfl⟩;rw[g7]at M Z c7 c6 d9 f8⊢;refine⟨trivial,?_⟩;refine(callsIn_wide.2 (GC w.heap.size F m c xs e7 (by omega) (U.below d9))).mono ?_;rintro e e6 ⟨A',n',c',rfl,f5,N⟩;have i0:n'<=64:=by rw[<-f5.1];exact Uo xs
 have R:fG w (slice A' n' c') x (slice none 0 0) 0 (e6.setCell ⟨w.heap.size,0,none⟩ (slice A' n' c')):=by refine⟨⟨⟨⟨(M.below N M.lt).ay 0 _,?_⟩,?_⟩,?_⟩,?_⟩;{exact(Z.below N Z.lt).aI iy _};{exact(c7.below N c7.lt).aI uy _};{exact(c6.below N c6.lt).aI uy _};exact(d9.trans (N.mono (by omega))).setCell (Nat.le_refl _) _
 have c1:cP (e6.setCell ⟨w.heap.size,0,none⟩ (slice A' n' c')) w.heap.size A' n' c' (aQ.aD xs):=f5.setCell ny _;have c2:=bD (M.below N M.lt);have d5:=(M.below N M.lt).frozen 0;obtain⟨c3,V⟩:=fR (Z.below N Z.lt);obtain⟨Y,e2⟩:=xR (e6.setCell ⟨w.heap.size,0,none⟩ (slice A' n' c'));rw[e2]at R c1;have g5:=hJ e2;clear e2 M Z c7 c6 N d9 f5 f8;gi_wp2_with fail;rw[g5.o];have i2:=bD R.1.1.1.1;obtain⟨h4,i3⟩:=fR R.1.1.1.2;have h':=bD R.1.1.2;have h6:=bD R.1.2;have h7:=R.1.1.2.frozen 0;have h2:=R.1.2.frozen 0;obtain⟨J,b9,i6⟩:=aM R c1 U;by_cases a0:aQ.bS x.1=true;{by_cases a3:fh x.2=true;{gi_wp2_with (first|(first|(refine⟨trivial,?_⟩;gi_at_call 100;refine(callsIn_wide.2 (pw _ _)).mono ?_;rintro e w' ⟨rfl,rfl⟩)|(refine⟨trivial,?_⟩;gi_at_call 101;refine(callsIn_wide.2 (nf _ _)).mono ?_;rintro e w' ⟨rfl,rfl⟩))|(refine⟨trivial,?_⟩;gi_at_call 160;refine(NK Fence.wide 9 trivial d' _ _ _ _).mono ?_;rintro e w' ⟨rfl,rfl⟩));have h8:=J.o.2.size;have g6:=J.o.alloc (.cells #[slice A' n' c'] 105);refine wpIn_rangeFunc_ownH (n:=10) d' dy (gf:=203) (lb:= #[pointer (some ⟨Y.heap.size,0,none⟩)]) rfl trivial (enters_of func203 ry rfl) (KD Fence.wide 9 trivial d' dy Y.heap.size w.heap.size n' c' A' (aQ.aD xs) _ iy uy (Boxed.new Y 105 (slice A' n' c')).cell (b9.o.alloc oy _)) KB.trans (Re uy iy) (Below.refl _ _) (λ_=>by rfl) (λL W=>(fG w (slice A' n' c') x (slice none 0 0) 0 W/\af W Y.heap.size 105 #[slice A' n' c'])/\L=[]) (λe5 L W=> ∃y,L=[y]/\ApX w (slice A' n' c') x y e5 W) (OwnFrom.and (OwnFrom.and (uN _ _ _ _ _ _ uy) (Own.from (lH _ _ _) _)) (Kv (λL:List (Int×Int)=>L=[]) _)) (λe5 L X d3 d8 e3 d1 b7=>by obtain⟨y,e,f0⟩:=e3;refine⟨y,e,?_⟩;obtain⟨a,b,i⟩|⟨a,b,i⟩:=f0;{exact .inl ⟨a,b,uN w _ _ _ _ _ uy () X d3 d8 i d1 b7⟩};exact .inr ⟨a,b,uN w _ _ _ _ _ uy () X d3 d8 i d1 b7⟩) ⟨⟨g6,af.new Y _ _⟩,rfl⟩ (λy f2 W=> ∃a1,Y.heap.size<a1/\af W a1 49 #[int .i64 y.1,int .i64 y.2]/\f2={tmps:= #[slice F m c,agg #[int .i64 x.1,int .i64 x.2],pointer (some ⟨w.heap.size,0,none⟩),pointer (some ⟨w.heap.size+1,0,none⟩),pointer (some ⟨w.heap.size+1+1,0,none⟩),pointer (some ⟨w.heap.size+1+1+1,0,none⟩),pointer (some ⟨a1,0,none⟩),slice F m c,slice A' n' c',pointer (some ⟨w.heap.size+1,0,none⟩),int .i64 x.1,bool true,bool false,bool false,pointer (some ⟨w.heap.size+1,1,none⟩),int .i64 x.2,bool true,bool false,bool false,undef,slice A' n' c',.func (.func 203) #[] #[pointer (some ⟨Y.heap.size,0,none⟩)],agg #[int .i64 y.1,int .i64 y.2],undef,undef,undef,undef,undef,undef,undef,undef,undef,undef,undef,undef,undef,undef,undef,undef],defers:=[]}) (λy f2 _ X d3 d8 e3 d1 b7=>by obtain⟨a1,g8,g3,g0⟩:=e3;exact⟨a1,g8,lH a1 49 (λ(_:Unit)=> #[int .i64 y.1,int .i64 y.2]) () X d3 d8 g3 d1 (λr e=>(b7 r e).2),g0⟩) ?assign ?body ?done ?stop;(case assign=>rintro l L y W K ⟨⟨i,d2⟩,g4⟩ z;have e9:=d2.lt;have h9:=i.2.size;simp only[vw];gi_wp2;refine z _ _ ((KeepsOthers.alloc _ _).from _) (KU oy e9 _) ⟨⟨i.alloc _,d2.alloc _⟩,g4⟩ ⟨W.heap.size,e9,af.new W _ _,rfl⟩);(case body=>rintro l L y f2 W i1 ⟨r,b7⟩ ⟨⟨i,d2⟩,rfl⟩ ⟨a1,i5,g',rfl⟩ e9;have c3:=i.1.1.1.2.cell 0;have c2:=i.1.1.1.1.cell 0;have c4:=i.1.1.2.cell 0;have d4:=i.1.1.2.frozen 0;have c5:=i.1.2.cell 0;have d7:=i.1.2.frozen 0;have g1:=g'.cell 0;have f6:=hJ i;simp at c2 c3 c4 c5 g1;gi_wp2;{(have O:x.1<=y.1:=by assumption);exact⟨ahh _ _ _ _ _ _,⟨y,rfl,.inl ⟨rfl,O,f6.o.result _ _⟩⟩⟩};(have O:y.1<x.1:=by assumption);exact⟨KeepsFrom.refl _ _,⟨y,rfl,.inr ⟨rfl,by omega,f6.o⟩⟩⟩);(case done=>rintro C ys W e1 rfl ⟨⟨i,d2⟩,g9⟩ z;(have e8:aQ.aD xs=[]:=by simpa using g9);(have h0:n'=0:=by have:=b9.o.1;rw[e8]at this;simpa using this.symm);subst h0;refine Sa λd6 d5 d4 d7 g B c2 c3 V c4 c5 c8 f4=>?_;(have b4:aQ.append xs x=(aQ.aD xs++[x],0):=by rw[UT a0 a3 e8,e8];rfl);have f1:=hJ b4;gi_wp2;refine wpIn_wide.2 ?_;go_region_held3 (λw'=>w'.cell? ⟨w.heap.size,0,none⟩=some (slice A' 0 c')/\w'.cell? ⟨w.heap.size+1,0,none⟩=some (int .i64 x.1)/\w'.cell? ⟨w.heap.size+1,1,none⟩=some (int .i64 x.2)) (first|(have a2:=f.1.1.1.1.cell 0;have u:=f.1.1.1.2.cell 0;have o:=f.1.1.1.2.cell 1;simp at a2 u o;first|exact⟨a2,u,o⟩|exact⟨(fj _ _ _ _ iy).trans a2,(fj _ _ _ _ iy).trans u,(fj _ _ _ _ iy).trans o⟩|exact⟨(fj _ _ _ _ iy).trans ((fj _ _ _ _ iy).trans a2),(fj _ _ _ _ iy).trans ((fj _ _ _ _ iy).trans u),(fj _ _ _ _ iy).trans ((fj _ _ _ _ iy).trans o)⟩)|(have a2:=A.1.1.1.1.cell 0;have u:=A.1.1.1.2.cell 0;have o:=A.1.1.1.2.cell 1;simp at a2 u o;exact⟨a2,u,o⟩)|go_keep) (first|(go_at_call 161;refine(Ce A' 0 c' (aQ.aD xs) _ ?_ oy).mono ?_;(first|(exact B.o.more g.o.2.size)|(exact(B.o.alloc g.o.2.size _).more (by simp[ij];omega)));rintro e v ⟨S,rfl,I,j⟩;have A:fG w (slice A' 0 c') x (slice none 0 0) 0 v:=(by first|exact g.o.later j|exact g.o.drew.later j|exact(g.o.alloc _).later j|exact(g.o.drew.alloc _).later j|exact(g.o.alloc _).drew.later j);have D:=λ{k}=>qN (k:=k) I;have b3:=j.size;simp only[ij,World.size_alloc]at D b3)|(refine step_append_lies _ (by rfl) _ _ _ (by rfl) _ 49 a7 _ 2 16 underlying105 a5 a8 a4 b0 rfl oy S 0 _ (by rfl) (I.alloc _) ⟨v.heap.size,0,none⟩ 1 1 [int .i64 x.1,int .i64 x.2] (by rfl) (by rfl) (World.news_of_block (cs:= #[int .i64 x.1,int .i64 x.2]) (t:=49) (fr:=(0,0)) (heap_alloc_new v _)) (by simp[Value.oneCell']) oy my oy (by simp[ij];omega) (v.heap.size+1) iy ?_;intro b6 cap a6 a' E b5 c0;have f:=(A.alloc _).grown E (λk e=>by have:=D e;omega);have G:=f.1.1.2.cell 0;have b1:=f.1.1.2.frozen 0;have H:=f.1.2.cell 0;have b8:=f.1.2.frozen 0;simp at G H)|(refine step_append_lies _ (by rfl) _ _ _ (by rfl) _ 49 a7 _ 2 16 underlying105 a5 a8 a4 b0 rfl oy S 0 _ (by rfl) I ⟨W.heap.size,0,none⟩ 1 1 [int .i64 x.1,int .i64 x.2] (by rfl) (by rfl) (World.news_of_block (cs:= #[int .i64 x.1,int .i64 x.2]) (t:=49) (fr:=(0,0)) ((af.new W 49 #[int .i64 x.1,int .i64 x.2]).drew.below j (by simp[ij]))) (by simp[Value.oneCell']) oy my oy (by simp[ij];omega) v.heap.size iy ?_;intro b6 cap a6 a' E b5 c0;have f:=A.grown E (λk e=>by have:=D e;omega);have G:=f.1.1.2.cell 0;have b1:=f.1.1.2.frozen 0;have H:=f.1.2.cell 0;have b8:=f.1.2.frozen 0;simp at G H));all_goals(gi_wp2;(have a9:v.heap[C]?=some (.deferred (some [])):=by first |exact(j.block C (by simp[ij];exact(Array.getElem?_eq_some_iff.1 z).1)).trans z |exact(j.block C (by simp[ij];have:=(Array.getElem?_eq_some_iff.1 z).1;omega)).trans ((Below.heap_alloc W _ C (Array.getElem?_eq_some_iff.1 z).1).trans z));have c9:=(Array.getElem?_eq_some_iff.1 z).1;exact Eg));case stop=>rintro C e5 L W e1 b' ⟨y,rfl,f0⟩ z;obtain⟨rfl,O,i⟩|⟨rfl,O,i⟩:=f0;{gi_wp2;refine⟨by simp,.inl ⟨_,_,rfl,run_takeDeferred z,?_⟩⟩;have d0:=(uN (β:=Unit) w _ _ _ _ _ ny).putObj (s:=()) (.deferred none) i (by simp at e1;omega) z rfl;refine⟨_,wQ d0 _ rfl rfl,A',n',c',?_,?_,d0.2,λU=>absurd U (by rw[AS a0 a3 b' O];simp)⟩;{rw[AS a0 a3 b' O]};rw[AS a0 a3 b' O];exact(b9.o.keep (λb f3 e'=>bC d0.2 (J.o.2.cell (p:=⟨b,f3,none⟩) e').symm)).more d0.2.size};refine Sa λd6 d5 d4 d7 g B c2 c3 V c4 c5 c8 f4=>?_;have f7:=hJ O;by_cases h3:n'<64;{(have b4:aQ.append xs x=(aQ.aD xs++[x],0):=by rw[JY a0 a3 b' (by have:=f7.o;omega),Ik (by have:=B.o.1;omega)]);have f1:=hJ b4;gi_wp2;refine wpIn_wide.2 ?_;go_region_held3 (λw'=>w'.cell? ⟨w.heap.size,0,none⟩=some (slice A' n' c')/\w'.cell? ⟨w.heap.size+1,0,none⟩=some (int .i64 x.1)/\w'.cell? ⟨w.heap.size+1,1,none⟩=some (int .i64 x.2)) (first|(have a2:=f.1.1.1.1.cell 0;have u:=f.1.1.1.2.cell 0;have o:=f.1.1.1.2.cell 1;simp at a2 u o;first|exact⟨a2,u,o⟩|exact⟨(fj _ _ _ _ iy).trans a2,(fj _ _ _ _ iy).trans u,(fj _ _ _ _ iy).trans o⟩|exact⟨(fj _ _ _ _ iy).trans ((fj _ _ _ _ iy).trans a2),(fj _ _ _ _ iy).trans ((fj _ _ _ _ iy).trans u),(fj _ _ _ _ iy).trans ((fj _ _ _ _ iy).trans o)⟩)|(have a2:=A.1.1.1.1.cell 0;have u:=A.1.1.1.2.cell 0;have o:=A.1.1.1.2.cell 1;simp at a2 u o;exact⟨a2,u,o⟩)|go_keep) (first|(go_at_call 161;refine(Ce A' n' c' (aQ.aD xs) _ ?_ oy).mono ?_;(first|(exact B.o.more g.o.2.size)|(exact(B.o.alloc g.o.2.size _).more (by simp[ij];omega)));rintro e v ⟨S,rfl,I,j⟩;have A:fG w (slice A' n' c') x (slice none 0 0) 0 v:=(by first|exact g.o.later j|exact g.o.drew.later j|exact(g.o.alloc _).later j|exact(g.o.drew.alloc _).later j|exact(g.o.alloc _).drew.later j);have D:=λ{k}=>qN (k:=k) I;have b3:=j.size;simp only[ij,World.size_alloc]at D b3)|(refine step_append_lies _ (by rfl) _ _ _ (by rfl) _ 49 a7 _ 2 16 underlying105 a5 a8 a4 b0 rfl oy S n' _ (by rfl) (I.alloc _) ⟨v.heap.size,0,none⟩ 1 1 [int .i64 x.1,int .i64 x.2] (by rfl) (by rfl) (World.news_of_block (cs:= #[int .i64 x.1,int .i64 x.2]) (t:=49) (fr:=(0,0)) (heap_alloc_new v _)) (by simp[Value.oneCell']) oy my oy (by simp[ij];omega) (v.heap.size+1) iy ?_;intro b6 cap a6 a' E b5 c0;have f:=(A.alloc _).grown E (λk e=>by have:=D e;omega);have G:=f.1.1.2.cell 0;have b1:=f.1.1.2.frozen 0;have H:=f.1.2.cell 0;have b8:=f.1.2.frozen 0;simp at G H)|(refine step_append_lies _ (by rfl) _ _ _ (by rfl) _ 49 a7 _ 2 16 underlying105 a5 a8 a4 b0 rfl oy S n' _ (by rfl) I ⟨W.heap.size,0,none⟩ 1 1 [int .i64 x.1,int .i64 x.2] (by rfl) (by rfl) (World.news_of_block (cs:= #[int .i64 x.1,int .i64 x.2]) (t:=49) (fr:=(0,0)) ((af.new W 49 #[int .i64 x.1,int .i64 x.2]).drew.below j (by simp[ij]))) (by simp[Value.oneCell']) oy my oy (by simp[ij];omega) v.heap.size iy ?_;intro b6 cap a6 a' E b5 c0;have f:=A.grown E (λk e=>by have:=D e;omega);have G:=f.1.1.2.cell 0;have b1:=f.1.1.2.frozen 0;have H:=f.1.2.cell 0;have b8:=f.1.2.frozen 0;simp at G H));all_goals(gi_wp2;refine Pk λa9 c9=>?_;exact Eg)};obtain⟨b,Q,g2,h1,i4⟩:=B.o.at_ (k:=0) oy;subst g2;have h5:=B.o.2.1;gi_wp2;(have b4:aQ.append xs x=((aQ.aD xs).tail++[x],0):=by rw[JY a0 a3 b' (by have:=f7.o;omega),Jg (by have:=B.o.1;omega)]);have f1:=hJ b4;have b2:=g.o.reset (slice (some ⟨b,Q+2,none⟩) (n'-1) (c'-1));have c1:cP (W.setCell ⟨w.heap.size,0,none⟩ (slice (some ⟨b,Q+2,none⟩) (n'-1) (c'-1))) w.heap.size (some ⟨b,Q+2,none⟩) (n'-1) (c'-1) (aQ.aD xs).tail:=(B.o.tail oy).setCell ny _;have f9:=(KeepsOthers.setCell W ⟨w.heap.size,0,none⟩ (slice (some ⟨b,Q+2,none⟩) (n'-1) (c'-1))).same C _ z rfl;obtain⟨W',f'⟩:=xR (W.setCell ⟨w.heap.size,0,none⟩ (slice (some ⟨b,Q+2,none⟩) (n'-1) (c'-1)));rw[f']at b2 c1 f9⊢;rename Wd=>W;have c2:=b2.1.1.1.1.cell 0;have c3:=b2.1.1.1.2.cell 0;have V:=b2.1.1.1.2.cell 1;obtain⟨g,B⟩:=aq b2 c1;have z:=f9;simp at c2 c3 V;have c8:=g.o.1.2.lt;obtain⟨q,rfl⟩: ∃q,n'=q+1:=⟨n'-1,by omega⟩;obtain⟨d,rfl⟩: ∃d,c'=d+1:=⟨c'-1,by omega⟩;simp only[Nat.add_sub_cancel]at c2 g B⊢;refine wpIn_wide.2 ?_;go_region_held3 (λw'=>w'.cell? ⟨w.heap.size,0,none⟩=some (slice (some ⟨b,Q+2,none⟩) q d)/\w'.cell? ⟨w.heap.size+1,0,none⟩=some (int .i64 x.1)/\w'.cell? ⟨w.heap.size+1,1,none⟩=some (int .i64 x.2)) (first|(have a2:=f.1.1.1.1.cell 0;have u:=f.1.1.1.2.cell 0;have o:=f.1.1.1.2.cell 1;simp at a2 u o;first|exact⟨a2,u,o⟩|exact⟨(fj _ _ _ _ iy).trans a2,(fj _ _ _ _ iy).trans u,(fj _ _ _ _ iy).trans o⟩|exact⟨(fj _ _ _ _ iy).trans ((fj _ _ _ _ iy).trans a2),(fj _ _ _ _ iy).trans ((fj _ _ _ _ iy).trans u),(fj _ _ _ _ iy).trans ((fj _ _ _ _ iy).trans o)⟩)|(have a2:=A.1.1.1.1.cell 0;have u:=A.1.1.1.2.cell 0;have o:=A.1.1.1.2.cell 1;simp at a2 u o;exact⟨a2,u,o⟩)|go_keep) (first|(go_at_call 161;refine(Ce (some ⟨b,Q+2,none⟩) q d ((aQ.aD xs).tail) _ ?_ oy).mono ?_;(first|(exact B.o.more g.o.2.size)|(exact(B.o.alloc g.o.2.size _).more (by simp[ij];omega)));rintro e v ⟨S,rfl,I,j⟩;have A:fG w (slice (some ⟨b,Q+2,none⟩) q d) x (slice none 0 0) 0 v:=(by first|exact g.o.later j|exact g.o.drew.later j|exact(g.o.alloc _).later j|exact(g.o.drew.alloc _).later j|exact(g.o.alloc _).drew.later j);have D:=λ{k}=>qN (k:=k) I;have b3:=j.size;simp only[ij,World.size_alloc]at D b3)|(refine step_append_lies _ (by rfl) _ _ _ (by rfl) _ 49 a7 _ 2 16 underlying105 a5 a8 a4 b0 rfl oy S q _ (by rfl) (I.alloc _) ⟨v.heap.size,0,none⟩ 1 1 [int .i64 x.1,int .i64 x.2] (by rfl) (by rfl) (World.news_of_block (cs:= #[int .i64 x.1,int .i64 x.2]) (t:=49) (fr:=(0,0)) (heap_alloc_new v _)) (by simp[Value.oneCell']) oy my oy (by simp[ij];omega) (v.heap.size+1) iy ?_;intro b6 cap a6 a' E b5 c0;have f:=(A.alloc _).grown E (λk e=>by have:=D e;omega);have G:=f.1.1.2.cell 0;have b1:=f.1.1.2.frozen 0;have H:=f.1.2.cell 0;have b8:=f.1.2.frozen 0;simp at G H)|(refine step_append_lies _ (by rfl) _ _ _ (by rfl) _ 49 a7 _ 2 16 underlying105 a5 a8 a4 b0 rfl oy S q _ (by rfl) I ⟨W.heap.size,0,none⟩ 1 1 [int .i64 x.1,int .i64 x.2] (by rfl) (by rfl) (World.news_of_block (cs:= #[int .i64 x.1,int .i64 x.2]) (t:=49) (fr:=(0,0)) ((af.new W 49 #[int .i64 x.1,int .i64 x.2]).drew.below j (by simp[ij]))) (by simp[Value.oneCell']) oy my oy (by simp[ij];omega) v.heap.size iy ?_;intro b6 cap a6 a' E b5 c0;have f:=A.grown E (λk e=>by have:=D e;omega);have G:=f.1.1.2.cell 0;have b1:=f.1.1.2.frozen 0;have H:=f.1.2.cell 0;have b8:=f.1.2.frozen 0;simp at G H));all_goals(gi_wp2;refine Pk λa9 c9=>?_;exact Eg)};(have e4:fh x.2=false:=by simpa using a3);gi_wp2_with (first|(refine⟨trivial,?_⟩;gi_at_call 100;refine(callsIn_wide.2 (pw _ _)).mono ?_;rintro e w' ⟨rfl,rfl⟩)|(refine⟨trivial,?_⟩;gi_at_call 101;refine(callsIn_wide.2 (nf _ _)).mono ?_;rintro e w' ⟨rfl,rfl⟩));refine⟨_,wQ (J.o.result (slice A' n' c') 2) _ rfl rfl,A',n',c',?_,?_,(J.o.result _ _).2,λU=>absurd U (by rw[qq (by simp[e4])];simp)⟩;{rw[qq (by simp[e4])]};rw[qq (by simp[e4])];exact OU};(have e0:aQ.bS x.1=false:=by simpa using a0);gi_wp2_with (first|(refine⟨trivial,?_⟩;gi_at_call 100;refine(callsIn_wide.2 (pw _ _)).mono ?_;rintro e w' ⟨rfl,rfl⟩)|(refine⟨trivial,?_⟩;gi_at_call 101;refine(callsIn_wide.2 (nf _ _)).mono ?_;rintro e w' ⟨rfl,rfl⟩));refine⟨trivial,?_⟩;gi_wp2;refine⟨_,wQ (J.o.result (slice A' n' c') 2) _ rfl rfl,A',n',c',?_,?_,(J.o.result _ _).2,λU=>absurd U (by rw[qq (by simp[e0])];simp)⟩;{rw[qq (by simp[e0])]};rw[qq (by simp[e0])];exact OU
end dX
namespace aQ
theorem Vb (c:bS x.1) (b:fh x.2) (d:0<(aD xs).length) (a:x.1<=cF (aD xs) ((aD xs).length-1)):append xs x=(aD xs,9):=by grind[append]
theorem tQ (a:ar xs):aD xs=xs:=by grind[aD]
theorem BG (a:i<xs.length):cF (xs++ys) i=cF xs i:=by grind[cF]
theorem Zw (a:i<xs.length):dU (xs++ys) i=dU xs i:=by grind[dU]
def II (xs:List (Int×Int)) (x:Int×Int):cF (xs++[x]) xs.length=x.1:=by unfold cF;simp
def YV (xs:List (Int×Int)) (x:Int×Int):dU (xs++[x]) xs.length=x.2:=by unfold dU;simp
def Jh (c:ar xs) (h:xs.length<64) (e:bS x.1) (f:fh x.2) (g:xs.length=0\/cF xs (xs.length-1)<x.1):ar (xs++[x]):=by rw[eo];refine⟨by simp;omega,λi d=>?_⟩;simp at d;obtain a|a:=Nat.lt_or_ge i xs.length;{have:=pF c a;simp only[bN]at this⊢;rw[BG a,Zw a,BG oy];exact this};obtain rfl:i=xs.length:=oy;refine xJ (by rw[II];exact e) (by rw[YV];exact f) ?_;obtain b|b:=Nat.eq_zero_or_pos xs.length;{exact .inl b};right;rw[II,BG oy];omega
theorem abp (a:ar xs):ar xs.tail:=by grind[eo,bN,cF,dU,Ba,pF,xJ,Nat.eq_zero_or_pos]
def Vs (b:ar xs):
 (append xs x=(xs,2)/\(bS x.1&&fh x.2)=false)\/(append xs x=(xs,9)/\(bS x.1&&fh x.2))\/
 (append xs x=(kept xs++[x],0)/\bS x.1/\fh x.2/\(xs.length=0\/cF xs (xs.length-1)<x.1)):=by rcases d:(bS x.1&&fh x.2)with _|_;{exact .inl ⟨by rw[qq d,tQ b],rfl⟩};right;(have a:bS x.1/\fh x.2:=by simpa using d);by_cases c:0<xs.length/\x.1<=cF xs (xs.length-1);{left;exact⟨by rw[Vb a.1 a.2 (by rw[tQ b];exact c.1) (by rw[tQ b];exact c.2),tQ b],rfl⟩};right;refine⟨?_,a.1,a.2,oy⟩;unfold append kept;rw[if_pos (by simp[a.1,a.2]),tQ b,if_neg c]
theorem ahS (a:ar xs) (c:bS x.1) (d:fh x.2) (e:xs.length=0\/cF xs (xs.length-1)<x.1):
 ar (kept xs++[x])/\((xs.length<64/\kept xs=xs)\/(xs.length=64/\kept xs=xs.drop 1)):=by have f:=Ba a;by_cases b:xs.length<64;{rw[Ik b];exact⟨Jh a b c d e,.inl ⟨b,rfl⟩⟩};rw[Jg oy];refine⟨Jh (abp a) uy c d ?_,.inr ⟨oy,by rw[drop_one]⟩⟩;grind[cF]
end aQ
namespace aa
abbrev Pr:=au×au
def cI (P:Nat->Bool):Nat->Bool
 |0=>true
 |n+1=>cI P n&&P n
theorem fa:cI P n=true↔ ∀i,i<n->P i:=by induction n with|zero=>(exact⟨λ_ i a=>absurd a oy,λ_=>rfl⟩)|succ n ih=>grind[cI]
def kM (b:i<n) (a:P i=false):cI P n=false:=by rcases c:cI P n with _|_;{rfl};rw[fa.1 c i b]at a;cases a
theorem ig (b:cI P n) (a:P n):cI P (n+1):=by grind[cI]
theorem Hn {a:Nat->Bool} (b: ∀i,i<n->P i=a i):cI P n=cI a n:=by induction n with|zero=>rfl|succ n ih=>grind[cI]
def letter (c:aU):Bool:=(decide (97<=c)&&decide (c<=122))||(decide (65<=c)&&decide (c<=90))||c==95
def digit (c:aU):Bool:=decide (48<=c)&&decide (c<=57)
def nameAt (s:au) (i:Nat):Bool:=letter (s.get! i)||(digit (s.get! i)&&decide (0<i))
def name (s:au):Bool:=decide (1<=s.size)&&decide (s.size<=64)&&cI (nameAt s) s.size
def get_at (s:au) (i:Nat) (a:i<s.size):s.get! i=s[i]:=by simp[ByteArray.get!,getElem!_pos,a];rfl
def bN (l:List Pr) (i:Nat):Bool:=
 match l[i]? with
 |none=>true
 |some p=>name p.1&&decide (p.2.size<=64)&& (match i with
  |0=>true
  |k+1=>match l[k]? with
   |none=>true
   |some q=>Op.bytesLess q.1.toList p.1.toList)
def ar (l:List Pr):Bool:=decide (l.length<=16)&&cI (bN l) l.length
def find (l:List Pr) (n:au):ah au:=(l.find? λp=>p.1.toList==n.toList).map (·.2)
def get (l:List Pr) (n:au):ah au:=if ar l=true then find l n else none
def vD {a:Bool} (c:a=b):Ending.returned a= .returned b:=by rw[c]
def DY (c n) (a:n<256):(c<=UInt8.ofNat n)↔c.toNat<=(n:Int):=by exact pX
def Eb (c n) (a:n<256):(UInt8.ofNat n<=c)↔n<=(c.toNat:Int):=by exact pX
def aiU (c n) (a:n<256):(c=UInt8.ofNat n)↔c.toNat=(n:Int):=by exact ER
theorem qz (c):(digit c)↔(48<=(c.toNat:Int)/\(c.toNat:Int)<=57):=by have a:=Eb c 48 dy;have b:=DY c 57 dy;simp_all[digit,cm,dP]
theorem wW (c):(letter c)↔((97<=(c.toNat:Int)/\(c.toNat:Int)<=122)\/(65<=(c.toNat:Int)/\(c.toNat:Int)<=90)\/(c.toNat:Int)=95):=by have a:=Eb c 97 dy;have f:=DY c 122 dy;have e:=Eb c 65 dy;have b:=DY c 90 dy;have d:=aiU c 95 dy;simp only[letter,Bool.or_eq_true,cm,dP,beq_iff_eq];grind
def Jf (s i) (b:i<s.size) (c) (a:s[i]=c):nameAt s i=(letter c||(digit c&&decide (0<i))):=by unfold nameAt;rw[get_at s i b,a]
def XK {a:i<s.size} {c:aU} (b:s[i]=c) (d:nameAt s i):
 (97<=(c.toNat:Int)/\(c.toNat:Int)<=122)\/(65<=(c.toNat:Int)/\(c.toNat:Int)<=90)\/(c.toNat:Int)=95\/(48<=(c.toNat:Int)/\(c.toNat:Int)<=57/\0<i):=by rw[Jf s i a c b,Bool.or_eq_true,cm,wW,qz,dP]at d;omega
theorem abo {a:i<s.size} {c:aU} (e:s[i]=c) (b:nameAt s i=false):
 (c.toNat:Int)<48\/(57<(c.toNat:Int)/\(c.toNat:Int)<65)\/(90<(c.toNat:Int)/\(c.toNat:Int)<95)\/(95<(c.toNat:Int)/\(c.toNat:Int)<97)\/122<(c.toNat:Int)\/(48<=(c.toNat:Int)/\(c.toNat:Int)<=57/\i=0):=by
 rw[Jf s i a c e,Bool.or_eq_false_iff,Bool.and_eq_false_iff]at b;have f: ¬((97<=(c.toNat:Int)/\(c.toNat:Int)<=122)\/(65<=(c.toNat:Int)/\(c.toNat:Int)<=90)\/(c.toNat:Int)=95):=λa=>by rw[(wW c).2 a]at b;cases b.1
 obtain d|d:=b.2;{(have g: ¬(48<=(c.toNat:Int)/\(c.toNat:Int)<=57):=λa=>by rw[(qz c).2 a]at d;cases d);omega};grind
end aa
def adT (s w):Calls prog 96 #[string s] w λe w'=>e= .returned (bool (aa.name s))/\w=w':=by by_cases p:s.size<1;{have z:decide ((s.size:Int)<1):=bG oy;have o:=hJ (show aa.name s=false by unfold aa.name;rw[bj (by omega: ¬1<=s.size)];rfl);clear p;exact QG};have z:decide ((s.size:Int)<1)=false:=bj oy;by_cases H:64<s.size;{have D:decide ((64:Int)<s.size):=bG oy;have o:=hJ (show aa.name s=false by unfold aa.name;rw[bj (by omega: ¬s.size<=64),Bool.and_false];rfl);clear p;exact QG};have D:decide ((64:Int)<s.size)=false:=bj oy;have o:=hJ (show aa.name s=cI (aa.nameAt s) s.size by unfold aa.name;rw[bG (oy:1<=s.size),bG (oy:s.size<=64)];rfl);clear p;go_enter func96,ntmps96;go_wp2;go_loop[3] (λj=> ∃i:Nat,i<=s.size/\j=i/\cI (aa.nameAt s) i) (λj=>s.size- (intOf j).toNat);(case atStart=>exact⟨0,dR _,rfl,rfl⟩);case round=>obtain⟨i,G,rfl,v⟩:=hrel;have u:=hJ v;clear v;by_cases B:i<s.size;{let⟨c,x⟩:=xR (s[i]);cases m:aa.nameAt s i;{have q:=abo x m;have r:=hJ (show aa.name s=false by rw[o.o];exact kM B m);have t:((c.toNat:Int)==95)=false:=mu;clear m;obtain a|⟨a,b⟩|⟨a,b⟩|⟨a,b⟩|a|⟨a,b,C⟩:=q;{refine yR λl g=>?_;have d:decide ((48:Int)<=c.toNat)=false:=gI;clear a;exact qW};{refine yR λl g=>?_;refine Ew λd f=>?_;clear a b;exact qW};{have l:decide ((97:Int)<=c.toNat)=false:=gI;refine yt λg n d f=>?_;clear a b;exact qW};{have l:decide ((97:Int)<=c.toNat)=false:=gI;refine yt λg n d f=>?_;clear a b;exact qW};{have l:decide ((97:Int)<=c.toNat):=gI;have a2:decide ((c.toNat:Int)<=122)=false:=gI;refine yt λg n d f=>?_;clear a;exact qW};have F:((i:Int)==0):=tG;refine yR λl g=>?_;have d:decide ((48:Int)<=c.toNat):=gI;have f:decide ((c.toNat:Int)<=57):=gI;clear a b C;exact qW};have q:=XK x m;have y:=hJ (ig u m);clear m;obtain⟨a,b⟩|⟨a,b⟩|a|⟨a,b,A⟩:=q;{have l:decide ((97:Int)<=c.toNat):=gI;have a2:decide ((c.toNat:Int)<=122):=gI;refine Ew λd f=>?_;clear a b;exact yX};{have l:decide ((97:Int)<=c.toNat)=false:=gI;have g:decide ((65:Int)<=c.toNat):=gI;have n:decide ((c.toNat:Int)<=90):=gI;refine Ew λd f=>?_;clear a b;exact yX};{(have t:((c.toNat:Int)==95):=by rw[beq_iff_eq];exact a);have l:decide ((97:Int)<=c.toNat)=false:=gI;refine yt λg n d f=>?_;clear a;exact yX};have t:((c.toNat:Int)==95)=false:=mu;have E:((i:Int)==0)=false:=mu;refine yR λl g=>?_;have d:decide ((48:Int)<=c.toNat):=gI;have f:decide ((c.toNat:Int)<=57):=gI;clear a b A;exact yX};obtain rfl:i=s.size:=oy;go_wp2;go_ret;exact⟨by rw[o.o,u.o];rfl,rfl⟩
section
def cW (p:Pr):List ai:=[p.1,p.2]
def jF (p):(cW p).length=2:=rfl
def aH (W:Wd) (B:Nat) (A:ah ak) (n c:Nat) (xs:List Pr):Prop:=
 aA cW 2 W B A n c xs/\ ∀p∈xs,p.1.size<= ""/\p.2.size<= ""
section
variable{W W':Wd} {B B' n c:Nat} {A:ah ak} {xs:List Pr}
def aH.len (a:aH W B A n c xs):xs.length=n:=a.1.1
def aH.below (a:aH W B A n c xs) (b:Below B W W'):aH W' B A n c xs:=⟨a.1.below b,a.2⟩
def aH.later (a:aH W W A n c xs) (b:az W W'):aH W' W' A n c xs:=⟨a.1.later b,a.2⟩
def aH.more (a:aH W B A n c xs) (b:B<=B'):aH W B' A n c xs:=⟨a.1.more b,a.2⟩
def aH.at_ (g:aH W B A n c xs) {k:Nat} (i:k<n): ∃b a,A=some (b a)/\b<B/\ ∀j p,xs[j]?=some p->W.cell? (b (a+j*2))=(p.1:ai)/\W.cell? (b (a+j*2+1))=(p.2:ai):=by let⟨b,a,e,h,f⟩:=g.1.at_ oy;exact⟨b,a,e,h,λj p d=>⟨f j p d 0 _ rfl,f j p d 1 _ rfl⟩⟩
end
def fB (s b) (a:aa.name s=b) (w):Calls prog 96 #[s] w λe w'=>e= .returned b/\w=w':=by subst a;exact adT s w
def afA (t a b):binOp .geq t (string a) (string b)=pure (.bool !(Op.bytesLess a.toList b.toList)):=by simp[binOp,Op.stringOp]
attribute [local go_sem↓] afA
namespace aa
def kp {xs:List Pr} {k:Nat} (a:k<xs.length) (b:bN xs k=false):ar xs=false:=by unfold ar;rw[kM a b,Bool.and_false]
def aaw {xs:List Pr} {p:Pr} (a:xs[0]?=some p):bN xs 0=(name p.1&&decide (p.2.size<=64)):=by unfold bN;rw[a];simp
def YE {xs:List Pr} {p:Pr} {k:Nat} (b:k=0) (a:xs[k]?=some p):bN xs k=(name p.1&&decide (p.2.size<=64)):=by subst b;exact aaw a
theorem Jw {xs:List Pr} {p q:Pr} {k:Nat} (d:0<k) (a:xs[k]?=some p) (b:xs[k-1]?=some q):bN xs k=(name p.1&&decide (p.2.size<=64)&&Op.bytesLess q.1.toList p.1.toList):=by obtain⟨k,rfl⟩: ∃j,k=j+1:=⟨k-1,oy⟩;grind[bN]
theorem Jb {xs:List Pr} {p:Pr} {k:Nat} (a:xs[k]?=some p) (b:name p.1=false):bN xs k=false:=by grind[bN]
theorem Jc {xs:List Pr} {p:Pr} {k:Nat} (a:xs[k]?=some p) (b:64<p.2.size):bN xs k=false:=by grind[bN]
end aa
def nY (A n c xs w) (y:aH w w A n c xs):
 Calls prog 59 #[slice A n c] w (bO w (aa.ar xs)):=by have v:=y.len;by_cases V:16<n;{have C:decide ((16:Int)<n):=bG oy;have f:=hJ (show aa.ar xs=false by unfold aa.ar;rw[v,bj (oy: ¬n<=16)];rfl);clear y v;go_enter func59,ntmps59;go_wp2;go_ret;exact⟨by rw[f.o];rfl,aN⟩};refine sS λC=>?_;let⟨f,z,J⟩:=aM (show aa.ar xs=cI (aa.bN xs) xs.length by unfold aa.ar;rw[v,bG (oy:n<=16)];rfl) v y;clear y v;go_enter func59,ntmps59;go_wp2;go_loopw[10] (λi wr=> ∃k:Nat,k<=n/\i=k/\cI (aa.bN xs) k/\az w wr) (λi _=>n- (intOf i).toNat);(case atStart=>exact⟨0,dR _,rfl,rfl,aN⟩);case round=>obtain⟨k,a1,rfl,M,d⟩:=hrel;have t:=hJ M;clear M;by_cases u:k<n;{obtain⟨b,O,rfl,S,l⟩:=J.o.at_ u;refine zv λp a E D=>?_;let⟨N,o⟩:=aq l a;have X:=d.size;have Z:=(J.o.2 p (cz a)).2;clear l a;cases g:aa.name p.1;{let⟨m,e⟩:=aq (aa.kp iO (Jb o.o g)) g;clear g;(go_wp2_with fail);refine mE (fB _ _ e.o _) ?_;exact nz};have e:=hJ g;by_cases x:64<p.2.size;{have m:=hJ (aa.kp iO (Jc o.o x));have R:decide ((64:Int)<p.2.size):=bG oy;clear g x;(go_wp2_with fail);refine mE (fB _ _ e.o _) ?_;exact nz};have R:decide ((64:Int)<p.2.size)=false:=bj oy;obtain r|r:=jY k;{refine Qd λj s=>?_;have Y:decide (0<k)=false:=bj oy;clear g x j r;(go_wp2_with fail);refine mE (fB _ _ e.o _) ?_;go_wp2;go_quiet (fail);exact RW};obtain⟨q,G⟩: ∃q,xs[k-1]?=some q:=⟨_,br jZ⟩;have F:=Jw r o.o G;have U: ∀H,(wr.alloc H).cell? (b (O+(k-1)*2))=(q.1:ai):=λH=>(World.cell?_alloc_lt wr H _ (show b<wr by omega)).trans (bC d (N.o (k-1) q G).1);have K:IntKind.i64.wrap ((k:Int)-1)=(k:Int)-1:=fA _ oy;have I:((k:Int)-1).toNat=k-1:=oy;cases L:Op.bytesLess q.1.toList p.1.toList;{have m:=hJ (aa.kp iO (show aa.bN xs k=false by rw[F,L,Bool.and_false]));clear g x F G;(go_wp2_with fail);refine mE (fB _ _ e.o _) ?_;go_wp2;go_quiet (fail);clear K I;exact nz};(have j:aa.bN xs k:=by rw[F,g,bG (oy:p.2.size<=64),L];rfl);have s:=hJ (ig t.o j);clear g x F G j;(go_wp2_with fail);refine mE (fB _ _ e.o _) ?_;go_wp2;go_quiet (fail);clear K I;exact RW};obtain rfl:k=n:=oy;exact vK
end
namespace aa
abbrev Mt:=au×au×Bool
def lN (a:List Mt) (i:Nat):Bool:=
 match a[i]? with
 |none=>true
 |some m=>name m.1&&decide (m.2.1.size<=64)
def eR (n:au) (a:List Mt):Bool:=name n&&decide (a.length<=8)&&cI (lN a) a.length
def CH {G2:List Mt} {m:Mt} {k:Nat} (a:G2[k]?=some m):lN G2 k=(name m.1&&decide (m.2.1.size<=64)):=by unfold lN;rw[a]
end aa
def qE (m:aa.Mt):List ai:=[m.1,m.2.1,m.2.2]
def wM (m:aa.Mt):(qE m).length=3:=rfl
def cQ (W:Wd) (B:Nat) (A:ah ak) (n c:Nat) (xs:List aa.Mt):Prop:=
 aA qE 3 W B A n c xs/\ ∀p∈xs,p.1.size<= ""/\p.2.1.size<= ""
section
variable{W W':Wd} {B B' n c:Nat} {A:ah ak} {xs:List aa.Mt}
def cQ.len (a:cQ W B A n c xs):xs.length=n:=a.1.1
def cQ.below (a:cQ W B A n c xs) (b:Below B W W'):cQ W' B A n c xs:=⟨a.1.below b,a.2⟩
def cQ.later (a:cQ W W A n c xs) (b:Below W W W'):cQ W' W' A n c xs:=⟨a.1.later b,a.2⟩
def cQ.more (a:cQ W B A n c xs) (b:B<=B'):cQ W B' A n c xs:=⟨a.1.more b,a.2⟩
def cQ.at_ (g:cQ W B A n c xs) {k:Nat} (i:k<n): ∃b a,A=some (b a)/\b<B/\ ∀j p,xs[j]?=some p->W.cell? (b (a+j*3))=(p.1:ai)/\W.cell? (b (a+j*3+1))=(p.2.1:ai)/\W.cell? (b (a+j*3+2))=(p.2.2:ai):=by obtain⟨b,a,e,h,f⟩:=g.1.at_ oy;exact⟨b,a,e,h,λj p d=>⟨f j p d 0 _ rfl,f j p d 1 _ rfl,f j p d 2 _ rfl⟩⟩
end
def Bb (nm:au) (A:ah ak) (n c:Nat) (xs:List aa.Mt) (w:Wd) (q:cQ w w A n c xs):
 Calls prog 189 #[agg #[nm,slice A n c]] w λe w'=>e= .returned (eR nm xs)/\Below w w w':=by have l:=q.len;rcases g:aa.name nm with _|_;{obtain⟨v,f⟩:=aq g (show eR nm xs=false by unfold eR;rw[g];rfl);clear q l g;exact Qn};have v:=hJ g;by_cases Q:8<n;{have E:decide ((8:Int)<n):=decide_eq_true oy;have f:=hJ (show eR nm xs=false by unfold eR;rw[l,decide_eq_false (oy: ¬n<=8),Bool.and_false];rfl);clear q l g;exact Qn};have E:decide ((8:Int)<n)=false:=decide_eq_false oy;obtain⟨f,z,x⟩:=aM (show eR nm xs=cI (aa.lN xs) xs.length by unfold eR;rw[l,g,decide_eq_true (oy:n<=8)];rfl) l q;clear q l g;go_enter func189,ntmps189;(go_wp2_with fail);refine mE (fB _ _ v.o _) ?_;go_wp2;have H:=(Below.refl w.heap.size w).alloc ny (.cells #[string nm,slice A n c] 88);go_loopw[18] (λi wr=> ∃k:Nat,k<=n/\i=k/\cI (aa.lN xs) k/\Below w w wr) (λi _=>n- (intOf i).toNat);(case atStart=>exact⟨0,Nat.zero_le _,rfl,rfl,H⟩);case round=>obtain⟨k,R,rfl,D,d⟩:=hrel;have t:=hJ D;clear D;by_cases u:k<n;{refine oD λC=>?_;obtain⟨b,M,rfl,I,r⟩:=x.o.at_ u;obtain⟨p,o⟩: ∃p,xs[k]?=some p:=⟨_,getElem?_eq_getElem (by rw[z.o];exact u)⟩;have N:=bC d (r k p o).1;have L:=bC d (r k p o).2.1;have J:=bC d (r k p o).2.2;have K:=d.size;have O:=(x.o.2 p (mem_of_getElem? o)).2;have j:=CH o;clear r o;rcases a:aa.name p.1 with _|_;{obtain⟨m,s⟩:=aq (show eR nm xs=false by rw[f.o];exact kM (by rw[z.o];exact u) (by rw[j,a];rfl)) a;clear a j;(go_wp2_with fail);refine mE (fB _ _ s.o _) ?_;exact nz};have s:=hJ a;by_cases y:64<p.2.1.size;{have m:=hJ (show eR nm xs=false by rw[f.o];exact kM (by rw[z.o];exact u) (by rw[j,decide_eq_false (oy: ¬p.2.1.size<=64),Bool.and_false]));have G:decide ((64:Int)<p.2.1.size):=decide_eq_true oy;clear a y j;(go_wp2_with fail);refine mE (fB _ _ s.o _) ?_;exact nz};have G:decide ((64:Int)<p.2.1.size)=false:=decide_eq_false oy;have F:=hJ (ig t.o (show aa.lN xs k=true by rw[j,a,decide_eq_true (oy:p.2.1.size<=64)];rfl));clear a y j;(go_wp2_with fail);refine mE (fB _ _ s.o _) ?_;go_wp2;go_roundw;(case rel=>exact⟨k+1,by omega,by go_num,F.o,ly⟩);case measure=>simp[intOf];omega};obtain rfl:k=n:=oy;have C:=decide_eq_false oy;exact vK
namespace aa
def iL (d:Int):Bool:=decide (0<=d)&&decide (d<=())
def sq (d:Int):Bool:=decide (-()<=d)&&decide (d<=())
def iX (op:Int):Bool:=decide (1<=op)&&decide (op<=6)
def sY (s:au):Bool:=s.toList==[95,95,110,97,109,101,95,95]||s.toList==[97,108,101,114,116,110,97,109,101]||s.toList==[97,108,101,114,116,115,116,97,116,101]
def vg (ls:List Pr) (i:Nat):Bool:=
 match ls[i]? with
 |none=>true
 |some p=>!sY p.1
def free (ls:List Pr):Bool:=cI (vg ls) ls.length
def abR {ls:List Pr} {p:Pr} {k:Nat} (a:ls[k]?=some p):vg ls k=!sY p.1:=by unfold vg;rw[a]
def lB (a:au) (b:List Mt) (op v:Int):Bool:=eR a b&&iX op&&sq v
structure Ru where
 nm:au
 sn:au
 MA:ah ak
 Mn:Nat
 Mc:Nat
 ms:List Mt
 op:Int
 v:Int
 fo:Int
 ke:Int
 LA:ah ak
 Ln:Nat
 Lc:Nat
 ls:List Pr
def gz (r:Ru):Bool:=name r.nm&&lB r.sn r.ms r.op r.v&&iL r.fo&&iL r.ke&&ar r.ls&&free r.ls
end aa
def kq (r:Ru):List ai:=[r.nm,r.sn,slice r.MA r.Mn r.Mc,r.op,r.v,r.fo,r.ke,slice r.LA r.Ln r.Lc]
abbrev ic (r:Ru):Array ai:= #[r.nm,r.sn,slice r.MA r.Mn r.Mc,r.op,r.v,r.fo,r.ke,slice r.LA r.Ln r.Lc]
def WO (r):(kq r).length=8:=rfl
def ev (W:Wd) (B:Nat) (r:Ru):Prop:=
 cQ W B r.MA r.Mn r.Mc r.ms/\aH W B r.LA r.Ln r.Lc r.ls/\r.nm.size<= ""/\r.sn.size<= ""
def ev.later {r:Ru} (a:ev W W r) (b:az W W'):ev W' W' r:=⟨a.1.later b,a.2.1.later b,a.2.2⟩
def ev.below {r:Ru} (a:ev W B r) (b:Below B W W'):ev W' B r:=⟨a.1.below b,a.2.1.below b,a.2.2⟩
def ev.more {r:Ru} (a:ev W B r) (b:B<=n):ev W n r:=⟨a.1.more b,a.2.1.more b,a.2.2⟩
def aet (d w):Calls prog 190 #[int .i64 d] w λe w'=>e= .returned (bool (aa.iX d))/\w=w':=by
 go_enter func190,ntmps190;go_wp2;all_goals go_ret
 all_goals exact⟨vD (by simp[aa.iX];try omega),rfl⟩
def Wx (d w):Calls prog 97 #[int .i64 d] w λe w'=>e= .returned (bool (iL d))/\w=w':=by
 go_enter func97,ntmps97;go_wp2;all_goals go_ret
 all_goals exact⟨vD (by simp[iL];try omega),rfl⟩
def nf (d w):Calls prog 101 #[int .i64 d] w λe w'=>e= .returned (bool (sq d))/\w=w':=by
 go_enter func101,ntmps101;go_wp2;all_goals go_ret
 all_goals exact⟨vD (by simp[sq];try omega),rfl⟩
def acQ (s w):Calls prog 191 #[string s] w λe w'=>e= .returned (bool (sY s))/\w=w':=by unfold sY;cases a:(s.toList==[95,95,110,97,109,101,95,95]);{cases c:(s.toList==[97,108,101,114,116,110,97,109,101]);{cases b:(s.toList==[97,108,101,114,116,115,116,97,116,101]);all_goals(exact EI)};exact EI};exact EI
def Mp (s b) (a:sY s=b) (w):Calls prog 191 #[string s] w λe w'=>e= .returned (bool b)/\w=w':=by subst a;exact acQ s w
def VK (A n c xs w) (f:aH w w A n c xs):
 Calls prog 144 #[slice A n c] w (bO w (bool (!aa.free xs))):=by
 have r:=f.len;have C:=cK f.1.2.1 f.1.2.2.1;let⟨z,s⟩:=aq r f;go_enter func144,ntmps144;go_wp2;go_loopw[7] (λi wr=> ∃k:Nat,k<=n/\i=k/\cI (vg xs) k/\az w wr) (λi _=>n- (intOf i).toNat);case atStart=>exact⟨0,dR _,rfl,rfl,aN⟩
 case round=>obtain⟨k,F,rfl,v,d⟩:=hrel;have o:=hJ v;by_cases u:k<n;{obtain⟨b,B,rfl,x,l⟩:=s.o.at_ u;refine zv λp a E D=>?_;have y:=d.size;have g:=abR a;cases e:sY p.1;{let⟨j,t⟩:=aq e (ig o.o (show vg xs k=true by rw[g,e];rfl));(go_wp2_with fail);refine mE (Mp _ _ j.o _) ?_;go_wp2;go_roundw;(case rel=>exact⟨k+1,by omega,by go_num,t.o,ly⟩);case measure=>exact cn};let⟨j,m⟩:=aq e (show aa.free xs=false from kM iO Fx);(go_wp2_with fail);refine mE (Mp _ _ j.o _) ?_;exact nz};obtain rfl:k=n:=oy;have q:=hJ (show aa.free xs=true by unfold aa.free;rw[z.o,o.o]);go_wp2;go_ret;exact⟨by rw[q.o];rfl,d⟩
def CU (A n c xs b) (a:aa.free xs=b) (w) (d:aH w w A n c xs):
 Calls prog 144 #[slice A n c] w (bO w (bool (!b))):=by subst a;exact VK A n c xs w d
def FW (A n c xs b) (a:aa.ar xs=b) (w) (d:aH w w A n c xs):
 Calls prog 59 #[slice A n c] w (bO w (bool b)):=by subst a;exact nY A n c xs w d
def Yt (nm A n c xs b) (a:eR nm xs=b) (w) (d:cQ w w A n c xs):
 Calls prog 189 #[agg #[string nm,slice A n c]] w (bO w (bool b)):=by subst a;exact Bb nm A n c xs w d
def oa (d b) (a:iL d=b) (w):Calls prog 97 #[int .i64 d] w λe w'=>e= .returned (bool b)/\w=w':=by subst a;exact Wx d w
def YT (d b) (a:sq d=b) (w):Calls prog 101 #[int .i64 d] w λe w'=>e= .returned (bool b)/\w=w':=by subst a;exact nf d w
def Mq (d b) (a:aa.iX d=b) (w):Calls prog 190 #[int .i64 d] w λe w'=>e= .returned (bool b)/\w=w':=by subst a;exact aet d w
section
variable {A0 A1 A2 A3 Q:World->Prop} {G:Prop}
def yA (k:∀a,A0 a->A1 a->A2 a->A3 a->Q a) (c:(∀a,A0 a->A1 a->A2 a->A3 a->Q a)->G:=by intro k;generalize y:World.alloc _ _=z;let⟨b,E,d⟩:=aJ y;have s:=E.size;have b:=hJ b;clear y;exact k z b E d s):G:=c k
def yB (k:∀a,A0 a->A1 a->A2 a->Q a) (c:(∀a,A0 a->A1 a->A2 a->Q a)->G:=by intro k;generalize y:World.alloc _ _=z;let⟨b,E,d⟩:=aJ y;have b:=hJ b;clear y;exact k z b E d):G:=c k
def yC (k:∀a,A0 a->A1 a->A2 a->Q a) (c:(∀a,A0 a->A1 a->A2 a->Q a)->G:=by intro k;generalize y:World.alloc _ _=z;let⟨b,E,d⟩:=aJ y;clear y;exact k z b E d):G:=c k
end
def Vw (d:au) (o:ah ak) (n c:Nat) (e:List aa.Mt) (op v:Int) (w:Wd) (s:cQ w w o n c e):
 Calls prog 143 #[agg #[d,slice o n c,op,v]] w (bO w (lB d e op v)):=by have x:=hJ s;clear s;rcases b:eR d e with _|_;{obtain⟨t,l⟩:=aq b (show lB d e op v=false by unfold lB;rw[b];rfl);clear b;go_enter func143,ntmps143;(go_wp2_with fail);refine yA λp g i u r=>?_;refine DT λj a=>?_;exact ET};have t:=hJ b;rcases f:aa.iX op with _|_;{obtain⟨q,l⟩:=aq f (show lB d e op v=false by unfold lB;rw[b,f];rfl);clear b f;go_enter func143,ntmps143;(go_wp2_with fail);refine yA λp g i u r=>?_;refine DT λj a=>?_;have y:=bC a (g.cell 2);(go_wp2_with fail);refine mE (Mq op _ q _) ?_;exact ET};have q:=hJ f;obtain⟨z,m⟩:=xR (sq v);obtain⟨A,l⟩:=aq m (show lB d e op v=z by unfold lB;rw[b,f,m];rfl);clear b f m;go_enter func143,ntmps143;(go_wp2_with fail);refine yA λp g i u r=>?_;refine DT λj a=>?_;have y:=bC a (g.cell 2);have B:=bC a (g.cell 3);(go_wp2_with fail);refine mE (Mq op _ q _) ?_;(go_wp2_with fail);refine mE (YT v _ A _) ?_;exact ET
def Xe (a:au) (e:ah ak) (n c:Nat) (d:List aa.Mt) (op v:Int) (b:Bool) (g:lB a d op v=b) (w:Wd) (f:cQ w w e n c d):
 Calls prog 143 #[agg #[a,slice e n c,op,v]] w (bO w b):=by subst g;exact Vw a e n c d op v w f
def XL (r:Ru) (w:Wd) (I:ev w w r):
 Calls prog 98 #[agg (ic r)] w (bO w (gz r)):=by have x:=hJ I;clear I;obtain⟨M,E⟩:=xR (aa.name r.nm);obtain⟨H,C⟩:=xR (lB r.sn r.ms r.op r.v);obtain⟨R,z⟩:=xR (iL r.fo);obtain⟨L,F⟩:=xR (iL r.ke);obtain⟨J,B⟩:=xR (aa.ar r.ls);obtain⟨K,D⟩:=xR (aa.free r.ls);obtain⟨o,O,S,y,A,N,V⟩:=jx (show gz r=(M&&H&&R&&L&&J&&K)by unfold gz;rw[E,C,z,F,B,D]) E C z F B D;clear E C z F B D;obtain _|_:=M;{go_enter func98,ntmps98;(go_wp2_with fail);refine yB λj b a m=>?_;refine mE (fB _ _ O _) ?_;exact yQ};skip;obtain _|_:=H;{go_enter func98,ntmps98;(go_wp2_with fail);refine vA λj b a m n g f i e=>?_;(go_wp2_with fail);refine vO λl c d=>?_;clear g f i e;exact Eo};skip;obtain _|_:=R;{go_enter func98,ntmps98;(go_wp2_with fail);refine vA λj b a m n g f i e=>?_;(go_wp2_with fail);refine vO λl c d=>?_;clear g f i e;have q:=bC c (b.cell 5);(go_wp2_with fail);refine mE (oa _ _ y _) ?_;exact Eo};skip;obtain _|_:=L;{go_enter func98,ntmps98;(go_wp2_with fail);refine vA λj b a m n g f i e=>?_;(go_wp2_with fail);refine vO λl c d=>?_;clear g f i e;have q:=bC c (b.cell 5);have u:=bC c (b.cell 6);(go_wp2_with fail);refine mE (oa _ _ y _) ?_;(go_wp2_with fail);refine mE (oa _ _ A _) ?_;exact Eo};skip;obtain _|_:=J;{go_enter func98,ntmps98;(go_wp2_with fail);refine vA λj b a m n g f i e=>?_;(go_wp2_with fail);refine vO λl c d=>?_;clear g f i e;have q:=bC c (b.cell 5);have u:=bC c (b.cell 6);have t:=bC c (b.cell 7);(go_wp2_with fail);refine mE (oa _ _ y _) ?_;(go_wp2_with fail);refine mE (oa _ _ A _) ?_;(go_wp2_with fail);refine mB (FW r.LA r.Ln r.Lc r.ls _ N l ((x.2.1.below d).more d.size)) λG v=>?_;have s:=bU d v;clear q u t;go_wp2;go_ret;exact⟨by rw[o.o];rfl,s⟩};skip;go_enter func98,ntmps98;(go_wp2_with fail);refine vA λj b a m n g f i e=>?_;(go_wp2_with fail);refine vO λl c d=>?_;clear g f i e;have q:=bC c (b.cell 5);have u:=bC c (b.cell 6);have t:=bC c (b.cell 7);(go_wp2_with fail);refine mE (oa _ _ y _) ?_;(go_wp2_with fail);refine mE (oa _ _ A _) ?_;(go_wp2_with fail);refine mB (FW r.LA r.Ln r.Lc r.ls _ N l ((x.2.1.below d).more d.size)) λG v=>?_;have s:=bU d v;have W:G.cell? (an w 7)=some (slice r.LA r.Ln r.Lc):=(v.cell (p:=an w 7) (dS m c.size)).trans t;clear q u t;(go_wp2_with fail);refine mB (CU r.LA r.Ln r.Lc r.ls _ V G ((x.2.1.below s).more s.size)) λX U=>?_;have T:=bU s U;obtain _|_:=K;all_goals(go_wp2;go_ret;exact⟨by rw[o.o];rfl,T⟩)
def Cd (r:Ru) (b:Bool) (a:gz r=b) (w:Wd) (c:ev w w r):
 Calls prog 98 #[agg (ic r)] w (bO w b):=by subst a;exact XL r w c
namespace aa
def vd (a:List au) (s:au) (i:Nat):Bool:=
 match a[i]? with
 |none=>true
 |some x=>!(x.toList==s.toList)
def named (a:List au) (s:au):Bool:=!cI (vd a s) a.length
def JU {H6:List au} {x:au} {k:Nat} (a:H6[k]?=some x):vd H6 s k=!(x.toList==s.toList):=by unfold vd;rw[a]
def jV (rs:List Ru) (i:Nat):Bool:=
 match rs[i]? with
 |none=>true
 |some r=>gz r&&!named ((rs.take i).map (·.nm)) r.nm
def uM {rs:List Ru} {r:Ru} {k:Nat} (a:rs[k]?=some r):jV rs k=(gz r&&!named ((rs.take k).map (·.nm)) r.nm):=by unfold jV;rw[a]
structure Gr where
 nm:au
 iv:Int
 off:Int
 RA:ah ak
 Rn:Nat
 Rc:Nat
 rs:List Ru
def lI (g:Gr):Bool:=name g.nm&&iL g.iv&&decide (g.iv≠0)&&decide (0<=g.off)&&decide (g.off<g.iv)&&decide (g.rs.length<=16)
def eS (g:Gr):Bool:=lI g&&cI (jV g.rs) g.rs.length
def nA (gs:List Gr) (i:Nat):Bool:=
 match gs[i]? with
 |none=>true
 |some g=>eS g&&!named ((gs.take i).map (·.nm)) g.nm
def qI {gs:List Gr} {g:Gr} {k:Nat} (a:gs[k]?=some g):nA gs k=(eS g&&!named ((gs.take k).map (·.nm)) g.nm):=by unfold nA;rw[a]
def dl (gs:List Gr):Bool:=decide (gs.length<=16)&&cI (nA gs) gs.length
end aa
def jK (g:Gr):List ai:=[g.nm,g.iv,g.off,slice g.RA g.Rn g.Rc]
abbrev oX (r:Gr):Array Value:= #[r.nm,r.iv,r.off,.slice r.RA r.Rn r.Rc]
def Wo (g):(jK g).length=4:=rfl
def dK (W:Wd) (B:Nat) (g:Gr):Prop:=aA kq 8 W B g.RA g.Rn g.Rc g.rs/\(∀r∈g.rs,ev W B r)/\g.nm.size<= ""
def dK.below {g:Gr} (a:dK W B g) (b:Below B W W'):dK W' B g:=⟨a.1.below b,λr c=>(a.2.1 r c).below b,a.2.2⟩
def dK.more {g:Gr} (a:dK W B g) (b:B<=n):dK W n g:=⟨a.1.more b,λr c=>(a.2.1 r c).more b,a.2.2⟩
def dK.later {g:Gr} (b:dK W W g) (a:az W W'):dK W' W' g:=(b.below a).more a.size
def cR (W:Wd) (B:Nat) (a:ah ak) (n c:Nat) (gs:List Gr):Prop:=aA jK 4 W B a n c gs/\ ∀g∈gs,dK W B g
def cR.below {gs:List Gr} (a:cR W B F0 n c gs) (b:Below B W W'):cR W' B F0 n c gs:=⟨a.1.below b,λr d=>(a.2 r d).below b⟩
def cR.more {k:Nat} {gs:List Gr} (a:cR W B F0 n c gs) (b:B<=k):cR W k F0 n c gs:=⟨a.1.more b,λr d=>(a.2 r d).more b⟩
def cR.later {gs:List Gr} (b:cR W W F0 n c gs) (a:az W W'):cR W' W' F0 n c gs:=(b.below a).more a.size
def Wz (A n c xs s w) (g:aA kq 8 w w A n c xs):
 Calls prog 99 #[slice A n c,string s] w λe w'=>e= .returned (bool (aa.named (xs.map (·.nm)) s))/\az w w':=by
 have o:=g.1;have x:=cK g.2.1 g.2.2.1;let⟨z,q⟩:=aq o g;go_enter func99,ntmps99;go_wp2;go_loopw[9] (λi wr=> ∃k:Nat,k<=n/\i=k/\cI (vd (xs.map (·.nm)) s) k/\az w wr) (λi _=>n- (intOf i).toNat);case atStart=>exact⟨0,dR _,rfl,rfl,aN⟩
 case round=>obtain⟨k,v,rfl,m,a⟩:=hrel;have j:=hJ m;by_cases u:k<n;{obtain⟨b,r,rfl,l,f⟩:=q.o.at_ oy;obtain⟨p,d⟩: ∃p,xs[k]?=some p:=⟨_,br iO⟩;have t:=(a.cell (p:=(b (r+k*8))) l).trans (f k p d 0 _ rfl);have c1:=bC a (f k p d 1 _ rfl);have c2:=bC a (f k p d 2 _ rfl);have c3:=bC a (f k p d 3 _ rfl);have c4:=bC a (f k p d 4 _ rfl);have c5:=bC a (f k p d 5 _ rfl);have c6:=bC a (f k p d 6 _ rfl);have y:=bC a (f k p d 7 _ rfl);exact Ot};exact Qs
def Ie (A n c xs s bb) (a:aa.named (xs.map (·.nm)) s=bb) (w) (b:aA kq 8 w w A n c xs):
 Calls prog 99 #[slice A n c,string s] w (bO w (bool bb)):=by subst a;exact Wz A n c xs s w b
def VJ (A n c xs s w) (f:aA jK 4 w w A n c xs):
 Calls prog 53 #[slice A n c,string s] w λe w'=>e= .returned (bool (aa.named (xs.map (·.nm)) s))/\az w w':=by
 have o:=f.1;have x:=cK f.2.1 f.2.2.1;let⟨z,q⟩:=aq o f;go_enter func53,ntmps53;go_wp2;go_loopw[9] (λi wr=> ∃k:Nat,k<=n/\i=k/\cI (vd (xs.map (·.nm)) s) k/\az w wr) (λi _=>n- (intOf i).toNat);case atStart=>exact⟨0,dR _,rfl,rfl,aN⟩
 case round=>obtain⟨k,v,rfl,m,a⟩:=hrel;have j:=hJ m;by_cases u:k<n;{obtain⟨b,r,rfl,l,g⟩:=q.o.at_ oy;obtain⟨p,d⟩: ∃p,xs[k]?=some p:=⟨_,br iO⟩;have t:=(a.cell (p:=(b (r+k*4))) l).trans (g k p d 0 _ rfl);have c1:=bC a (g k p d 1 _ rfl);have c2:=bC a (g k p d 2 _ rfl);have c3:=bC a (g k p d 3 _ rfl);exact Ot};exact Qs
def GD (A n c xs s bb) (a:aa.named (xs.map (·.nm)) s=bb) (w) (b:aA jK 4 w w A n c xs):
 Calls prog 53 #[slice A n c,string s] w (bO w (bool bb)):=by subst a;exact VJ A n c xs s w b
namespace aa
theorem ZA {g:Gr} {f h:Bool} (a:name g.nm=f) (c:iL g.iv=h) (b:g.rs.length=n):
 lI g=(f&&h&&decide (g.iv≠0)&&decide (0<=g.off)&&decide (g.off<g.iv)&&decide (n<=16)):=by grind[lI]
end aa
def YF (g:Gr) (w:Wd) (L:dK w w g):
 Calls prog 52 #[agg #[g.nm,g.iv,g.off,slice g.RA g.Rn g.Rc]] w λe w'=>e= .returned (eS g)/\Below w w w':=by obtain⟨nm,a,j,RA,n,c,rs⟩:=g;have R:=L.1.1;have I:=hJ L;obtain⟨c7,W⟩:=xR (aa.name nm);obtain⟨b0,U⟩:=xR (iL a);have l:=ZA (g:=⟨nm,a,j,RA,n,c,rs⟩) W U R;simp only at l;obtain⟨Y,a0,z⟩:=aM W U R;have m:lI ⟨nm,a,j,RA,n,c,rs⟩=false->Hid (eS ⟨nm,a,j,RA,n,c,rs⟩=false):=λb7=>hJ (by unfold eS;rw[b7];rfl);clear L W U R;obtain _|_:=c7;{have f:=m (by rw[l];rfl);clear l m;go_enter func52,ntmps52;(go_wp2_with fail);refine mE (fB _ _ Y.o _) ?_;go_wp2;go_ret;exact⟨by rw[f.o];rfl,ly⟩};obtain _|_:=b0;{have f:=m (by rw[l];rfl);clear l m;exact vL};(have c9:(a==0)\/((a==0)=false/\decide (j<0))\/((a==0)=false/\decide (j<0)=false/\decide (a<=j))\/ ((a==0)=false/\decide (j<0)=false/\decide (a<=j)=false/\decide ((16:Int)<n))\/((a==0)=false/\decide (j<0)=false/\decide (a<=j)=false/\decide ((16:Int)<n)=false):=by cases(a==0)<;>cases decide (j<0)<;>cases decide (a<=j)<;>cases decide ((16:Int)<n)<;>simp);obtain A|⟨A,D⟩|⟨A,D,F⟩|⟨A,D,F,H⟩|⟨A,D,F,H⟩:=c9;{have f:=m (by rw[l,decide_eq_false (by rw[beq_iff_eq]at A;simpa using A: ¬a≠0)];rfl);clear l m;exact vL};{have f:=m (by rw[l,decide_eq_false (by have:=of_decide_eq_true D;omega: ¬0<=j),Bool.and_false];rfl);clear l m;exact vL};{have f:=m (by rw[l,decide_eq_false (by have:=of_decide_eq_true F;omega: ¬j<a),Bool.and_false];rfl);clear l m;exact vL};{have f:=m (by rw[l,decide_eq_false (by have:=of_decide_eq_true H;omega: ¬n<=16),Bool.and_false]);clear l m;exact vL};(have f:=hJ (show eS ⟨nm,a,j,RA,n,c,rs⟩=cI (jV rs) rs.length by unfold eS;rw[l,decide_eq_true (by rw[beq_eq_false_iff_ne]at A;exact A:a≠0),decide_eq_true (by have:=of_decide_eq_false D;omega:0<=j),decide_eq_true (by have:=of_decide_eq_false F;omega:j<a),decide_eq_true (by have:=of_decide_eq_false H;omega:n<=16)];rfl));have d2:n<=16:=aR (of_decide_eq_false H);clear l m;go_enter func52,ntmps52;(go_wp2_with fail);refine yA λB G a7 a' d5=>?_;have b6:=G.o.cell 1;have b1:B.cell? (an w 2)=(j:ai):=G.o.cell 2;have b':B.cell? (an w 3)=some (slice RA n c):=G.o.cell 3;refine mE (fB _ _ Y.o _) ?_;(go_wp2_with fail);refine mE (oa _ _ a0.o _) ?_;go_wp2;clear b6 b1 b';go_loopw[39] (λi wr=> ∃k:Nat,k<=n/\i=int .i64 (k:Nat)/\cI (jV rs) k=true/\Below B B wr) (λi _=>n- (intOf i).toNat);(case atStart=>exact⟨0,Nat.zero_le _,rfl,rfl,aN⟩);case round=>obtain⟨k,c',rfl,a9,E⟩:=hrel;have t:=hJ a9;clear a9;have d:=a7.trans (E.mono a7.size);by_cases u:k<n;{refine oD λC=>?_;obtain⟨b,o,rfl,y,x⟩:=I.o.1.at_ (show 0<n by omega);obtain⟨r,v⟩: ∃r,rs[k]?=some r:=⟨_,getElem?_eq_getElem (by rw[z.o];exact u)⟩;have b5:=(d.cell (p:=b (o+k*8)) y).trans (x k r v 0 _ rfl);have c1:=(d.cell (p:=b (o+k*8+1)) y).trans (x k r v 1 _ rfl);have c2:=(d.cell (p:=b (o+k*8+2)) y).trans (x k r v 2 _ rfl);have c3:=(d.cell (p:=b (o+k*8+3)) y).trans (x k r v 3 _ rfl);have c4:=(d.cell (p:=b (o+k*8+4)) y).trans (x k r v 4 _ rfl);have c5:=(d.cell (p:=b (o+k*8+5)) y).trans (x k r v 5 _ rfl);have c6:=(d.cell (p:=b (o+k*8+6)) y).trans (x k r v 6 _ rfl);have b2:=(d.cell (p:=b (o+k*8+7)) y).trans (x k r v 7 _ rfl);have a6:wr.cell? (an w 3)=some (slice (some (b o)) n c):=(E.cell (p:=an w 3) a').trans (G.o.cell 3);have Z:w<wr.heap.size:=Nat.lt_of_lt_of_le a' E.size;have O:=uM v;obtain⟨c0,b3⟩:=aq (I.o.2.1 r (mem_of_getElem? v)) (I.o.1.take (k:=k) (by simp only;omega));have b8:=d.size;clear x v;obtain⟨a3,M⟩: ∃b,gz r=b:=⟨_,rfl⟩;obtain⟨a8,N⟩: ∃b,aa.named ((rs.take k).map (·.nm)) r.nm=b:=⟨_,rfl⟩;rw[M,N]at O;obtain⟨d1,b4,a5⟩:=aM M N O;clear M N O;go_wp2;have V:=hJ (af.new wr 92 #[r.nm,r.sn,slice r.MA r.Mn r.Mc,r.op,r.v,r.fo,r.ke,slice r.LA r.Ln r.Lc]);have q:Below w w (wr.alloc (.cells #[r.nm,r.sn,slice r.MA r.Mn r.Mc,r.op,r.v,r.fo,r.ke,slice r.LA r.Ln r.Lc] 92)):=d.alloc b8 _;have Q:Below B B (wr.alloc (.cells #[r.nm,r.sn,slice r.MA r.Mn r.Mc,r.op,r.v,r.fo,r.ke,slice r.LA r.Ln r.Lc] 92)):=E.alloc E.size _;have a2:wr<(wr.alloc (.cells #[r.nm,r.sn,slice r.MA r.Mn r.Mc,r.op,r.v,r.fo,r.ke,slice r.LA r.Ln r.Lc] 92)).heap.size:=iy;have S:(wr.alloc (.cells #[r.nm,r.sn,slice r.MA r.Mn r.Mc,r.op,r.v,r.fo,r.ke,slice r.LA r.Ln r.Lc] 92)).cell? (an w 3)=some (slice (some (b o)) n c):=(World.cell?_alloc_lt wr _ _ Z).trans a6;generalize wr.alloc (.cells #[r.nm,r.sn,slice r.MA r.Mn r.Mc,r.op,r.v,r.fo,r.ke,slice r.LA r.Ln r.Lc] 92)=d0 at V q Q a2 S⊢;have c8:=hJ S;have d6:w<d0.heap.size:=Nat.lt_trans Z a2;have d4:k<=c:=Nat.le_trans c' I.o.1.2.1;clear b5 c1 c2 c3 c4 c5 c6 b2 a6 S;refine cO λhH=>?_;refine tf 0 (λ_ s=>cW8 (bB s V.out)) ?_;refine aV 1 λK X=>?_;go_simp;refine mB (Cd r a3 d1.o _ ((c0.o.below (q.trans (hH.mono q.size))).more (q.trans (hH.mono q.size)).size)) λd7 a1=>?_;show K _ _;refine be X (hH.trans (a1.mono hH.size)) λhH=>?_;clear a1;obtain _|_:=a3;{refine Qb λJ=>?_;refine ts [2,3] ?_;refine DS ?_;refine cw 10 ?_;refine te [11] ?_;exact QS};skip;refine tg [2,3,4,5,6,7,8,9] (λ_ s=>gG (bC s c8.o) (bC s (bD V.out))) ?_;refine aV 10 λK X=>?_;go_simp;refine mB (Ie (some (b o)) k c (rs.take k) r.nm a8 b4.o _ ((b3.o.below (q.trans (hH.mono q.size))).more (q.trans (hH.mono q.size)).size)) λd3 a4=>?_;show K _ _;refine be X (hH.trans (a4.mono hH.size)) λhH=>?_;clear a4;refine te [11] ?_;obtain _|_:=a8;{have b9:=hJ (ig t.o (show jV rs k=true by rw[a5.o];rfl));go_wp2;go_roundw;(case rel=>exact⟨k+1,oy,bh,b9.o,Q.trans (hH.mono Q.size)⟩);case measure=>simp[intOf];omega};refine Qb λJ=>?_;exact QS};obtain rfl:k=n:=oy;have C:=decide_eq_false oy;exact vK
def acn (g:Gr) (a:Bool) (b:eS g=a) (w:Wd) (c:dK w w g):
 Calls prog 52 #[agg #[g.nm,g.iv,g.off,slice g.RA g.Rn g.Rc]] w λe w'=>e= .returned a/\Below w w w':=by subst b;exact YF g w c
def XZ (A n c gs w) (x:cR w w A n c gs):
 Calls prog 33 #[slice A n c] w (bO w (bool (dl gs))):=by have o:=x.1.1;have l:=hJ x;by_cases a0:16<n;{have C:decide ((16:Int)<n):=bG oy;have f:=hJ (show dl gs=false by unfold dl;rw[o,bj (by omega: ¬n<=16)];rfl);go_enter func33,ntmps33;go_wp2;go_ret;exact⟨by rw[f.o];rfl,aN⟩};refine sS λC=>?_;have f:=hJ (show dl gs=cI (nA gs) gs.length by unfold dl;rw[o,bG (oy:n<=16)];rfl);have W:n<=16:=oy;have z:=hJ o;go_enter func33,ntmps33;go_wp2;go_loopw[10] (λi wr=> ∃k:Nat,k<=n/\i=k/\cI (nA gs) k/\az w wr) (λi _=>n- (intOf i).toNat);(case atStart=>exact⟨0,dR _,rfl,rfl,aN⟩);case round=>obtain⟨k,U,rfl,S,d⟩:=hrel;have t:=hJ S;by_cases u:k<n;{obtain⟨b,F,rfl,I,m⟩:=l.o.1.at_ (show 0<n by omega);obtain⟨r,j⟩: ∃r,gs[k]?=some r:=⟨_,br iO⟩;have Z:=(d.cell (p:=(b (F+k*4))) I).trans (m k r j 0 _ rfl);have c1:=bC d (m k r j 1 _ rfl);have c2:=bC d (m k r j 2 _ rfl);have c3:=bC d (m k r j 3 _ rfl);have D:=qI j;let⟨R,L⟩:=aq (l.o.2 r (cz j)) (l.o.1.take (k:=k) oy);have N:=d.size;have Y:=cK U l.o.1.2.1;let⟨E,y⟩:=xR (eS r);let⟨G,B⟩:=xR (aa.named ((gs.take k).map (·.nm)) r.nm);rw[y,B]at D;let⟨V,J,v⟩:=aM y B D;go_wp2;have q:=hJ (af.new wr 85 (oX r));have e:az w (wr.alloc (.cells (oX r) 85)):=d.alloc N _;have M:wr<(wr.alloc (.cells (oX r) 85)).heap.size:=iy;generalize World.alloc _ _=a2 at q e M⊢;refine cO λhH=>?_;refine tf 0 (λ_ s=>Fw (bB s q.out)) ?_;refine aV 1 λK a=>?_;go_simp;refine mB (acn r E V.o _ ((R.o.below (bU e hH)).more (bU e hH).size)) λa1 g=>?_;refine yP λhH=>?_;cases E;{have H:=hJ (show dl gs=false by rw[f.o];exact kM iO (by rw[v.o];rfl));refine ts [2,3] ?_;refine DS ?_;refine te [10] ?_;exact OW};skip;refine tg [2,3,4,5,6,7,8] (λ_ s=>bC s (bD q.out)) ?_;refine aV 9 λK a=>?_;go_simp;refine mB (GD (some (b F)) k c (gs.take k) r.nm G J.o _ ((L.o.below (bU e hH)).more (bU e hH).size)) λX Q=>?_;show K _ _;refine be a (bU hH Q) λhH=>?_;refine te [10] ?_;cases G;{have O:=hJ (ig t.o (show nA gs k=true by rw[v.o];rfl));go_wp2;go_roundw;(case rel=>exact⟨k+1,oy,bh,O.o,bU e hH⟩);case measure=>exact cn};have H:=hJ (show dl gs=false by rw[f.o];exact kM iO (by rw[v.o];rfl));exact OW};obtain rfl:k=n:=oy;exact vK
def BZ (A n c gs bb) (a:dl gs=bb) (w) (b:cR w w A n c gs):
 Calls prog 33 #[slice A n c] w (bO w (bool bb)):=by subst a;exact XZ A n c gs w b
namespace aj
abbrev Tk:=Int×Int×au
abbrev Mt:=aa.Mt
def cX (ts:List Tk) (i:Nat) (k:Int):Bool:=
 match ts[i]? with
 |none=>false
 |some t=>t.1==k
def cY (ts:List Tk) (i:Nat) (s:au):Bool:=
 match ts[i]? with
 |none=>false
 |some t=>t.1==4&&decide (t.2.2=s)
def dz (ts:List Tk) (i:Nat):au:=
 match ts[i]? with
 |none=>⟨#[]⟩
 |some t=>t.2.2
def fg (ts:List Tk) (i:Nat):Int:=if ts.length<=i then 3 else 1
def gZ (ts:List Tk) (i:Nat):Int:=
 match ts[i]? with
 |none=>3
 |some t=>if t.1=1 then(if aa.name t.2.2=true then 0 else 7)else 1
def kK:au:=⟨#[61]⟩
def ql:au:=⟨#[33,61]⟩
def iZ:au:=⟨#[123]⟩
def eY:au:=⟨#[125]⟩
def jD:au:=⟨#[44]⟩
def none_:Mt:=(⟨#[]⟩,⟨#[]⟩,false)
def lY (ts:List Tk) (i n:Nat):Int:=
 match ts[i]? with
 |none=>3
 |some t=>if t.1=3 then(if 64<t.2.2.size\/8<=n then 4 else 0)else 1
def mG (ts:List Tk) (i n:Nat):Mt×Nat×Int:=
 if gZ ts i≠0 then(none_,i,gZ ts i)
 else if cY ts (i+1) ql=false/\cY ts (i+1) kK=false then(none_,i+1,fg ts (i+1))
 else if lY ts (i+2) n≠0 then(none_,i+2,lY ts (i+2) n)
 else((dz ts i,dz ts (i+2),cY ts (i+1) ql),i+3,0)
def oe (ts:List Tk):Nat->Nat->List Mt->List Mt×Nat×Int
 |0,i,_=>([],i,3)
 |f+1,i,a=>
  match mG ts i a.length with
  |(m,j,e)=>
   if e≠0 then([],j,e)
   else if cY ts j eY=true then(a++[m],j+1,0)
   else if cY ts j jD=true then oe ts f (j+1) (a++[m])
   else([],j,fg ts j)
def lN (ts:List Tk) (i:Nat):au×List Mt×Nat×Int:=
 if gZ ts i≠0 then(⟨#[]⟩,[],i,gZ ts i)
 else if cY ts (i+1) iZ=false then(dz ts i,[],i+1,0)
 else if cY ts (i+2) eY=true then(dz ts i,[],i+3,0)
 else match oe ts 10 (i+2) []with
  |(a,j,e)=>if e≠0 then(⟨#[]⟩,[],j,e)else(dz ts i,a,j,0)
def parse (ts:List Tk) (i:Int):au×List Mt×Nat×Int:=
 if i<0 then(⟨#[]⟩,[],0,3)else lN ts (min i.toNat ts.length)
theorem vp (a:H3.toList=s.toList):H3=s:=by rw[ByteArray.toList_eq,ByteArray.toList_eq]at a;cases H3;cases s;simp_all
def ym (a: ¬H3=s):(H3.toList==s.toList)=false:=by rw[re];exact λe=>a (vp e)
def tW {ts:List Tk} (a:ts[i]?=none):gZ ts i=3:=by unfold gZ;rw[a]
def uc {ts:List Tk} {t:Tk} (a:ts[i]?=some t):gZ ts i=if t.1=1 then(if aa.name t.2.2=true then 0 else 7)else 1:=by unfold gZ;rw[a]
def xC {ts:List Tk} {k:Int} (a:ts[i]?=none):cX ts i k=false:=by unfold cX;rw[a]
def kO {ts:List Tk} {k:Int} {t:Tk} (a:ts[i]?=some t):cX ts i k=(t.1==k):=by unfold cX;rw[a]
def xx {ts:List Tk} (a:ts[i]?=none):cY ts i s=false:=by unfold cY;rw[a]
def xq {ts:List Tk} {t:Tk} (a:ts[i]?=some t):cY ts i s=(t.1==4&&decide (t.2.2=s)):=by unfold cY;rw[a]
def ji {ts:List Tk} {t:Tk} (a:ts[i]?=some t):dz ts i=t.2.2:=by unfold dz;rw[a]
def uh {ts:List Tk} (a:ts[i]?=none):lY ts i n=3:=by unfold lY;rw[a]
def ue {ts:List Tk} {t:Tk} (a:ts[i]?=some t):lY ts i n=if t.1=3 then(if 64<t.2.2.size\/8<=n then 4 else 0)else 1:=by unfold lY;rw[a]
theorem kW {ts:List Tk} (b:cY ts i s):i<ts.length:=by rcases a:ts[i]? with _|t;{rw[xx a]at b;cases b};exact(bZ.1 a).1
def jm {ts:List Tk} {k:Int} (b:cX ts i k):i<ts.length:=by rcases a:ts[i]? with _|t;{rw[xC a]at b;cases b};exact(bZ.1 a).1
def KO {ts:List Tk} (b:gZ ts i=0):i<ts.length:=by rcases a:ts[i]? with _|t;{rw[tW a]at b;cases b};exact(bZ.1 a).1
def agq {ts:List Tk} (b:lY ts i n=0):i<ts.length:=by rcases a:ts[i]? with _|t;{rw[uh a]at b;cases b};exact(bZ.1 a).1
theorem ni (ts i):fg ts i≠0:=by grind[fg]
def aaL {ts:List Tk} (c:cX ts i 3=false):lY ts i n=fg ts i:=by rcases a:ts[i]? with _|t;{have b:=List.getElem?_eq_none_iff.1 a;rw[uh a];unfold fg;rw[aK b]};have b:=(bZ.1 a).1;rw[kO a]at c;rw[ue a,aG (by simpa using c)];unfold fg;rw[aG oy]
def Md {ts:List Tk} {t:Tk} (b:cX ts i 3) (a:ts[i]?=some t):lY ts i n=if 64<t.2.2.size\/8<=n then 4 else 0:=by rw[kO a]at b;rw[ue a,aK (by simpa using b)]
end aj
namespace aa
def aD (xs:List Pr):List Pr:=if ar xs=true then xs else[]
def XB (xs nm):get xs nm=find (aD xs) nm:=by unfold get aD;split<;>rfl
def pL (l:List Pr) (n:au) (i:Nat):Bool:=
 match l[i]? with
 |none=>true
 |some p=>!(p.1.toList==n.toList)
def CF {l:List Pr} {n:au} {p:Pr} (a:l[i]?=some p):pL l n i=!(p.1.toList==n.toList):=by unfold pL;rw[a]
def YL (a l n i):pL (a::l) n (i+1)=pL l n i:=by rfl
theorem sj {l:List Pr} {n:au} {k:Nat} {p:Pr} (c:cI (pL l n) k) (b:l[k]?=some p) (f:(p.1.toList==n.toList)):find l n=some p.2:=by induction l generalizing k with|nil=>simp at b|cons a l ih=>(cases k with|zero=>grind[find]|succ k=>(rw[getElem?_cons_succ]at b;have d:=fa.1 c 0 oy;rw[CF (p:=a) rfl,Bool.not_eq_true']at d;have:=ih (k:=k) (fa.2 λi e=>by rw[<-YL a];exact fa.1 c (i+1) oy) b;grind[find]))
def acs {l:List Pr} {n:au} (c:cI (pL l n) l.length):find l n=none:=by unfold find;rw[Option.map_eq_none_iff,find?_eq_none];intro p b;let⟨i,a⟩:=mem_iff_getElem?.1 b;have:=fa.1 c i (bZ.1 a).1;rw[CF a,Bool.not_eq_true']at this;rw[this];simp
end aa
def nE (x:ah au):ai:=tuple #[(x.getD ⟨#[]⟩),x.isSome]
def aae {x:ah au} {v:au} (a:x=some v):Ending.returned (tuple #[v,true])= .returned (nE x):=by subst a;rfl
def ZI {x:ah au} (a:x=none):Ending.returned (tuple #["s",false])= .returned (nE x):=by subst a;rfl
theorem Hc {xs:List Pr} (a:aH W W F0 n c xs) (b:aa.ar xs):aH W W F0 n c (aa.aD xs):=by grind[aa.aD]
def nZ (A n c xs w) (i:aH w w A n c xs):
 Calls prog 103 #[slice A n c] w λe w'=> ∃A' n' c',e= .returned (slice A' n' c')/\aH w' w' A' n' c' (aa.aD xs)/\az w w':=by have g:=hJ i;cases f:aa.ar xs;{let⟨j,b⟩:=aq (show aa.aD xs=[]by unfold aa.aD;rw[f];rfl) f;go_enter func103,ntmps103;(go_wp2_with fail);have a:=nY A n c xs w g;rw[b.o]at a;refine mB a λh d=>?_;go_wp2;go_ret;refine⟨none,0,0,rfl,?_,d⟩;rw[j.o];exact⟨aA.none_ _ _,λp k=>absurd k iy⟩};have b:=hJ f;go_enter func103,ntmps103;(go_wp2_with fail);have a:=nY A n c xs w g;rw[b.o]at a;refine mB a λh d=>?_;go_wp2;go_ret;exact⟨A,n,c,rfl,Hc (g.later d) b,d⟩
def pH (A0 n0 c0 xs nm x) (E:aa.get xs nm=x) (w) (s:aH w w A0 n0 c0 xs):
 Calls prog 65 #[slice A0 n0 c0,nm] w (bO w (nE x)):=by
 let⟨D,f⟩:=aq s (E.symm.trans (XB xs nm));go_enter func65,ntmps65;go_wp2_with fail
 refine(nZ A0 n0 c0 xs w D).mono ?_;rintro e F ⟨J,n,c,rfl,a,y⟩;let⟨ys,v⟩:=xR (aa.aD xs);rw[v]at a f;have B:=a.len;have N:=cK a.1.2.1 a.1.2.2.1;let⟨z,C,A⟩:=aM B a y;go_wp2;go_loopw[11] (λi wr=> ∃k:Nat,k<=n/\i=int .i64 (k:Nat)/\cI (pL ys nm) k=true/\az F wr) (λi _=>n- (intOf i).toNat);case atStart=>exact⟨0,dR _,rfl,rfl,aN⟩
 case round=>obtain⟨k,Q,rfl,G,d⟩:=hrel;have g:=hJ G;have r:=bU A d;by_cases u:k<n;{obtain⟨b,M,rfl,H,o⟩:=C.at_ u;obtain⟨p,l⟩: ∃p,ys[k]?=some p:=⟨_,br iO⟩;have O:=bC d (o k p l).1;have L:=bC d (o k p l).2;have K:=d.size;have I:=r.size;have q:=hJ l;cases m:(p.1.toList==nm.toList);{have t:=hJ (ig g (show pL ys nm k=true by rw[CF q.o,m];rfl));go_wp2;go_roundw;(case rel=>exact⟨k+1,oy,bh,t,ly⟩);case measure=>exact cn};have j:=hJ (f.trans (aa.sj g q m));go_wp2;go_ret2;exact⟨aae j,ly⟩};obtain rfl:k=n:=oy;have j:=hJ (f.trans (acs (by rw[z.o];exact g)));go_wp2;go_ret2;exact⟨ZI j,r⟩
namespace aj
def gd:au:=⟨#[95,95,110,97,109,101,95,95]⟩
def okV (v:au) (m:Mt):Bool:=!((v.toList==m.2.1.toList)==m.2.2)
def sL (l:List Pr) (a:List Mt) (k:Nat):Bool:=
 match a[k]? with
 |none=>true
 |some m=>okV ((aa.get l m.1).getD ⟨#[]⟩) m
def xZ (nm:au) (l:List Pr):Bool:=
 match aa.get l gd with
 |none=>false
 |some v=>v.toList==nm.toList
def fits (nm:au) (a:List Mt) (l:List Pr):Bool:=eR nm a&&aa.ar l&&xZ nm l&&cI (sL l a) a.length
def aej {l:List Pr} {G2:List Mt} {k:Nat} {m:Mt} (a:G2[k]?=some m):sL l G2 k=okV ((aa.get l m.1).getD ⟨#[]⟩) m:=by unfold sL;rw[a]
end aj
def acx (nm) (d2:nm.size<=9223372036854775807) (A n c ms B n2 c2 l w) (a4:cQ w w A n c ms) (I:aH w w B n2 c2 l):
 Calls prog 241 #[agg #[string nm,slice A n c],slice B n2 c2] w (bO w (bool (aj.fits nm ms l))):=by let⟨a3,a2⟩:=aq a4 I;have d1:=cK a4.1.2.1 a4.1.2.2.1;have z:=hJ a4.len;cases M:eR nm ms;{let⟨U,D⟩:=aq M (show aj.fits nm ms l=false by unfold aj.fits;rw[M];rfl);go_enter func241,ntmps241;(go_wp2_with fail);refine oM λF p a J j d f=>?_;let⟨r,C⟩:=aq ((a3.below a).more j) ((a2.below a).more j);(go_wp2_with fail);refine pV λg E e G=>?_;let⟨s,L⟩:=aq (C.later e) (r.later e);exact Ea};cases X:aa.ar l;{let⟨U,a',D⟩:=aM M X (show aj.fits nm ms l=false by unfold aj.fits;rw[M,X];rfl);go_enter func241,ntmps241;(go_wp2_with fail);refine oM λF p a J j d f=>?_;let⟨r,C⟩:=aq ((a3.below a).more j) ((a2.below a).more j);(go_wp2_with fail);refine pV λg E e G=>?_;refine zY λd f W=>?_;let⟨s,L⟩:=aq (C.later e) (r.later e);(go_wp2_with fail);have g:=nY B n2 c2 l E s;rw[a'.o]at g;refine mB g λS o=>?_;have K:=hJ (bU G o);let⟨t,V⟩:=aq (s.later o) (L.later o);go_wp2;go_ret;exact⟨by rw[D.o];rfl,K⟩};let⟨U,a'⟩:=aq M X;rcases g:aa.get l gd with _|v;{let⟨a5,D⟩:=aq g (show aj.fits nm ms l=false by unfold aj.fits xZ;rw[M,X,g];rfl);go_enter func241,ntmps241;(go_wp2_with fail);refine oM λF p a J j d f=>?_;let⟨r,C⟩:=aq ((a3.below a).more j) ((a2.below a).more j);(go_wp2_with fail);refine pV λg E e G=>?_;refine zY λd f W=>?_;let⟨s,L⟩:=aq (C.later e) (r.later e);(go_wp2_with fail);refine EZ λg S o K d f a6=>?_;let⟨t,V⟩:=aq (s.later o) (L.later o);(go_wp2_with fail);refine mB (pH B n2 c2 l gd none a5 S t) λb0 q=>?_;have Z:=hJ (bU K q);let⟨a8,a7⟩:=aq (t.later q) (V.later q);exact SZ};have a5:=hJ g;cases b4:(v.toList==nm.toList);{have D:=hJ (show aj.fits nm ms l=false by unfold aj.fits xZ;rw[M,X,g];simp only[b4];rfl);go_enter func241,ntmps241;(go_wp2_with fail);refine oM λF p a J j d f=>?_;let⟨r,C⟩:=aq ((a3.below a).more j) ((a2.below a).more j);(go_wp2_with fail);refine pV λg E e G=>?_;refine zY λd f W=>?_;let⟨s,L⟩:=aq (C.later e) (r.later e);(go_wp2_with fail);refine EZ λg S o K d f a6=>?_;let⟨t,V⟩:=aq (s.later o) (L.later o);(go_wp2_with fail);refine mB (pH B n2 c2 l gd (some v) a5 S t) λb0 q=>?_;have Z:=hJ (bU K q);have d:=bC q d;let⟨a8,a7⟩:=aq (t.later q) (V.later q);exact SZ};have D:=hJ (show aj.fits nm ms l=cI (sL l ms) ms.length by unfold aj.fits xZ;rw[M,X,g];simp only[b4];rfl);go_enter func241,ntmps241;(go_wp2_with fail);refine oM λF p a J j d f=>?_;let⟨r,C⟩:=aq ((a3.below a).more j) ((a2.below a).more j);(go_wp2_with fail);refine pV λg E e G=>?_;refine zY λd f W=>?_;let⟨s,L⟩:=aq (C.later e) (r.later e);(go_wp2_with fail);refine EZ λg S o K d f a6=>?_;let⟨t,V⟩:=aq (s.later o) (L.later o);(go_wp2_with fail);refine mB (pH B n2 c2 l gd (some v) a5 S t) λb0 q=>?_;have Z:=hJ (bU K q);have d:=bC q d;have f:=bC q f;let⟨a8,a7⟩:=aq (t.later q) (V.later q);simp only[nE,Option.getD,Option.isSome];go_wp2;go_loopw[35] (λi wr=> ∃k:Nat,k<=n/\i=k/\cI (sL l ms) k/\az b0 wr) (λi _=>n- (intOf i).toNat);(case atStart=>exact⟨0,dR _,rfl,rfl,aN⟩);case round=>obtain⟨k,d3,rfl,c7,H⟩:=hrel;have b6:=hJ c7;have c8:=bU Z H;have c4:=H.size;by_cases u:k<n;{obtain⟨b,d0,rfl,c',a1⟩:=a7.at_ u;refine SD λm I R O N=>?_;have b1:=aej (l:=l) I;let⟨x,g⟩:=xR (aa.get l m.1);let⟨y,hy⟩:=xR (x.getD ⟨#[]⟩);rw[g,hy]at b1;let⟨c9,c5,c3,b7⟩:=bJ g hy (a8.later H) b1;(go_wp2_with fail);have b2:=(Below.refl wr wr).alloc ny (.cells #[m.1,m.2.1,m.2.2] 287);have b5:=af.new wr 287 #[m.1,m.2.1,m.2.2];have d4:wr<(wr.alloc (.cells #[m.1,m.2.1,m.2.2] 287)).heap.size:=iy;refine mB (pH B n2 c2 l m.1 x c9 _ (c3.later b2)) λd5 a9=>?_;have c1:=bC a9 (b5.cell 1);have b9:=bC a9 (b5.cell 2);simp at c1 b9;have b3:=H.trans ((b2.mono c4).trans (a9.mono uy));have b8:=bU Z b3;simp only[nE,c5.o];cases Y:aj.okV y m;{(have c6:((y.toList==m.2.1.toList)==m.2.2):=by unfold aj.okV at Y;simpa using Y);have c0:=hJ (show aj.fits nm ms l=false by rw[D.o];exact kM iO (by rw[b7.o,Y]));go_wp2;go_ret;exact⟨by rw[c0.o];rfl,b8⟩};(have c6:((y.toList==m.2.1.toList)==m.2.2)=false:=by unfold aj.okV at Y;simpa using Y);have b':=hJ (ig b6 (show sL l ms k=true by rw[b7.o,Y]));go_wp2;go_roundw;(case rel=>exact⟨k+1,oy,bh,b',b3⟩);case measure=>exact cn};obtain rfl:k=n:=oy;go_wp2;go_ret;exact⟨by rw[D.o,z.o,b6.o];rfl,c8⟩
def ajb (w:Wd) (n K:Nat) (e:Ending) (w':Wd):Prop:= ∃b:Bool,e= .returned b/\(b->n<=K)/\az w w'
def Cnt (x:ai):Prop:= ∃i:Int,x=i
def acX (A n c xs w) (e:aH w w A n c xs):
 Calls prog 32 #[slice A n c] w (ajb w n 40):=by
 have i:=e.len;have t:=cK e.1.2.1 e.1.2.2.1;let⟨z,j⟩:=aq i e;go_enter func32,ntmps32;go_wp2;go_loopw[3,4] (λg f wr=> ∃k:Nat,k<=n/\f=k/\Cnt g/\az w wr) (λ_ f _=>n- (intOf f).toNat);case atStart=>exact⟨0,dR _,rfl,⟨_,rfl⟩,aN⟩
 case round=>obtain⟨k,q,rfl,⟨x,rfl⟩,d⟩:=hrel;by_cases u:k<n;{obtain⟨b,s,rfl,o,l⟩:=j.o.at_ u;refine zv λp a E D=>?_;go_wp2;go_quiet (fail);go_wp2;go_roundw;(case rel=>exact⟨k+1,oy,bh,⟨_,rfl⟩,ly⟩);case measure=>exact cn};obtain rfl:k=n:=oy;cases m:decide ((k:Int)<=40);{exact RG};cases r:decide (x<=3000);all_goals(exact RG)
section
namespace aa
def fD (a b:au):Int:=if Op.bytesLess a.toList b.toList=true then-1 else if(a.toList==b.toList)=true then 0 else 1
def eI (p q:Pr):Int:=if fD p.1 q.1≠0 then fD p.1 q.1 else fD p.2 q.2
def cmpL:List Pr->List Pr->Int
 |[],[]=>0
 |[],_::_=> -1
 |_::_,[]=>1
 |p::xs,q::ys=>if eI p q≠0 then eI p q else cmpL xs ys
end aa
def agr (t:ch) (a b:au):binOp .lss t a b=pure (Op.bytesLess a.toList b.toList):=by simp[binOp,Op.stringOp]
def afE (t:ch) (a b:au):binOp .gtr t a b=pure (!Op.bytesLess a.toList b.toList&&!(a.toList==b.toList)):=by simp[binOp,Op.stringOp]
attribute [local go_sem↓] agr afE
def aby (a:au) (w:Wd):Calls prog 145 #[a] w λe w'=>e= .returned false/\w=w':=by go_enter func145,ntmps145;go_wp2;go_ret;exact⟨rfl,rfl⟩
def uA (a b:au) (c:Int) (d:fD a b=c) (w:Wd):Calls prog 105 #[a,b] w λe w'=>e= .returned c/\w=w':=by subst d;unfold fD;rcases f:Op.bytesLess a.toList b.toList with _|_;{rcases g:(a.toList==b.toList)with _|_;{exact Er};exact Er};exact Er
def KR (g:Nat) (c d r:Int) (a:(if c≠0 then c else d)=r) (m:ch) (w:Wd) (b:af w g m #[c,d]):
 Calls prog 22 #[slice (some (g 0)) 2 2] w λe w'=>e= .returned r/\w=w':=by obtain⟨q,o⟩:=fR b;have p:=hJ b;clear b;by_cases f:c=0;{subst f;rw[if_neg (λl=>l rfl)]at a;subst a;by_cases n:d=0;{subst n;go_enter func22,ntmps22;go_wp2;go_loopw[8] (λi wr=> ∃k:Nat,k<=2/\i=k/\w=wr) (λi _=>2- (intOf i).toNat);(case atStart=>exact⟨0,oy,rfl,rfl⟩);case round=>obtain⟨k,j,rfl,rfl⟩:=hrel;obtain rfl|rfl|rfl:k=0\/k=1\/k=2:=oy;{exact RN};{go_wp2;go_roundw;(case rel=>exact⟨2,oy,rfl,by first|rfl|trivial⟩);case measure=>simp[intOf]};go_wp2;go_ret;exact⟨rfl,rfl⟩};go_enter func22,ntmps22;go_wp2;go_loopw[8] (λi wr=> ∃k:Nat,k<=1/\i=k/\w=wr) (λi _=>2- (intOf i).toNat);(case atStart=>exact⟨0,oy,rfl,rfl⟩);case round=>obtain⟨k,j,rfl,rfl⟩:=hrel;obtain rfl|rfl:k=0\/k=1:=oy;{exact RN};go_wp2;go_ret;exact⟨rfl,rfl⟩};rw[if_pos f]at a;subst a;go_enter func22,ntmps22;go_wp2;go_loopw[8] (λi wr=> ∃k:Nat,k<=0/\i=k/\w=wr) (λi _=>2- (intOf i).toNat);(case atStart=>exact⟨0,oy,rfl,rfl⟩);case round=>obtain⟨k,j,rfl,rfl⟩:=hrel;obtain rfl:k=0:=oy;go_wp2;go_ret;exact⟨rfl,rfl⟩
end
def nT {P:Program} {b:Region.Mode} {G9:Array Oper} {H0:Exit->Act->Wd->Prop} {S S':Wd->Prop} (f: ∀w,S' w->S w): ∀ (c:Nat) (e:Array Bool) (a:Act) (w:Wd),wpAnyH P b G9 H0 S' c e a w->wpAnyH P b G9 H0 S c e a w
 |0,_,_,_,d=>d
 |c+1,_,_,_,d=>⟨d.1,λi j=>wpOp_mono (λh w' g=>⟨f _ g.1,nT f c _ h w' g.2⟩) (d.2 i j)⟩
def Df (p q c) (t:eI p q=c) (w):
 Calls prog 104 #[agg #[p.1,p.2],agg #[q.1,q.2]] w (bO w c):=by
 let⟨l,n⟩:=p;let⟨m,j⟩:=q;let⟨c1,i⟩:=xR (fD l m);let⟨c2,f⟩:=xR (fD n j);let⟨D,B,x⟩:=aM (show(if c1≠0 then c1 else c2)=c by rw[<-t];unfold eI;rw[i,f]) i f;clear i f t;go_enter func104,ntmps104;go_wp2;refine gh λH G u C=>?_;let⟨d,e,y,E,F⟩:=mr G C;let⟨d,e⟩:=aq d e;clear G C;refine cO λhH=>?_;refine tg [0,1,2,3,5,6,7,8] (λ_ s=>gG (bE (bB s d).a) (bE (bB s e).a)) ?_;refine aV 4 λK o=>?_;go_simp;refine mE (uA l m c1 B _) ?_;refine eL λhH=>?_;refine aV 9 λK o=>?_;go_simp;refine mE (uA n j c2 x _) ?_;refine eL λhH=>?_;refine aV 10 λK o=>?_;go_simp;refine o.out _ _ (aN.alloc ny _).drew (λhH=>?_);clear o K;try simp only[Act.put,gS]
 refine zK λg=>?_;generalize A:World.drew _=b at g hH⊢;have a:=(af.new u _ _).q A;have a:=a;have z:=bU y hH;have r:=hJ a;refine nT (S':=λW'=>az b W') (λW v=>bU hH v) _ _ _ _ ?_;clear hH a;have hH:az b b:=aN;refine aV 11 λK o=>?_;refine ED ?_;refine eL λhH=>?_;refine te [12] ?_;go_wp2;go_ret;exact⟨rfl,bU z hH⟩
namespace aa
def Kc {xs ys:List Pr} {k:Nat} {p q:Pr} (c:xs[k]?=some p) (e:ys[k]?=some q):cmpL (xs.drop k) (ys.drop k)=if eI p q≠0 then eI p q else cmpL (xs.drop (k+1)) (ys.drop (k+1)):=by let⟨a,f⟩:=bZ.1 c;let⟨b,d⟩:=bZ.1 e;rw[jE a,jE b,f,d];rfl
def JH {xs ys:List Pr} {k:Nat} (a:k<xs.length) (b:ys.length<=k):cmpL (xs.drop k) (ys.drop k)=1:=by rw[jE a,drop_eq_nil_of_le b];rfl
def adl {xs ys:List Pr} {k:Nat} (b:xs.length=k) (c:k<=ys.length):cmpL (xs.drop k) (ys.drop k)=if k<ys.length then-1 else 0:=by rw[drop_eq_nil_of_le oy];by_cases a:k<ys.length;{rw[jE a,aK a];rfl};rw[drop_eq_nil_of_le oy,aG a];rfl
end aa
def CP (A n c xs B m d ys r) (W:aa.cmpL xs ys=r) (w) (e:aH w w A n c xs) (hy:aH w w B m d ys):
 Calls prog 102 #[slice A n c,slice B m d,.func (.func 104) #[] #[]] w (bO w r):=by
 have G:=e.len;have K:=hy.len;let⟨Q,U,u,o⟩:=bJ e hy G K;have a8:=cK e.1.2.1 e.1.2.2.1;clear e hy G K;go_enter func102,ntmps102;go_wp2;go_loopw[13] (λi wr=> ∃k:Nat,k<=n/\k<=m/\i=k/\aa.cmpL (xs.drop k) (ys.drop k)=r/\az w wr) (λi _=>n- (intOf i).toNat);case atStart=>exact⟨0,oy,oy,rfl,W,aN⟩
 case round=>obtain⟨k,a1,S,rfl,b,f⟩:=hrel;let⟨C,s⟩:=xS (k+1);(have E:k<n->IntKind.i64.wrap ((k:Int)+1)=((C:Nat):Int):=λY=>by rw[s,show(k:Int)+1=((k+1:Nat):Int)by omega];exact fA _ oy);have v:=hJ s;clear s;by_cases t:k<n;{have E:=E t;let⟨a9,a3,R,a0,j⟩:=Q.at_ t;obtain⟨p,g⟩: ∃p,xs[k]?=some p:=⟨_,br FF⟩;have a2:=bC f (j k p g).1;have Z:=bC f (j k p g).2;subst R;by_cases F:k<m;{have T:decide (m<=k)=false:=bj oy;let⟨z,L,X,a4,x⟩:=U.at_ F;obtain⟨q,l⟩: ∃q,ys[k]?=some q:=⟨_,br (by rw[o.o];exact F)⟩;have N:=bC f (x k q l).1;have J:=bC f (x k q l).2;subst X;rw[Kc g l]at b;clear j x g l;have a6: ∀a,(wr.alloc a).cell? (z (L+k*2))=(q.1:ai):=λa=>(World.cell?_alloc_some wr _ a (by rw[N];rfl)).trans N;have a7: ∀a,(wr.alloc a).cell? (z (L+k*2+1))=(q.2:ai):=λa=>(World.cell?_alloc_some wr _ a (by rw[J];rfl)).trans J;let⟨M,y⟩:=xR (eI p q);rw[y]at b;let⟨V,D⟩:=aq y b;clear y b;have a5:=f.size;(go_wp2_with fail);refine mB (Df p q M V _) λa' O=>?_;have H:=((f.alloc f.size _).alloc uy _).trans (O.mono uy);by_cases I:M=0;{have b:=D.o;rw[aG oy]at b;exact PW};exact RX};have T:decide (m<=k):=bG oy;rw[JH FF (by rw[o.o];omega)]at b;exact OE};exact OK
def oj (A n c xs B m d ys r) (f:aa.cmpL (aa.aD xs) (aa.aD ys)=r) (w) (g:aH w w A n c xs) (hy:aH w w B m d ys):
 Calls prog 56 #[slice A n c,slice B m d] w (bO w r):=by
 let⟨v,x,q⟩:=aM g hy f;clear g hy f;go_enter func56,ntmps56;go_wp2_with fail
 refine(nZ A n c xs w v).mono ?_;rintro e o ⟨p,u,c1,rfl,k,i⟩;go_wp2_with fail
 refine(nZ B m d ys o (x.later i)).mono ?_;rintro e l ⟨t,y,c2,rfl,s,j⟩;have b:=bU i j;go_wp2_with fail
 refine mB (CP p u c1 _ t y c2 _ r q l (k.later j) s) λz a=>?_;exact DM
namespace aa
structure Ord {α:Type} (c:α->α->Int):Prop where
 eq: ∀a b,c a b=0↔a=b
 jU: ∀a b,c b a= -c a b
 trans: ∀a b d,c a b<0->c b d<0->c a d<0
theorem Be: ∀x:List aU,Op.bytesLess x x=false
 |[]=>rfl
 |a::x=>by
  unfold Op.bytesLess;rw[Be x,Bool.and_false,Bool.or_false];exact decide_eq_false (UInt8.lt_irrefl a)
def BM {a b:aU} {x y:List aU}:Op.bytesLess (a::x) (b::y)=true↔a<b\/(a=b/\Op.bytesLess x y):=by rw[show Op.bytesLess (a::x) (b::y)=(decide (a<b)||(a==b&&Op.bytesLess x y))from rfl];simp
def KN (x:List aU):Op.bytesLess x []=false:=by cases x<;>rfl
theorem Bv: ∀x y z:List aU,Op.bytesLess x y->Op.bytesLess y z->Op.bytesLess x z
 |_,[],_,c,_=>by rw[KN]at c;cases c
 |_,_::_,[],_,c=>by rw[KN]at c;cases c
 |[],_::_,_::_,_,_=>rfl
 |a::x,b::y,d::z,c,k=>by
  rw[BM]at c k⊢;obtain c|⟨rfl,c⟩:=c;{obtain k|⟨rfl,k⟩:=k;{exact .inl (UInt8.lt_trans c k)};exact .inl c};obtain k|⟨rfl,k⟩:=k;{exact .inl k};exact .inr ⟨rfl,Bv x y z c k⟩
theorem IM: ∀x y:List aU,Op.bytesLess x y=false->x≠y->Op.bytesLess y x
 |[],[],_,c=>absurd rfl c
 |[],_::_,c,_=>by cases c
 |_::_,[],_,_=>rfl
 |a::x,b::y,c,f=>by
  have g: ¬(a<b\/(a=b/\Op.bytesLess x y)):=by rw[<-BM,c];decide
  rw[BM];by_cases d:a=b;{subst d;refine .inr ⟨rfl,IM x y ?_ (λe=>f (by rw[e]))⟩;grind};grind
theorem Yc {x y:List aU} (a:Op.bytesLess x y):Op.bytesLess y x=false:=by grind[Be,Bv]
theorem LV {x y:List aU} (a:Op.bytesLess x y):x≠y:=by rintro rfl;rw[Be]at a;cases a
theorem xM {a b:au}:fD a b<0↔Op.bytesLess a.toList b.toList=true:=by grind[fD]
theorem qJ (a b:au):fD a b=0↔a=b:=by unfold fD;split;{grind[LV]};split;{rename_i c;exact⟨λ_=>vp (by simpa using c),λ_=>rfl⟩};grind
theorem Ca (a b:au):fD b a= -fD a b:=by unfold fD;rcases c:Op.bytesLess a.toList b.toList with _|_;{rcases f:(a.toList==b.toList)with _|_;{(have d:a.toList≠b.toList:=by simpa using f);rw[IM _ _ c d,if_pos rfl];simp};grind};have d: ¬b.toList=a.toList:=λe=>LV c e.symm;rw[Yc c];simp[d]
def Cl:Ord fD:=⟨qJ,Ca,λa b d c k=>xM.2 (Bv _ _ _ (xM.1 c) (xM.1 k))⟩
theorem mF:Ord eI:=by refine⟨λp q=>?_,λp q=>?_,λp q r c k=>?_⟩;{unfold eI;obtain⟨a,b⟩:=p;obtain⟨d,e⟩:=q;simp only[Prod.mk.injEq];split;{rename_i c;exact⟨λe=>absurd e c,λe=>absurd ((qJ _ _).2 e.1) c⟩};simp_all[qJ,oy]};{unfold eI;rw[Ca p.1 q.1,Ca p.2 q.2];split<;>split<;>omega};unfold eI at c k⊢;by_cases f:fD p.1 q.1=0;{have h:=(qJ _ _).1 f;rw[if_neg oy]at c;rw[h];by_cases g:fD q.1 r.1=0;{rw[if_neg oy]at k⊢;exact Cl.trans _ _ _ c k};omega};rw[if_pos f]at c;by_cases g:fD q.1 r.1=0;{grind[qJ]};rw[if_pos g]at k;have:=Cl.trans _ _ _ c k;omega
def xd (p q:Pr) (xs ys:List Pr):cmpL (p::xs) (q::ys)=if eI p q≠0 then eI p q else cmpL xs ys:=rfl
def cmpL_eq: ∀xs ys:List Pr,cmpL xs ys=0↔xs=ys
 |[],[]=>⟨λ_=>rfl,λ_=>rfl⟩
 |[],_::_=>⟨λa=>absurd (show(-1:Int)=0 from a) dy,λa=>by cases a⟩
 |_::_,[]=>⟨λa=>absurd (show(1:Int)=0 from a) dy,λa=>by cases a⟩
 |p::xs,q::ys=>by
  rw[xd,List.cons.injEq];split;{rename_i a;exact⟨λe=>absurd e a,λe=>absurd ((mF.eq _ _).2 e.1) a⟩};rename_i a;have b:eI p q=0:=oy;rw[cmpL_eq xs ys];exact⟨λe=>⟨(mF.eq _ _).1 b,e⟩,λe=>e.2⟩
theorem qx: ∀xs ys:List Pr,cmpL ys xs= -cmpL xs ys
 |[],[]=>rfl
 |[],_::_=>rfl
 |_::_,[]=>rfl
 |p::xs,q::ys=>by
  rw[xd,xd,mF.jU p q,qx xs ys];split<;>split<;>omega
def IX: ∀xs ys d:List Pr,cmpL xs ys<0->cmpL ys d<0->cmpL xs d<0
 |_,[],[],_,a=>absurd a dy
 |[],[],_::_,a,_=>absurd a dy
 |_::_,[],_::_,a,_=>absurd a (by show ¬(1:Int)<0;decide)
 |_,_::_,[],_,a=>absurd a (by show ¬(1:Int)<0;decide)
 |[],_::_,_::_,_,_=>by show(-1:Int)<0;decide
 |p::xs,q::ys,r::d,a,k=>by
  rw[xd]at a k⊢;by_cases c:eI p q=0;{have f:=(mF.eq _ _).1 c;rw[if_neg oy]at a;rw[f];by_cases b:eI q r=0;{rw[if_neg oy]at k⊢;exact IX _ _ _ a k};rw[if_pos b]at k⊢;exact k};rw[if_pos c]at a;by_cases b:eI q r=0;{have e:=(mF.eq _ _).1 b;rw[<-e,if_pos c];exact a};rw[if_pos b]at k;have:=mF.trans _ _ _ a k;rw[if_pos oy];exact this
def jh:Ord cmpL:=⟨cmpL_eq,qx,IX⟩
end aa
namespace ap
abbrev E:=List Pr×List (Int×Int)
structure Se where
 LA:ah ak
 Ln:Nat
 Lc:Nat
 ls:List Pr
 SA:ah ak
 Sn:Nat
 Sc:Nat
 ss:List (Int×Int)
def Se.val (s:Se):E:=(s.ls,s.ss)
def named (l:List Pr):Bool:=(aa.get l gd).isSome&&aa.ar l
def behind (es:List E) (i:Nat) (e:E):Bool:=
 match i with
 |0=>true
 |k+1=>match es[k]? with
  |none=>true
  |some f=>decide (aa.cmpL (aa.aD f.1) (aa.aD e.1)<0)
def jy (e:E):Bool:=named e.1&&decide (e.2.length≠0)&&aQ.ar e.2
def bN (es:List E) (i:Nat):Bool:=
 match es[i]? with
 |none=>true
 |some e=>jy e&&behind es i e
def ar (es:List E):Bool:=decide (es.length<=32)&&cI (bN es) es.length
def aD (es:List E):List E:=if ar es=true then es else[]
def gY {es:List E} {e:E} {k:Nat} (a:es[k]?=some e):bN es k=(jy e&&behind es k e):=by unfold bN;rw[a]
theorem nW {es:List E} {e f:E} {k:Nat} (a:es[k]?=some f):behind es (k+1) e=decide (aa.cmpL (aa.aD f.1) (aa.aD e.1)<0):=by grind[behind]
end ap
def iw (s:Se):List ai:=[slice s.LA s.Ln s.Lc,slice s.SA s.Sn s.Sc]
def GF (s):(iw s).length=2:=rfl
def kA (W:Wd) (b:Nat) (s:Se):Prop:=aH W b s.LA s.Ln s.Lc s.ls/\dX.cP W b s.SA s.Sn s.Sc s.ss
def cU (W:Wd) (b:Nat) (A:ah ak) (n c:Nat) (ses:List Se):Prop:=aA iw 2 W b A n c ses/\ ∀s∈ses,kA W b s
section
variable{W W':Wd} {B B' n c:Nat} {A:ah ak} {ses:List Se} {s:Se}
def kA.below (b:kA W B s) (a:Below B W W'):kA W' B s:=⟨b.1.below a,b.2.below a⟩
def kA.more (b:kA W B s) (a:B<=B'):kA W B' s:=⟨b.1.more a,b.2.more a⟩
def kA.later (b:kA W W s) (a:az W W'):kA W' W' s:=(b.below a).more a.size
def cU.len (a:cU W B A n c ses):ses.length=n:=a.1.1
theorem cU.cap (a:cU W B A n c ses):n<=c/\c<= "":=⟨a.1.2.1,a.1.2.2.1⟩
def cU.below (b:cU W B A n c ses) (a:Below B W W'):cU W' B A n c ses:=⟨b.1.below a,λx d=>(b.2 x d).below a⟩
def cU.more (b:cU W B A n c ses) (a:B<=B'):cU W B' A n c ses:=⟨b.1.more a,λx d=>(b.2 x d).more a⟩
def cU.later (b:cU W W A n c ses) (a:az W W'):cU W' W' A n c ses:=(b.below a).more a.size
def cU.none_ (W B):cU W B none 0 0 []:=⟨aA.none_ _ _,λx a=>absurd a iy⟩
def cU.at_ (g:cU W B A n c ses) {k:Nat} (i:k<n): ∃b a s,A=some (b a)/\b<B/\ses[k]?=some s/\kA W B s/\W.cell? (b (a+k*2))=some (slice s.LA s.Ln s.Lc)/\W.cell? (b (a+k*2+1))=some (slice s.SA s.Sn s.Sc):=by let⟨b,a,e,j,h⟩:=g.1.at_ oy;have f:ses[k]?=some (ses[k]' vX):=br _;exact DW
end
def ng (A n c xs b) (a:aa.ar xs=b) (w) (d:aH w w A n c xs):
 Calls prog 59 #[slice A n c] w (bO w (bool b)):=by subst a;exact nY A n c xs w d
def Zk (A n c xs b) (a:aQ.ar xs=b) (w) (d:dX.cP w w A n c xs):
 Calls prog 55 #[slice A n c] w (bO w (bool b)):=by subst a;exact dX.mD A n c xs w d
def Ld (A n c xs b) (l:ap.named xs=b) (w) (k:aH w w A n c xs):
 Calls prog 54 #[slice A n c] w (bO w (bool b)):=by have e:=hJ k;subst l;unfold ap.named;let⟨s,f⟩:=xR (aa.ar xs);rcases h:aa.get xs gd with _|v;{have d:=hJ h;go_enter func54,ntmps54;(go_wp2_with fail);refine mB (pH A n c xs gd none d.o w e.o) λg a=>?_;unfold nE;go_wp2;go_ret;exact⟨rfl,a⟩};let⟨d,i⟩:=aq h f;rw[f];go_enter func54,ntmps54;(go_wp2_with fail);refine mB (pH A n c xs gd (some v) d.o w e.o) λg a=>?_;unfold nE;(go_wp2_with fail);refine mB (ng A n c xs s i.o g (e.o.later a)) λm j=>?_;go_wp2;go_ret;exact⟨iy,bU a j⟩
namespace ap
def kp {es:List E} {k:Nat} (b:k<es.length) (a:bN es k=false):ar es=false:=by exact SJ
end ap
def Bl (A n c ses b) (a:ap.ar (ses.map Se.val)=b) (w) (g:cU w w A n c ses):
 Calls prog 35 #[slice A n c] w (bO w (bool b)):=by
 subst a;have Z:=g.len;have f6:=g.cap;let⟨c5,e'⟩:=aq g Z;have C:(ses.map Se.val).length=n:=by rw[cC];exact Z
 let⟨es,a1⟩:=xR (ses.map Se.val);rw[a1]at C⊢;let⟨c3,u⟩:=aq a1 C;clear g Z a1;by_cases f5:32<n;{have e2:decide ((32:Int)<n):=bG oy;have e0:=hJ (show ap.ar es=false by unfold ap.ar;rw[C,bj (by omega: ¬n<=32)];rfl);clear C;go_enter func35,ntmps35;go_wp2;go_ret;exact⟨by rw[e0.o];rfl,aN⟩};have e2:decide ((32:Int)<n)=false:=bj oy;clear C;go_enter func35,ntmps35;go_wp2;go_loopw[10] (λi wr=> ∃k:Nat,k<=n/\i=k/\cI (ap.bN es) k/\az w wr) (λi _=>n- (intOf i).toNat);(case atStart=>exact⟨0,oy,rfl,rfl,aN⟩);case round=>obtain⟨k,f7,rfl,b5,a⟩:=hrel;have U:=hJ b5;clear b5;by_cases t:k<n;{obtain⟨E,o⟩:=xS (k+1);refine pP λz=>?_;let⟨d0,d9,s,d8,c9,b0,b9,c7,c4⟩:=c5.at_ t;(have X:es[k]?=some s.val:=by rw[<-c3.o,dw,b0];rfl);have a5:=ap.gY X;have d1:=bC a c7;have e4:=bC a c4;have b1:=hJ ((b9.below a).more a.size);have c2:=af.new wr 107 #[slice s.LA s.Ln s.Lc,slice s.SA s.Sn s.Sc];have H:Below wr wr (wr.alloc (.cells #[slice s.LA s.Ln s.Lc,slice s.SA s.Sn s.Sc] 107)):=aN.alloc ny _;have b':wr<(wr.alloc (.cells #[slice s.LA s.Ln s.Lc,slice s.SA s.Sn s.Sc] 107)).heap.size:=iy;have I:=hJ (b1.later H);have a':=bU a H;let⟨S,O⟩:=bE c2.a;have a2:=hJ o;have R:=b1.2.len;let⟨c6,d2⟩:=xR (ap.named s.ls);have V:=hJ d2;clear o c7 c4 b9 b0;subst d8;have m:ap.bN es k=false->ap.ar es=false:=λg=>ap.kp FF g;let⟨m,B,e9⟩:=aM m a5 X;clear a5 X;(go_wp2_with fail);generalize World.alloc _ _=e1 at c2 H b' I a' S O⊢;clear H;refine mB (Ld s.LA s.Ln s.Lc s.ls c6 V e1 I.1) λd5 G=>?_;have D:=bU a' G;have O:=bC G O;cases c6;{have f:=hJ (m (by rw[B.o];unfold jy;rw[show s.val.1=s.ls from rfl,V.o];rfl));exact pR};by_cases F:s.Sn=0;{have b3:((s.Sn:Int)==0):=tG;have f:=hJ (m (by rw[B.o];unfold jy;rw[show s.val.2=s.ss from rfl,R,F];simp));clear F R;exact pR};have b3:((s.Sn:Int)==0)=false:=mu;let⟨b6,b2⟩:=xR (aQ.ar s.ss);let⟨a4,c',d'⟩:=aM b2 R F;clear b2 R F;(go_wp2_with fail);refine mB (Zk s.SA s.Sn s.Sc s.ss b6 a4 d5 (I.2.later G)) λf2 a6=>?_;have j:=bU D a6;cases b6;{have f:=hJ (m (by rw[B.o];unfold jy;rw[show s.val.2=s.ss from rfl,a4.o];simp));exact vE};have a9:=hJ (show jy s.val=true by unfold jy;rw[show s.val.1=s.ls from rfl,show s.val.2=s.ss from rfl,V.o,a4.o,c'.o,decide_eq_true d'.o];rfl);have a3:=bU G a6;have e3:=hJ (bC a3 S);have f8:=dS b' a3.size;have e5:=hJ (I.later a3);clear S O d1 e4 b3;go_wp2;by_cases W:k=0;{have q:decide (0<k)=false:=bj oy;have c0:=hJ (ig U (show ap.bN es k=true by rw[B.o,a9.o,W];rfl));clear W;refine yq λhH=>?_;refine qY ?_;refine te [13] ?_;exact RP};refine ES λq l p M v=>?_;let⟨d3,e6,d,x,f0,c1,a7,b7,d4⟩:=c5.at_ v;obtain⟨rfl,rfl⟩:d0=d3/\d9=e6:=Fv;(have a8:es[l]?=some d.val:=by rw[<-c3.o,dw,c1];rfl);have J:=ap.nW (e:=s.val) a8;rw[<-p]at J;let⟨r,Y⟩:=xR (aa.cmpL (aa.aD d.ls) (aa.aD s.ls));rw[show d.val.1=d.ls from rfl,show s.val.1=s.ls from rfl,Y]at J;have c8:=hJ (bC j b7);have f4:=dS c9 j.size;let⟨e7,d6,b8⟩:=aM ((a7.below j).more j.size) Y J;have f1:(0:Int)<=l:=oy;have f3:l<(n:Int):=oy;clear W p x c1 b7 d4 a7 a8 Y J;refine cO λhH=>?_;refine tg [0,1,2,3,4,5,6,7,8,9,10] (λ_ s=>gG (bC s c8) (bC s e3)) ?_;refine aV 11 λK N=>?_;go_simp;refine mB (oj d.LA d.Ln d.Lc d.ls s.LA s.Ln s.Lc s.ls r d6 _ (e7.1.later hH) (e5.1.later hH)) λe8 L=>?_;refine zF λhH=>?_;refine te [12,13] ?_;by_cases b4:r<0;{have c0:=hJ (ig U (show ap.bN es k=true by rw[B.o,a9.o,b8.o,bG b4];rfl));exact RP};have f:=hJ (m (by rw[B.o,b8.o,bj b4,Bool.and_false]));exact Qc};obtain rfl:k=n:=oy;have d7:=hJ (show ap.ar es=true by unfold ap.ar;rw[u.o,U.o,bG (oy:k<=32)];rfl);go_wp2;go_ret;exact⟨by rw[d7.o];rfl,a⟩
def Gf (A n c ses w) (a:cU w w A n c ses):
 Calls prog 114 #[slice A n c] w λe w'=> ∃A' n' c' i,e= .returned (slice A' n' c')/\cU w' w' A' n' c' i/\i.map Se.val=ap.aD (ses.map Se.val)/\(ap.ar (ses.map Se.val)->A'=A/\n'=n/\c'=c/\i=ses)/\az w w':=by
 have g:=hJ a;let⟨b,j⟩:=xR (ap.ar (ses.map Se.val));have d:=hJ j;clear a j;go_enter func114,ntmps114;go_wp2_with fail
 refine mB (Bl A n c ses b d w g) λk f=>?_;cases b;{exact PU};exact Oi
namespace ap
def kr (es:List E) (l:List Pr) (k:Nat):Int:=
 match es[k]? with
 |none=>0
 |some e=>aa.cmpL l (aa.aD e.1)
def there (es:List E) (l:List Pr) (p:Nat):Bool:=
 match es[p]? with
 |none=>false
 |some e=>aa.cmpL l (aa.aD e.1)==0
structure nL (es:List E) (l:List Pr) (p:Nat):Prop where
 le:p<=es.length
 lo: ∀k,k<p->0<kr es l k
 hi: ∀k,p<=k->k<es.length-> ¬0<kr es l k
def zB (es:List E) (l:List Pr):Prop:= ∀a b,a<=b->b<es.length->0<kr es l b->0<kr es l a
def og {es:List E} {l:List Pr} {k:Nat} {e:E} (a:es[k]?=some e):kr es l k=aa.cmpL l (aa.aD e.1):=by unfold kr;rw[a]
theorem Lj {es:List E} {l:List Pr} (a:p<es.length):there es l p=(kr es l p==0):=by grind[there,kr]
theorem Il {es:List E} {l:List Pr} (a: ¬p<es.length):there es l p=false:=by grind[there]
end ap
def KL (A n c ses B m d ls i) (C:i<n) (r) (b:kr (ses.map Se.val) (aa.aD ls) i=r) (w) (e:cU w w A n c ses) (g:aH w w B m d ls):
 Calls prog 158 #[agg #[slice A n c,slice B m d],int .i64 (i:Nat)] w (bO w (int .i64 r)):=by let⟨E,J,s,z,p,f,l,j,q⟩:=e.at_ C;rw[og (show(ses.map Se.val)[i]?=some s.val by rw[dw,f];rfl),show s.val.1=s.ls from rfl]at b;let⟨t,x,v,o⟩:=bJ l g b j;have H:(0:Int)<=(i:Int):=oy;have I:(i:Int)<(n:Int):=oy;subst z;clear e g f l j q b;go_enter func158,ntmps158;go_wp2;refine yA λF u a M y=>?_;have G:=dS p y;refine cO λhH=>?_;refine tg [0,1,2,3,4,5,6,7] (λ_ s=>gG (fR (bB s u.o)) (bC s (bC a o.o))) ?_;refine aV 8 λK N=>?_;go_simp;refine mB (oj B m d ls s.LA s.Ln s.Lc s.ls r v.o _ ((x.o.later a).later hH) ((t.o.1.later a).later hH)) λD L=>?_;refine zF λhH=>?_;refine te [9] ?_;go_wp2;go_ret;exact⟨rfl,bU a hH⟩
def adf (x n c ses B m d ls) (N:zB (ses.map Se.val) (aa.aD ls)) (a7:n<=32) (w) (a:cU w w x n c ses) (g:aH w w B m d ls):
 Calls prog 157 #[int .i64 (n:Nat),.func (.func 158) #[agg #[slice x n c,slice B m d]] #[]] w λe w'=> ∃p,e= .returned (tuple #[int .i64 (p:Nat),bool (ap.there (ses.map Se.val) (aa.aD ls) p)])/\nL (ses.map Se.val) (aa.aD ls) p/\az w w':=by
 let⟨M,L,V⟩:=aM a g N;have I:(ses.map Se.val).length=n:=by rw[cC];exact a.len
 have a5:=a.cap;have o:=hJ I;clear a g N I;go_enter func157,ntmps157;go_wp2;go_loopw[4,6] (λC z wr=> ∃i j:Nat,i<=j/\j<=n/\C=i/\z=j/\(∀k,k<i->0<kr (ses.map Se.val) (aa.aD ls) k)/\(∀k,j<=k->k<n-> ¬0<kr (ses.map Se.val) (aa.aD ls) k)/\az w wr) (λC z _=>(intOf z).toNat- (intOf C).toNat);case atStart=>exact⟨0,n,oy,oy,rfl,rfl,λk y=>absurd y oy,λk u b=>absurd u oy,aN⟩
 case round=>
  obtain⟨i,j,a3,W,rfl,rfl,H,U,f⟩:=hrel
  let⟨Q,S⟩:=aq H U
  clear H U
  by_cases a4:i<j
  ·obtain⟨q,a1⟩:=xS (i+j)
   let⟨a,a0⟩:=xS (q/2)
   let⟨b,s⟩:=xS (a+1)
   refine Pm λt F K=>?_
   let⟨r,v⟩:=xR (kr (ses.map Se.val) (aa.aD ls) a)
   let⟨h,E,Y⟩:=aM v s (show((i:Int)+j)/2=((a:Nat):Int)by omega)
   clear a1 a0 s v
   go_wp2_with fail
   rw[Y.o]
   refine mB (KL x n c ses B m d ls a t r h.o wr (M.o.later f) (L.o.later f)) λX D=>?_
   have R:=bU f D
   by_cases O:0<r
   ·go_wp2
    go_roundw
    case rel=>exact⟨b,j,aR E.o,W,rfl,rfl,λk y=>V.o k a (aR E.o) (by rw[o.o];exact t) (by rw[h.o];exact O),λk u b=>aR (S.o k u b),R⟩
    case measure=>have:=E.o;simp[intOf];omega
   ·have a6:decide (0<r)=false:=bj O
    go_wp2
    go_roundw
    case rel=>exact⟨i,a,F.1,oy,rfl,rfl,Q.o,λk y Z a2=>by
     have:=V.o a k y (by rw[o.o];exact Z) a2
     rw[h.o]at this
     omega,R⟩
    case measure=>simp[intOf];omega
  ·obtain rfl:i=j:=oy
   have J:=hJ (show nL (ses.map Se.val) (aa.aD ls) i from⟨by rw[o.o];exact W,Q.o,λk u b=>by have:=S.o k u (by rw[<-o.o];exact b);omega⟩)
   by_cases G:i<n
   ·obtain⟨r,v⟩:=xR (kr (ses.map Se.val) (aa.aD ls) i)
    obtain⟨A,h⟩:=aq (Lj (es:=ses.map Se.val) (l:=aa.aD ls) (by rw[o.o];exact G)) v
    clear v
    go_wp2_with fail
    refine mB (KL x n c ses B m d ls i G r h.o wr (M.o.later f) (L.o.later f)) λX D=>?_
    go_wp2
    go_ret2
    exact⟨i,by rw[A.o,h.o];rfl,J.o,bU f D⟩
   ·have A:=hJ (Il (es:=ses.map Se.val) (l:=aa.aD ls) (p:=i) (by rw[o.o];exact G))
    go_wp2
    go_ret2
    exact⟨i,by rw[A.o];rfl,J.o,f⟩
def agG (A n c ses B m d ls) (f:zB (ses.map Se.val) (aa.aD ls)) (o:n<=32) (w) (b:cU w w A n c ses) (g:aH w w B m d ls):
 Calls prog 115 #[slice A n c,slice B m d] w λe w'=> ∃p,e= .returned (tuple #[int .i64 (p:Nat),bool (ap.there (ses.map Se.val) (aa.aD ls) p)])/\nL (ses.map Se.val) (aa.aD ls) p/\az w w':=by
 let⟨q,l,i⟩:=aM b g f;clear b g f;go_enter func115,ntmps115;go_wp2_with fail
 refine yC λh r a s=>?_;refine(adf A n c ses B m d ls i.o o h (q.o.later a) (l.o.later a)).mono ?_;rintro e t ⟨p,rfl,hcut,j⟩;have k:=hJ hcut;clear hcut;go_wp2;go_ret2;exact⟨p,rfl,k.o,bU a j⟩
def LP (w a n c):(binOp .eql 26 (slice a n c) ()).run prog w= .ok (bool a.isNone) w:=Lib.run_eql_slice_nil w _ _ a n c 0 0 underlying26
def xI:(prog.info? 107).map (λi=>(i.zero,i.size,i.bytes))=some (some (agg #[(),()]),2,48):=ry
def Nd (d:List Se): ∀b∈d.flatMap iw,b.oneCell':=by intro b c;let⟨t,_,a⟩:=mem_flatMap.1 c;simp only[iw,fI,not_mem_nil,or_false]at a;obtain rfl|rfl:=a<;>rfl
def Hr (A n c ses w) (b:cU w w A n c ses) (z:n<=32):
 Calls prog 117 #[slice A n c] w λe w'=> ∃v,e= .returned v/\w'.ownsRow w 107 2 v n (ses.flatMap iw)/\az w w':=by let⟨m,j,q,r,x⟩:=info_parts xI;have l:=aA.reads GF dy b.1;obtain _|a:=A;{have f:=LP w none n c;simp only[Option.isNone]at f;go_enter func117,ntmps117;go_wp2;go_ret;(obtain rfl:n=0:=by obtain d|d:=jY n;{exact d};let⟨_,_,_,e,_⟩:=b.at_ d;cases e);have s:=je b.len;subst s;exact zo};have f:=LP w (some a) n c;simp only[Option.isNone]at f;go_enter func117,ntmps117;have t:(w.alloc (.cells #[] 107)).ownsRow w 107 2 (bR w 0 0) 0 []:=⟨iy,.inr ⟨w,0,#[],rfl,ny,heap_alloc_new w _,ny,by unfold maxLen;omega,rfl,rfl⟩⟩;obtain⟨o,u,p⟩:=aM (l.alloc ny (.cells #[] 107)) (Nd ses) t;(go_wp2_with(at_builtin;refine nd _ rfl (.tmp 5) (.tmp 6) 26 rfl w 107 m _ 2 48 underlying26 j q r x rfl dy (bR w 0 0) 0 [] rfl p.o w (some a) n c _ rfl o.o u.o my oy iy ?_;intro y C g i B));exact pZ
def nU {P:Program} (k w dT sT ty elem g o dLen dCap a sLen sCap m bI t cs)
 (e:P.underlying dT=some (.slice elem)) (d:(P.info? elem).map (·.size)=some k)
 (r:w.heap[g]?=some (.cells bI t (0,0))) (h:Nat.min sLen dLen=m) (n:cs.length=k*m)
 (s: ∀j v,cs[j]?=some v->w.cell? (a.add j)=some v) (p:o+cs.length<=bI.size) (l: ∀v∈cs,v.oneCell'):
 (Builtin.copy_ #[dT,sT] ty #[slice (some (g o)) dLen dCap,slice (some a) sLen sCap]).run P w=
  .ok (goInt m) (w.setRow g (bI.toList.take o++cs++bI.toList.drop (o+cs.length)).toArray):=by have f:=run_loadCells_list (P:=P) w a cs s;have q:=run_storeCells_at P g o t cs 0 bI w r (by simpa using p) l;cases b:P.info? elem with|none=>simp[b]at d|some i=>((have c:i.size=k:=by simpa[b]using d);simp only[Builtin.copy_,run_underlying e,Builtin.lenOf,Builtin.firstCells,sizeOf,typeInfo,b,c,h];rw[n]at f;simp[run_underlying e,b,c,f,q,h,Nat.mul_comm])
def fO (cells:List ai) (i:Nat) (x y:ai):List ai:=cells.take (i*2)++[x,y]++cells.drop (i*2)
def ZN (w:Wd):(Go.sizeOf 107).run prog w= .ok 2 w:=by rfl
def xj {t:ch} {fr:Nat×Nat} (a:w.heap[g]?=some (.cells cs t fr)):w.shape? g=some (t,cs.size):=by unfold World.shape?;rw[a]
theorem rT (w:Wd) {k:Nat} (cs:Array ai) (a:k≠g):(w.setRow g cs).heap[k]?=w.heap[k]?:=by grind[World.setRow]
def below_setRow (a:Below B w W) (c:B<=g):Below B w (W.setRow g cs):=
 ⟨a.os,a.tape,a.output,by unfold World.setRow;simp;exact a.size,λk b=>(rT W cs oy).trans (a.block k b)⟩
theorem Kn {a cells:List ai} {cap:Nat} {x y:ai} (f:a.take (n*2)=cells) (j:a.length=cap*2) (g:n+1<=cap) (h:i<n):
 ((((a.take ((i+1)*2)++cells.drop (i*2)++a.drop ((i+1)*2+(cells.drop (i*2)).length)).toArray.toList.take (i*2)++[x,y]++(a.take ((i+1)*2)++cells.drop (i*2)++a.drop ((i+1)*2+(cells.drop (i*2)).length)).toArray.toList.drop (i*2+[x,y].length)).toArray).toList).take ((n+1)*2)=fO cells i x y:=by
 have b:cells.length=n*2:=by rw[<-f,et];omega
 let⟨R,d⟩:=xS (a.drop ((i+1)*2+(cells.drop (i*2)).length));rw[<-d];have c:(a.take ((i+1)*2)++cells.drop (i*2)++R).take (i*2)=cells.take (i*2):=by grind
 have e:(a.take ((i+1)*2)++cells.drop (i*2)++R).drop (i*2+2)=cells.drop (i*2)++R:=by grind
 simp only[toList_toArray,cH,fQ,Nat.zero_add];rw[c,show i*2+(1+1)=i*2+2 from rfl,e];unfold fO;rw[<-ed,take_append_of_le_length (by simp only[bu,et,gJ,cH,fQ,b];omega),dE (by simp only[bu,et,gJ,cH,fQ,b];omega)]
def afy (base:Nat) (v:ai) (n:Nat) (E:v=()\/ ∃g cap,v=slice (some ⟨g,0,none⟩) n cap/\n<=cap/\cap<=9223372036854775807) (cells:List ai) (f:Nat) (x y:ai) (w:Wd) (i:base<=w) (b:w.ownsRow base 107 2 v n cells) (q:af w f 107 #[x,y]) (L:x.oneCell') (hy:y.oneCell') (H:n<=31):
 Calls prog 118 #[v,n,bR f 1 1] w λe w'=> ∃u,e= .returned u/\w'.ownsRow base 107 2 u (n+1) (cells++[x,y])/\Below base w w':=by let⟨t,s,z,A,B⟩:=info_parts xI;let⟨o,l⟩:=aq b q;have J:((n:Int)==n):=beq_self_eq_true _;obtain rfl|⟨g,cap,rfl,I,G⟩:=E;{(have F:n=0:=by exact Og);subst F;clear b q;go_enter func118,ntmps118;(go_wp2_with(at_builtin;refine wpList_append_own _ rfl _ _ 26 rfl base 107 t _ 2 48 underlying26 s z A B rfl dy _ _ cells rfl o.o (f 0) 1 1 [x,y] rfl rfl ?c1 ?c2 ?c3 ?c4 ?c5 ?_));(case c1=>intro j m a;match j,a with|0,a=>(simp at a;subst a;simpa[Addr.add]using l.o.cell 0)|1,a=>(simp at a;subst a;simpa[Addr.add]using l.o.cell 1));(case c2=>intro m d;simp at d;obtain rfl|rfl:=d<;>assumption);(case c3=>unfold maxLen;omega);(case c4=>omega);(case c5=>exact i);intro C D p r _;go_wp2;go_ret;exact⟨_,rfl,p,aN.grown r i Ag⟩};have c:(0:Int)<=n:=oy;clear b q;by_cases K:cap=n;{exact Ts};exact Ts
def aat (base g n cap i:Nat) (l:Array ai) (cells:List ai) (o:Nat) (x y:ai) (w) (A:base<=g) (u:w.heap[g]?=some (.cells l 107 (0,0))) (C:l.size=cap*2) (s:l.toList.take (n*2)=cells) (I:n+1<=cap) (a7:cap<= "") (Z:i<n)
 (t:af w o 107 #[x,y]) (F:o≠g) (b3:x.oneCell') (hy:y.oneCell') (M: ∀U∈cells,U.oneCell') (a8:n<=31):
 Calls prog 118 #[bR g n cap,i,bR o 1 1] w λe w'=> ∃H,e= .returned H/\w'.ownsRow base 107 2 H (n+1) (fO cells i x y)/\Below base w w':=by
 have b':((i:Int)==n)=false:=mu;let⟨a2,R⟩:=xS (i+1);let⟨V,O⟩:=xS (n+1);have b0:IntKind.i64.wrap ((n:Int)+1)=((V:Nat):Int):=by rw[O,show(n:Int)+1=((n+1:Nat):Int)by omega];exact fA _ oy
 have b4:IntKind.i64.wrap ((i:Int)+1)=((a2:Nat):Int):=by rw[R,show(i:Int)+1=((i+1:Nat):Int)by omega];exact fA _ oy
 have a6:=bj oy;have b7: ∀b lb D,b.block=g->(callFunc 162 #[bR o 1 1,slice (some b) lb D]).run prog w= .ok (.value false) w:=λb lb D X=>by subst X;rw[run_callFunc_extern func162 ry ry ry (e:=Extern.SlicesOverlaps.overlaps #[26,26] #[4]) ry,Lib.run_overlaps_apart w 26 4 107 underlying26 2 ZN (o 0) b 1 1 lb D F 107 107 2 l.size (xj t) (xj u) oy (t.frozen 0) (t.frozen 2)];rfl
 have b5:=hJ t;refine RT λf q=>?_;refine OR λa m=>?_;have G:a.size=cap*2:=by rw[m];simp only[size_toArray,bu,et,gJ,kI,C,f];omega
 have B:=setRow_heap w.drew g l a _ _ u;have E:(prog.info? 107).map (·.size)=some 2:=by let⟨a',L,b1,a1,b9⟩:=info_parts xI;rw[L];simp[a1]
 have W: ∀p,(Builtin.copy_ #[26,26] p #[slice (some (g ((i+1)*2))) (n-i) (cap- (i+1)),slice (some (g (i*2))) (n+1-i) (cap-i)]).run prog w.drew= .ok (goInt ((n-i:Nat):Int)) (w.drew.setRow g a):=λp=>by rw[m];exact nU 2 w.drew _ _ p 107 g ((i+1)*2) (n-i) (cap- (i+1)) (g (i*2)) (n+1-i) (cap-i) (n-i) l 107 (cells.drop (i*2)) underlying26 E u wb q (λj v d=>by rw[show((g (i*2)):ak).add j=(g (i*2+j))by simp[Addr.add]];have a3:w.drew.heap[g]?=some (.cells l 107 (0,0)):=u;rw[Lib.cell_of_heap a3];exact yY) (by rw[q,C];omega) TQ
 have J: ∀p,(Builtin.copy_ #[26,26] p #[slice (some (g (i*2))) (n+1-i) (cap-i),slice (some (o 0)) 1 1]).run prog (w.drew.setRow g a)= .ok (goInt ((1:Nat):Int)) ((w.drew.setRow g a).setRow g (a.toList.take (i*2)++[x,y]++a.toList.drop (i*2+[x,y].length)).toArray):=λp=>by have Y:=(rT w.drew a F).trans t;exact nU 2 _ _ _ p 107 g (i*2) (n+1-i) (cap-i) (o 0) 1 1 1 a 107 [x,y] underlying26 E B wb rfl (λj v d=>by rw[show((o 0):ak).add j=(o j)by simp[Addr.add];exact λN=>N.symm,Lib.cell_of_heap Y];simpa using d) (by simp only[cH,fQ];omega) (λv z=>by exact Sk)
 have a4:=hJ (show((w.drew.setRow g a).setRow g (a.toList.take (i*2)++[x,y]++a.toList.drop (i*2+[x,y].length)).toArray).ownsRow base 107 2 (bR g (n+1) cap) (n+1) (fO cells i x y)from by refine⟨by unfold fO;simp only[bu,et,gJ,cH,fQ,f];omega,.inr ⟨g,cap,_,rfl,A,setRow_heap _ g a _ _ _ B,I,by unfold maxLen;omega,?_,?_⟩⟩;{simp only[size_toArray,bu,et,gJ,kI,G,cH,fQ];omega};rw[m];exact Kn s (by rw[kI];exact C) I Z);clear m B E f q G;have b6:(0:Int)<=i+1:=oy;have a5:i<=n:=oy;have b8:i<=(n:Int)+1:=oy;have b2: ¬cap=i+1:=by omega
 have a9: ¬cap=i:=by omega
 go_enter func118,ntmps118;go_wp2_with fail
 refine wp_region_held_drew (S:=λW'=>Below base w W') ry aN.drew (λhH=>?_);refine zb λK r=>?_;refine step_copy_runI rfl _ _ 26 26 rfl _ _ Aj Aj (W _) ?_;refine be r (below_setRow aN.drew A) λhH=>?_;refine dj ?_;go_wp2_with(at_builtin;refine wpList_copy_runI _ rfl _ _ 26 26 rfl _ _ rfl rfl (J _) ?_)
 go_ret;refine⟨_,rfl,?_,below_setRow (below_setRow aN.drew A) A⟩;simpa using a4.o
theorem Ki {R cells:List ai} {k:Nat} {x y:ai} (c:R.take (i*2)=cells.take (i*2)) (g:R.length=k*2) (a:cells.length=n*2) (e:n+1<=k) (f:i<n):
 (((R.take (i*2)++[x,y]++R.drop (i*2+[x,y].length)).toArray.toList.take ((i+1)*2)++cells.drop (i*2)++(R.take (i*2)++[x,y]++R.drop (i*2+[x,y].length)).toArray.toList.drop ((i+1)*2+(cells.drop (i*2)).length)).toArray.toList).take ((n+1)*2)=fO cells i x y:=by
 let⟨S,d⟩:=xS (R.drop (i*2+[x,y].length));rw[<-d];simp only[toList_toArray];have b:(R.take (i*2)++[x,y]++S).take ((i+1)*2)=R.take (i*2)++[x,y]:=by grind
 rw[b,c];unfold fO;rw[take_append_of_le_length (by simp only[bu,et,gJ,cH,fQ,a];omega),dE (by simp only[bu,et,gJ,cH,fQ,a];omega)]
def acz (base g n i bI cells vb x y w) (t:base<=w.heap.size) (B:w.heap[g]?=some (.cells bI 107 (0,0))) (b9:bI.size=n*2) (s:bI.toList.take (n*2)=cells) (b2:i<n)
 (b3:af w vb 107 #[x,y]) (b':x.oneCell') (hy:y.oneCell') (M: ∀b0∈cells,b0.oneCell') (b6:n<=31):
 Calls prog 118 #[slice (some ⟨g,0,none⟩) n n,i,slice (some ⟨vb,0,none⟩) 1 1] w λe w'=> ∃Y,e= .returned Y/\w'.ownsRow base 107 2 Y (n+1) (fO cells i x y)/\Below base w w':=by
 have c0:((i:Int)==n)=false:=mu;let⟨X,W,b1,Z,a7⟩:=info_parts xI;have I:(prog.info? 107).map (·.size)=some 2:=by rw[W];simp[Z]
 refine RT λf q=>?_;have a9:=(gm.1 B).1;refine Rk λD=>?_;have a2:(Builtin.firstCells X.size i (bR g i n)).run prog w.drew= .ok (cells.take (i*2)).toArray w.drew:=by rw[Z];exact run_firstCells_some w.drew 2 i (g 0) i n (cells.take (i*2)) (by rw[et];omega) (λj v d=>by rw[show((g 0):ak).add j=(g j)by simp[Addr.add];exact λl=>l.symm];exact NX)
 let⟨b,hG⟩:=xS (grownCap w (n+1) n 107);have a5:n+1<=b:=by rw[hG];exact grownCap_ge w _ _ _
 have C:b<=maxLen:=by rw[hG];exact grownCap_le_maxLen w _ _ _ my
 obtain⟨a,u⟩: ∃a:Array ai,a=(cells.take (i*2)).toArray++Builtin.zeroCells (Value.agg #[(),()]).cells (n+1-i)++Builtin.zeroCells (Value.agg #[(),()]).cells (b- (n+1)):=⟨_,rfl⟩;have A:a.size=b*2:=by exact Qe
 have a3:a.toList.take (i*2)=cells.take (i*2):=by rw[u];simp only[Array.toList_append,ed];exact NR
 have b5: ∀o,(Builtin.append_ #[26,3] o #[bR g i n,((n:Int)+1- (i:Int):Int)]).run prog w= .ok (bR w (n+1) b) (w.drew.alloc (.cells a 107)):=λo=>by have H:i+(n+1-i)=n+1:=oy;have l:=Lib.run_append_grow_zeros w 26 3 o 107 X _ .i64 .i64 underlying26 underlying3 W b1 (some (g 0)) i n (cells.take (i*2)) a2 (n+1-i) oy oy oy oy (by rw[a7];omega) (by rw[a7,H];exact growslice_fits oy oy);exact SN
 refine Rh λc1 m=>?_;have G:c1.size=b*2:=by rw[m];simp only[size_toArray,bu,et,gJ,kI,A,cH,fQ];omega
 refine Su λc2 p=>?_;have a1:c2.size=b*2:=by rw[p];simp only[size_toArray,bu,et,gJ,kI,G,f];omega
 have F:((w.alloc (.cells a 107)).drew).heap[w.heap.size]?=some (.cells a 107 (0,0)):=heap_alloc_new w _;have O:((w.alloc (.cells a 107)).drew).heap[vb]?=some (.cells #[x,y] 107 (0,0)):=af.alloc b3 _;have a8: ∀o,(Builtin.copy_ #[26,26] o #[slice (some (an w (i*2))) (n+1-i) (b-i),bR vb 1 1]).run prog ((w.alloc (.cells a 107)).drew)= .ok (goInt ((1:Nat):Int)) (((w.alloc (.cells a 107)).drew).setRow w c1):=λo=>by rw[m];exact nU 2 _ _ _ o 107 w (i*2) (n+1-i) (b-i) (vb 0) 1 1 1 a 107 [x,y] underlying26 I F wb rfl (λj v d=>by rw[show((vb 0):ak).add j=(vb j)by simp[Addr.add];exact λl=>l.symm,Lib.cell_of_heap O];simpa using d) (by simp only[cH,fQ,A];omega) (λv z=>by exact Sk)
 have E:=setRow_heap _ w a c1 _ _ F;have a6:((((w.alloc (.cells a 107)).drew).setRow w c1).drew).heap[g]?=some (.cells bI 107 (0,0)):=(rT _ c1 oy).trans ((Below.heap_alloc w _ g a9).trans B);have a': ∀o,(Builtin.copy_ #[26,26] o #[slice (some (an w ((i+1)*2))) (n-i) (b- (i+1)),slice (some (g (i*2))) (n-i) (n-i)]).run prog ((((w.alloc (.cells a 107)).drew).setRow w c1).drew)= .ok (goInt ((n-i:Nat):Int)) (((((w.alloc (.cells a 107)).drew).setRow w c1).drew).setRow w c2):=λo=>by rw[p];exact nU 2 _ _ _ o 107 w ((i+1)*2) (n-i) (b- (i+1)) (g (i*2)) (n-i) (n-i) (n-i) c1 107 (cells.drop (i*2)) underlying26 I E wb q (λj v d=>by rw[show((g (i*2)):ak).add j=(g (i*2+j))by simp[Addr.add],Lib.cell_of_heap a6];exact yY) (by rw[q,G];omega) TQ
 have b4:=hJ (show(((((w.alloc (.cells a 107)).drew).setRow w c1).drew).setRow w c2).ownsRow base 107 2 (bR w (n+1) b) (n+1) (fO cells i x y)from by refine⟨by unfold fO;simp only[bu,et,gJ,cH,fQ,f];omega,.inr ⟨w,b,c2,rfl,t,setRow_heap _ w c1 c2 _ _ E,a5,C,a1,?_⟩⟩;rw[p,m];exact Ki a3 (by rw[kI];exact A) f a5 b2);have a4:=hJ (show Below base w (((((w.alloc (.cells a 107)).drew).setRow w c1).drew).setRow w c2)from below_setRow (below_setRow ((aN.alloc t _).drew) t).drew t);have b8:IntKind.i64.wrap ((i:Int)+1)=(i:Int)+1:=fA _ oy;have b7:(0:Int)<=i+1:=oy;refine RH λN R J U L V=>?_;clear hG u A a3 m G p a1 F O E a6 a2 D f q I C;go_enter func118,ntmps118;go_wp2_with(first |(at_builtin;refine Lib.wpList_append_run _ rfl _ _ _ _ rfl _ _ rfl rfl _ _ (b5 _) ?_) |(at_builtin;refine wpList_copy_runI _ rfl _ _ 26 26 rfl _ _ rfl rfl (a8 _) ?_))
 refine wp_region_held_drew (S:=λW'=>Below base w W') ry (below_setRow ((aN.alloc t _).drew) t).drew (λhH=>?_);refine zb λK r=>?_;refine step_copy_runI rfl _ _ 26 26 rfl _ _ Aj Aj (a' _) ?_;refine be r a4.o λhH=>?_;refine dj ?_;go_wp2;go_ret;exact⟨_,rfl,b4.o,a4.o⟩
def aeA (base v n i cells vb x y w) (q:base<=w.heap.size) (a:w.ownsRow base 107 2 v n cells) (l:af w vb 107 #[x,y]) (z:v.ownBlock≠some vb) (j:x.oneCell'=true) (hy:y.oneCell'=true) (s: ∀A∈cells,A.oneCell'=true) (E:i<=n) (d:n<=31):
 Calls prog 118 #[v,int .i64 (i:Nat),bR vb 1 1] w λe w'=> ∃p,e= .returned p/\w'.ownsRow base 107 2 p (n+1) (fO cells i x y)/\Below base w w':=by have F:=a.1;by_cases C:i=n;{subst C;(have u:fO cells i x y=cells++[x,y]:=by unfold fO;rw[dE oy,drop_eq_nil_of_le oy,na]);rw[u];refine afy base v i ?_ cells vb x y w q a l j hy d;exact SI};obtain⟨b,D⟩|⟨g,cap,c,rfl,B,m,k,f,o,r⟩:=a.2;{omega};by_cases t:n+1<=cap;{exact aat base g n cap i c cells vb x y w B m o r t (by unfold maxLen at f;omega) oy l (λe=>z nP) j hy s d};obtain rfl:cap=n:=oy;exact acz base g cap i c cells vb x y w q m o r oy l j hy s d
namespace ap
theorem uL {es:List E} (b:ar es) {k:Nat} (a:k<es.length):bN es k:=by simp_all[cm,ar,fa]
theorem pr {es:List E} (a:ar es):es.length<=32:=by grind[ar]
def Ds {es:List E} (b:ar es) {k:Nat} {e:E} (a:es[k]?=some e):jy e:=by have:=uL b (bZ.1 a).1;rw[gY a,cm]at this;exact this.1
def LZ {es:List E} (c:ar es) {k:Nat} {e f:E} (b:es[k]?=some f) (a:es[k+1]?=some e):aa.cmpL (aa.aD f.1) (aa.aD e.1)<0:=by have:=uL c (bZ.1 a).1;rw[gY a,cm,nW b]at this;exact mT this.2
def ahJ {es:List E} (g:ar es) (d): ∀ {a:Nat} {e f:E},es[a]?=some f->es[a+d+1]?=some e->aa.cmpL (aa.aD f.1) (aa.aD e.1)<0:=by induction d with|zero=>(intro a e f c b;exact LZ g c b)|succ d ih=>(intro a e f c b;have i:=(bZ.1 b).1;obtain⟨m,h⟩: ∃m,es[a+d+1]?=some m:=⟨_,br oy⟩;exact jh.trans _ _ _ (ih c h) (LZ g h b))
def DL {es:List E} (g:ar es) {a b:Nat} (h:a<b) {e f:E} (d:es[a]?=some f) (c:es[b]?=some e):aa.cmpL (aa.aD f.1) (aa.aD e.1)<0:=
 ahJ g (b-a-1) d (by rw[show a+(b-a-1)+1=b by omega];exact c)
theorem mono {es:List E} (h:ar es) (l):zB es l:=by intro a b m k j;obtain⟨e,c⟩: ∃e,es[b]?=some e:=⟨_,br k⟩;obtain⟨f,d⟩: ∃f,es[a]?=some f:=⟨_,br oy⟩;rw[og c]at j;rw[og d];obtain i|p:=Nat.lt_or_ge a b;{have g:=DL h i d c;have o:=qx l (aa.aD e.1);have n:=jh.trans _ _ _ g (oy:aa.cmpL (aa.aD e.1) l<0);grind[qx]};grind
def ek (es):ar (aD es):=by exact ze
def kt (es:List E) (l:List Pr) (p:Nat):List (Int×Int):=if there es l p=true then((es[p]?).map (·.2)).getD []else[]
def nJ (es:List E) (p:Nat) (e:E):List E:=es.take p++[e]++es.drop p
def yI (es:List E) (p:Nat) (s:List (Int×Int)):List E:=es.set p ((((es[p]?).map (·.1)).getD []),s)
def yj (es:List E) (l:List Pr) (x:Int×Int) (p:Nat):List E×Int:=
 if(aQ.append (kt es (aa.aD l) p) x).2≠0 then(es,(aQ.append (kt es (aa.aD l) p) x).2)
 else if there es (aa.aD l) p=true then(yI es p (aQ.append (kt es (aa.aD l) p) x).1,0)
 else if 32<=es.length then(es,10)else(nJ es p (l,(aQ.append (kt es (aa.aD l) p) x).1),0)
def oG (es:List E) (l:List Pr) (x:Int×Int) (r:List E×Int):Prop:=
 if named l=true then ∃p,nL (aD es) (aa.aD l) p/\r=yj (aD es) l x p else r=(aD es,7)
end ap
def cU.Hl {G5:List Se} (a:cU W B F0 n c G5) {es:List ap.E} (b:G5.map Se.val=ap.aD es):n<=32:=by have:=ap.pr (ap.ek es);rw[<-b,cC,a.len]at this;exact this
namespace ap
def oz (a:List Se) (p:Nat) (s:Se):List Se:=a.take p++[s]++a.drop p
def aaP (a:List Se) (p:Nat) (s:Se):(oz a p s).map Se.val=nJ (a.map Se.val) p s.val:=by simp[oz,nJ]
theorem Xz (b:List Se) (p:Nat) (s:Se) (c:p<=b.length):(oz b p s).flatMap iw=fO (b.flatMap iw) p (slice s.LA s.Ln s.Lc) (slice s.SA s.Sn s.Sc):=by
 have d: ∀ (l:List Se) (k:Nat),(l.flatMap iw).take (k*2)=(l.take k).flatMap iw/\(l.flatMap iw).drop (k*2)=(l.drop k).flatMap iw:=by intro l;induction l with|nil=>(intro k;simp)|cons a l ih=>(intro k;cases k with|zero=>simp|succ k=>grind[iw])
 grind[iw,oz,fO]
theorem Xf (b:List Se) (p:Nat) (s t:Se) (c:b[p]?=some s) (d:t.LA=s.LA/\t.Ln=s.Ln/\t.Lc=s.Lc):(b.flatMap iw).set (p*2+1) (slice t.SA t.Sn t.Sc)=(b.set p t).flatMap iw:=by induction b generalizing p with|nil=>cases c|cons a l ih=>(cases p with|zero=>grind[iw]|succ k=>grind[iw])
end ap
theorem agL {cap:Nat} {e:ch} {xs:List ai} (h:W.ownsRow base e 2 (slice (some (g 0)) n cap) n xs) (p:i<n*2) (a:ai):(W (g i) a).ownsRow base e 2 (slice (some (g 0)) n cap) n (xs.set i a):=by obtain⟨r,d⟩:=h;refine⟨by grind,?_⟩;obtain⟨b,_⟩|⟨s,o,c,b,m,k,f,l,q,j⟩:=d;{cases b};cases b;refine .inr ⟨g,cap,c.setIfInBounds i a,rfl,m,af.ay (t:=e) (cs:=c) k i a,f,l,by grind,?_⟩;rw[Array.toList_setIfInBounds,take_set,j]
def LW {G5:List Se} (d:W.ownsRow base 107 2 v n (G5.flatMap iw)) (e:G5.length=n) (f: ∀s∈G5,kA W W s): ∃a c,v=slice a n c/\cU W W a n c G5:=by subst e;obtain⟨a,c,rfl,b⟩:=aA.dV GF dy d;exact⟨a,c,rfl,b,f⟩
end Go.Proofs.YteagjoghhfngoaaGreatDoor
