import Derived.Test.YteagjoghhfngoaaGreatDoorQf
set_option maxRecDepth 100000
set_option maxHeartbeats 32000000
set_option linter.all false
namespace Go.Proofs.YteagjoghhfngoaaGreatDoor
namespace Ev
end Ev
namespace aB
end aB
namespace aF
end aF
namespace aW
end aW
namespace aw
end aw
open Go.RowKit Tryz Value List Ev Lex Mem Om aB aC aF aQ aW aZ aa ae aj ap av aw bF cG cu dZ dd
variable{W W' w w':Wd} {B T base c g i j n:Nat} {d r t wait:Int} {H4:bm.H} {b l p:Bs} {F2 v:ai} {x:Int×Int} {nm s:au} {A F0:ah ak} {F8:ah Nat} {xs:List (Int×Int)} {bs:List aU}
def kC (b:w.grownBy W (some g)) (i:Nat) (v:ai):w.grownBy (W (g i) v) (some g):=
 World.grownBy.trans b ⟨rfl,rfl,rfl,iy,λj d a=>Below.heap_setCell W (g i) v j (λe=>a oZ)⟩
def mK (w:Wd) (a:ah Nat):w.grownBy w a:=⟨rfl,rfl,rfl,ny,λ_ _ _=>rfl⟩
def ae.JT {there:TL} {keep:Int} {J4:ML} {a:Ar} {f:Fo} {key:au} (b:ae.key a.al.l=key) (g:Om.get key there=some f) (d:bm.step a.al.h true t wait keep=(H4,r)):
 jP there t wait keep J4 a=(if bm.gone H4 t keep=true then Om.del key (Om.put key ⟨a.LA,a.Ln,a.Lc,⟨a.al.l,H4,r,f.x.2⟩⟩ J4)else Om.put key ⟨a.LA,a.Ln,a.Lc,⟨a.al.l,H4,r,f.x.2⟩⟩ J4):=by
 have e:Om.get key (pk there)=some f.val:=by unfold pk;rw[uT,g];rfl
 have h:mM there t wait keep a=⟨a.LA,a.Ln,a.Lc,⟨a.al.l,H4,r,f.x.2⟩⟩:=by unfold mM lR;rw[b,e];simp only[Option.isSome_some,d];rfl
 unfold jP;rw[h,b]
def ae.Kr {there:TL} {keep:Int} {J4:ML} {a:Ar} {key:au} (b:ae.key a.al.l=key) (f:Om.get key there=none) (d:bm.step a.al.h false t wait keep=(H4,r)):
 jP there t wait keep J4 a=(if bm.gone H4 t keep=true then Om.del key (Om.put key ⟨a.LA,a.Ln,a.Lc,⟨a.al.l,H4,r,a.al.v⟩⟩ J4)else Om.put key ⟨a.LA,a.Ln,a.Lc,⟨a.al.l,H4,r,a.al.v⟩⟩ J4):=by
 have e:Om.get key (pk there)=none:=by unfold pk;rw[uT,f];rfl
 have g:mM there t wait keep a=⟨a.LA,a.Ln,a.Lc,⟨a.al.l,H4,r,a.al.v⟩⟩:=by unfold mM lR;rw[b,e];simp only[Option.isSome_none,d]
 unfold jP;rw[g,b]
def ae.acW {keep:Int} {l:ML} {n:Int} {f:Fo} {key:au} (d:ae.key f.ls=key) {a:Ar} (b:Om.get key l=some a):jo t wait keep (l,n) f=(l,n):=by unfold jo;rw[aK (by rw[d,b];rfl)]
def ae.Yw {keep:Int} {l:ML} {n:Int} {f:Fo} {key:au} (b:ae.key f.ls=key) (a:Om.get key l=none) (d:16<=l.length):jo t wait keep (l,n) f=(l,min (n+1) ()):=by unfold jo;rw[aG (by rw[b,a];simp),aK d];rfl
def ae.ZX {keep:Int} {l:ML} {n:Int} {f:Fo} {key:au} (a:ae.key f.ls=key) (e:Om.get key l=none) (b: ¬16<=l.length) (d:bm.step bm.zero true t wait keep=(H4,r)):jo t wait keep (l,n) f=(Om.put key ⟨f.LA,f.Ln,f.Lc,⟨f.ls,H4,r,f.x.2⟩⟩ l,n):=by unfold jo DF tE;rw[aG (by rw[a,e];simp),aG b,a,d];rfl
section
variable{W W':Wd} {B B' n c:Nat} {A:ah ak} {fs:List Fo}
def gH.below (b:gH W B A n c fs) (a:Below B W W'):gH W' B A n c fs:=⟨b.1.below a,λx d=>(show aH _ _ _ _ _ _ from b.2 x d).below a⟩
def gH.more (b:gH W B A n c fs) (a:B<=B'):gH W B' A n c fs:=⟨b.1.more a,λx d=>(show aH _ _ _ _ _ _ from b.2 x d).more a⟩
def gH.later (b:gH W W A n c fs) (a:az W W'):gH W' W' A n c fs:=(b.below a).more a.size
def gH.none_ (W:Wd) (B:Nat):gH W B none 0 0 []:=⟨aA.none_ _ _,λx a=>absurd a iy⟩
end
def Cw {F4 β:Type} (P:β->Prop) (g:β->F4->β): ∀ (l:List F4) (b:β),P b->(∀b a,a∈l->P b->P (g b a))->P (l.foldl g b)
 |[],b,d,_=>d
 |a::l,b,d,e=>Cw P g l (g b a) (e b a (gl ..) d) (λb x f=>e b x (gW _ f))
def ae.Zf (ys:List Ar) (g:Int) (fs:List Fo) (t wait keep:Int): ∀p∈(ae.stepG ys g fs t wait keep).1,pU ys fs p.2:=by unfold ae.stepG vm vh;refine Cw (λs:ML×Int=> ∀p∈s.1,pU ys fs p.2) _ _ _ ?_ (λs f h b=>YJ b ((Cc fs).1 f h));exact Cw (λl:ML=> ∀p∈l,pU ys fs p.2) _ _ _ (λp e=>absurd e iy) (λl a d b=>Za b d)
def aA.ahd {F4:Type} {f:F4->List ai} {sz:Nat} {W W':Wd} {B n c:Nat} {A:ah ak} {xs:List F4} (a:aA f sz W B A n c xs) (q: ∀p:ak,A=some p-> ∀d,W'.cell? (p.block d)=W.cell? (p.block d)):aA f sz W' B A n c xs:=
 ⟨a.1,a.2.1,a.2.2.1,λg=>by
  obtain⟨b,l,e,r,o⟩:=a.2.2.2 g;exact⟨b,l,e,r,λj x m i k h=>(q _ e _).trans (o j x m i k h)⟩⟩
def afX {p:ak} (a:w'.heap[p.block]?=w.heap[p.block]?):w'.cell? p=w.cell? p:=by unfold World.cell?;rw[a]
def lk (T a:Nat) (w w':Wd):Prop:= ∀b,b<a->b≠T->w'.heap[b]?=w.heap[b]?
def lk.below {k:Nat} {v:Wd} (d:lk T k w w') (f:Below B w' v) (g:k<=B):lk T k w v:=λb e a=>(f.block b oy).trans (d b e a)
def lk.grown {k r:Nat} {v:Wd} (a:lk T k w w') (d:w'.grownBy v (some r)) (i:k<=w') (h:k<=r\/r=T):lk T k w v:=λb f g=>(d.block b oy (λe=>by injection e;omega)).trans (a b f g)
def lk.cell {k:Nat} (d:lk T k w w') {p:ak} (a:p.block<k) (b:p.block≠T):w'.cell? p=w.cell? p:=afX (d _ a b)
def lk.alloc {k:Nat} (d:lk T k w w') (b:k<=w') (a:Obj):lk T k w (w'.alloc a):=d.below (aN.alloc ny a) b
def fZ (q:Nat) (A:ah ak) (n:Nat) (ys:List Ar):Prop:=aO q A n/\ ∀a∈ys,aO q a.LA a.Ln
def ahL (ys:List Ar) (fs:List Fo) (w:Wd) (x:Tb) (e:Ending) (w':Wd):Prop:= ∃A n c a f,e= .returned (agg #[slice A n c,int .i64 f])/\bp w' w' A n c a/\(⟨a.map (·.al),f⟩:Tb)=x/\az w w'/\ ∀q,q<w.heap.size->(∀y∈ys,aO q y.LA y.Ln)->(∀f∈fs,aO q f.LA f.Ln)->fZ q A n a
def pz (A:ah ak) (n c:Nat) (ys:List Ar) (j2:Int) (F:ah ak) (m d:Nat) (fs:List Fo) (s4:m<=64) (t wait keep:Int) (w:Wd) (hG:dW w) (g:bp w w A n c ys) (g0:gH w w F m d fs):
 Calls prog 165 #[agg #[slice A n c,j2],slice F m d,t,wait,keep] w (ahL ys fs w (ae.step ⟨ys.map (·.al),j2⟩ (fs.map Fo.val) t wait keep)):=by
 have y9:= @run_makeMap prog;obtain⟨r4,d6,n2⟩:=aM g g0 hG;go_enter func165,ntmps165;go_wp2_with fail
 refine gh λH G u C=>?_;refine zM λL a3 a4 U R=>?_;refine(AK A n c ys j2 u (r4.later L)).mono ?_;rintro e q3 ⟨A',n',c',N,J,rfl,r6,w5,l1⟩;have x':=L.trans (l1.mono L.size);have w3: ∀y∈N,y∈ys:=by obtain⟨rfl,rfl,rfl,rfl⟩|⟨rfl,rfl,rfl,rfl⟩:=r6;{exact λy hy=>hy};exact λy hy=>absurd hy iy
 have s0:=hJ w3;have h7:bp w w A' n' c' N:=by obtain⟨rfl,rfl,rfl,rfl⟩|⟨rfl,rfl,rfl,rfl⟩:=r6;{exact r4};exact bp.none_ _ _
 obtain⟨u3,k7,g3⟩:=aM (R.below l1 a4) (U.below l1 a3) w5;obtain⟨o8,c0⟩:=bE k7.f;obtain⟨b8,c2⟩:=bE k7.a;have g7:=(k7.ay 0 (slice A' n' c')).ay 1 J;have h5:=(u3.aI (p:=an w 0) iy (slice A' n' c')).aI (p:=an w 1) iy J;have e9:az w (q3 (an w 0) (slice A' n' c') (an w 1) J):=(by repeat(first|assumption|exact Below.refl _ _|apply Mem.below_drewN|apply Below.drew|refine Below.alloc ?_ (by first|assumption|omega|(simp;done)|(simp;omega)) _|refine Below.setCell ?_ (by first|assumption|omega|(simp;done)|(simp;omega)) _));have x6:n'<=16:=by have:=(ae.jJ (show ae.ar ⟨N.map (·.al),J⟩=true by rw[g3.o];exact ae.ek _)).1;simp only[length_map]at this;rw[h7.len]at this;exact this
 have t5:0<=J/\J<=():=(ae.jJ (show ae.ar ⟨N.map (·.al),J⟩=true by rw[g3.o];exact ae.ek _)).2.1;have z3:=h7.len;have x3:=h7.cap;have x5:m<=d/\d<= "":=⟨d6.1.2.1,d6.1.2.2.1⟩;have m1:=hJ h7;go_wp2_with fail
 generalize(q3 (an w 0) (slice A' n' c')).setCell (an w 1) J=j6 at g7 h5 e9⊢;refine(VS F m d fs s4 j6 (n2.below e9) (d6.later e9)).mono ?_;rintro e b4 ⟨q2,i3,rfl,e0,i1,m8,r7⟩;obtain⟨l2,p5⟩: ∃j9,j6.heap.size=j9:=⟨_,rfl⟩;have g7:af j6 w 56 #[slice A' n' c',J]:=g7;have s7:=g7.below m8 g7.lt;have t6:=h5.below m8 h5.lt;have y6:w+1<l2:=aR h5.lt;have p':=e9.trans (m8.mono e9.size);have o5:=i1.lt;rw[p5]at i1 o5 r7;simp only[p5];obtain⟨ds,h6⟩: ∃ds,gu fs=ds:=⟨_,rfl⟩;rw[h6]at e0 i1;have s5:ds.1.length<=m:=by have:=Jy fs;rw[h6,(show fs.length=m from d6.o.1.1)]at this;exact this
 have n6:=hJ h6;obtain⟨q,h2⟩: ∃q,ds.1.length=q:=⟨_,rfl⟩;rw[h2]at e0 s5;simp only[h6,h2];have w9:=hJ h2;have y3:q<=i3/\i3<= "":=⟨e0.1.2.1,e0.1.2.2.1⟩;have k2:=s7.alloc (.map #[] 0);have r0:=t6.alloc (.map #[] 0);have r2:=i1.alloc (.map #[] 0);have n1:=OM.made b4 prog 9 Value.string kH;have p3:=p'.alloc p'.size (.map #[] 0);have q4:b4<(b4.alloc (.map #[] 0)).heap.size:=iy;have l0:gH (b4.alloc (.map #[] 0)) b4 q2 q i3 ds.1:=(show gH b4 b4 q2 q i3 ds.1 from e0).below (aN.alloc ny _);obtain⟨b8,c2⟩:=bE k2.a;go_wp2;generalize b4.alloc (.map #[] 0)=m3 at k2 r0 r2 n1 p3 q4 l0 b8 c2⊢;obtain⟨o,q1⟩: ∃j9,b4.heap.size=j9:=⟨_,rfl⟩;rw[q1]at q4 n1 l0 o5;simp only[q1];obtain⟨u6,u2,t9,r5,s2⟩:=de k2 r0 r2 p3 l0;go_loopw[36] (λi wr=> ∃k:Nat,k<=n'/\i=k/\vY wr o ((N.take k).foldl (jP ds.2 t wait keep) [])/\Below o m3 wr) (λi _=>n'- (intOf i).toNat);case atStart=>exact⟨0,oy,rfl,n1,aN⟩
 case round=>obtain⟨k,y7,rfl,b0,f5⟩:=hrel;have j7:=b0.lt;have i8:=r5.trans (f5.mono oy);by_cases f3:k<n';{have v0:decide (k<n'):=decide_eq_true f3;have w7:=(m1.below i8);obtain⟨d',h8,a,l8,g8,k',i2,p1,j0,q9,x9,y2,z5,y'⟩:=w7.at_ f3;have i4:(N.take (k+1)).foldl (jP ds.2 t wait keep) []=jP ds.2 t wait keep ((N.take k).foldl (jP ds.2 t wait keep) []) a:=rR _ _ k';have e7:aa.ar a.al.l:=(kR (pA (show ae.ar ⟨N.map (·.al),J⟩=true by rw[g3.o];exact ae.ek _) (mem_map.2 ⟨a,mem_of_getElem? k',rfl⟩))).1;obtain⟨l,s6⟩: ∃l,(N.take k).foldl (jP ds.2 t wait keep) []=l:=⟨_,rfl⟩;rw[s6]at i4 b0;subst l8;have c1:=hJ i4;have c4:=af.new wr 73 #[slice a.LA a.Ln a.Lc,a.al.h.on,a.al.h.since,a.al.h.hit,a.al.h.cB,a.al.st,a.al.v];have a7:=f5.alloc oy (.cells #[slice a.LA a.Ln a.Lc,a.al.h.on,a.al.h.since,a.al.h.hit,a.al.h.cB,a.al.st,a.al.v] 73);have c3:=b0.alloc (.cells #[slice a.LA a.Ln a.Lc,a.al.h.on,a.al.h.since,a.al.h.hit,a.al.h.cB,a.al.st,a.al.v] 73);obtain⟨key,f2⟩: ∃key,ae.key a.al.l=key:=⟨_,rfl⟩;have j8:=Cx e7;rw[f2]at j8;obtain⟨b1,a',o1,u7⟩:=bJ f2 (Go.WideMaps.keyOf_string_mk (P:=prog) underlying9 (s:=key) (by unfold maxLen;omega)) e7 k';(go_wp2_with fail);generalize wr.alloc (.cells #[slice a.LA a.Ln a.Lc,a.al.h.on,a.al.h.since,a.al.h.hit,a.al.h.cB,a.al.st,a.al.v] 73)=e' at c4 a7 c3⊢;have m7:=r5.trans (a7.mono oy);have o9:=((show aH _ _ _ _ _ _ from i2).below aN);have o9:aH e' e' a.LA a.Ln a.Lc a.al.l:=((show aH _ _ _ _ _ _ from m1.2 a (mem_of_getElem? u7)).below m7).more m7.size;have f8:=c4.lt;refine mB (Dq a.LA a.Ln a.Lc a.al.l o1 key b1 e' (n2.below m7) o9) λa6 a8=>?_;have M:=c4.below a8 f8;have n8:=c3.below a8 c3.lt;have h1:=a7.trans (a8.mono (aR a7.size));obtain⟨B,g6⟩: ∃B,wr.heap.size=B:=⟨_,rfl⟩;rw[g6]at M j7 f8;simp only[g6];have t8:=t9.below h1 o5;have c0:=M.frozen 1;have i9:=M.frozen 2;have h4:=M.frozen 3;have i5:=M.frozen 4;have j4:=M.frozen 5;have i6:=M.frozen 6;obtain⟨b8,c2,g9,p7,p8,o',p4⟩:=qn M.a;obtain⟨g4,O,d0,h'⟩:=bJ M n8 h1 t8;have x1:=g4.lt;obtain⟨x,k1⟩: ∃x,Om.get key ds.2=x:=⟨_,rfl⟩;have X:=hJ k1;obtain _|f:=x;{(go_wp2_with(at_lookup;refine wC _ rfl _ _ 298 rfl 9 304 (Maps.string_keyed underlying9) underlying298 (agg #[(),"",""]) (zeroValue304 _) Value.string rn (λx y g=>by injection g) l2 ds.2 rfl h' key rfl _ a' X ?_));have b7:=g4.alloc (.cells #[(),"",""] 304);have c7:=af.new a6 304 #[(),"",""];have a5:=O.alloc (.cells #[(),"",""] 304);have b9:=d0.alloc oy (.cells #[(),"",""] 304);obtain⟨x,c8⟩: ∃x,bm.step a.al.h false t wait keep=x:=⟨_,rfl⟩;(have n3:B≠a6:=by omega);generalize a6.alloc (.cells #[(),"",""] 304)=f4 at b7 c7 a5 b9⊢;obtain⟨u9,f7⟩: ∃b,a6.heap.size=b:=⟨_,rfl⟩;rw[f7]at c7 n3;simp only[f7];refine(Bi a.al.h.on a.al.h.since a.al.h.hit a.al.h.cB false t wait keep x c8 f4).mono ?_;rintro e b' ⟨r,E,z,D,Y,rfl,e8,a2⟩;subst e8;refine PH λI g5 b6 b2 d3 c0 i9 h4 i5 j4 i6=>?_;obtain⟨b8,c2,g9,p7,p8,o',p4⟩:=qn I.a;have u':=dp g5;(go_wp2_with(at_mapUpdate;have d1:b'.grownBy (b' (B 1) r (B 2) E (B 3) z (B 4) D (B 5) Y) (some B):=kC (kC (kC (kC (kC (mK _ _) 1 _) 2 _) 3 _) 4 _) 5 _;have e3:af _ B 73 #[slice a.LA a.Ln a.Lc,r,E,z,D,Y,a.al.v]:=((((I.ay 1 r).ay 2 E).ay 3 z).ay 4 D).ay 5 Y;generalize(b' (B 1) r (B 2) E (B 3) z (B 4) D).setCell (B 5) Y=v6 at d1 e3⊢;have g1:some o≠some B:=(by intro e;injection e;omega);have g2:=b6.kept d1 g1;have f9:=b2.grown d1 (by have:=b2.size;have:=b6.lt;omega) (λq e=>by injection e with e;omega);refine rE _ rfl _ _ _ 301 rfl 9 73 (Maps.string_keyed underlying9) underlying301 Value.string kH (λx y g=>by injection g) o l rfl g2 key rfl _ a' ⟨a.LA,a.Ln,a.Lc,⟨a.al.l,⟨r,E,z,D⟩,Y,a.al.v⟩⟩ rfl ?_;intro k5 f' a9 h9;have p0:=f9.grown a9 (by have:=f9.size;have:=g2.lt;omega) (λq e=>by injection e with e;omega);have b5:=e3.grown a9 (λe=>g1 e.symm);have k8:=b5.cell 1;have o3:=b5.cell 2;have l6:=b5.cell 3;have n7:=b5.cell 4;simp only[getElem?_toArray,getElem?_cons_zero,getElem?_cons_succ]at k8 o3 l6 n7;clear h9));refine SO λb h3 d4 j3 d9 i0 m0 e4 e1 j1 m6 f0 d5=>?_;obtain _|_:=b;{have V:=hJ (c1.trans (Kr b1 X d3));exact Sf};have V:=hJ (c1.trans (Kr b1 X d3));exact Qf};(go_wp2_with(at_lookup;refine AG _ rfl _ _ 298 rfl 9 304 (Maps.string_keyed underlying9) underlying298 (agg #[(),"",""]) (zeroValue304 _) Value.string rn (λx y g=>by injection g) l2 ds.2 rfl h' key rfl _ a' f X ?_));have b7:=g4.alloc (.cells #[slice f.LA f.Ln f.Lc,f.x.1,f.x.2] 304);have c7:=af.new a6 304 #[slice f.LA f.Ln f.Lc,f.x.1,f.x.2];have a5:=O.alloc (.cells #[slice f.LA f.Ln f.Lc,f.x.1,f.x.2] 304);have b9:=d0.alloc oy (.cells #[slice f.LA f.Ln f.Lc,f.x.1,f.x.2] 304);obtain⟨x,c8⟩: ∃x,bm.step a.al.h true t wait keep=x:=⟨_,rfl⟩;(have n3:B≠a6:=by omega);generalize a6.alloc (.cells #[slice f.LA f.Ln f.Lc,f.x.1,f.x.2] 304)=f4 at b7 c7 a5 b9⊢;obtain⟨u9,f7⟩: ∃b,a6.heap.size=b:=⟨_,rfl⟩;rw[f7]at c7 n3;simp only[f7];refine(Bi a.al.h.on a.al.h.since a.al.h.hit a.al.h.cB true t wait keep x c8 f4).mono ?_;rintro e b' ⟨r,E,z,D,Y,rfl,e8,a2⟩;subst e8;refine PH λI g5 b6 b2 d3 c0 i9 h4 i5 j4 i6=>?_;obtain⟨b8,c2,g9,p7,p8,o',p4⟩:=qn I.a;have u':=dp g5;(go_wp2_with(at_mapUpdate;have d1:b'.grownBy (b' (B 1) r (B 2) E (B 3) z (B 4) D (B 5) Y (B 6) f.x.2) (some B):=kC (kC (kC (kC (kC (kC (mK _ _) 1 _) 2 _) 3 _) 4 _) 5 _) 6 _;have e3:af _ B 73 #[slice a.LA a.Ln a.Lc,r,E,z,D,Y,f.x.2]:=(((((I.ay 1 r).ay 2 E).ay 3 z).ay 4 D).ay 5 Y).ay 6 f.x.2;generalize(b' (B 1) r (B 2) E (B 3) z (B 4) D (B 5) Y).setCell (B 6) f.x.2=v6 at d1 e3⊢;have g1:some o≠some B:=(by intro e;injection e;omega);have g2:=b6.kept d1 g1;have f9:=b2.grown d1 (by have:=b2.size;have:=b6.lt;omega) (λq e=>by injection e with e;omega);refine rE _ rfl _ _ _ 301 rfl 9 73 (Maps.string_keyed underlying9) underlying301 Value.string kH (λx y g=>by injection g) o l rfl g2 key rfl _ a' ⟨a.LA,a.Ln,a.Lc,⟨a.al.l,⟨r,E,z,D⟩,Y,f.x.2⟩⟩ rfl ?_;intro k5 f' a9 h9;have p0:=f9.grown a9 (by have:=f9.size;have:=g2.lt;omega) (λq e=>by injection e with e;omega);have b5:=e3.grown a9 (λe=>g1 e.symm);have k8:=b5.cell 1;have o3:=b5.cell 2;have l6:=b5.cell 3;have n7:=b5.cell 4;simp only[getElem?_toArray,getElem?_cons_zero,getElem?_cons_succ]at k8 o3 l6 n7;clear h9));refine SO λb h3 d4 j3 d9 i0 m0 e4 e1 j1 m6 f0 d5=>?_;obtain _|_:=b;{have V:=hJ (c1.trans (JT b1 X d3));exact Sf};have V:=hJ (c1.trans (JT b1 X d3));exact Qf};obtain rfl:k=n':=oy;have v0:decide (k<k)=false:=decide_eq_false oy;rw[take_of_length_le oy]at b0;have r8:=u6.below f5 oy;have e5:=u2.below f5 oy;have m9:lk w o m3 wr:=λb s3 _=>f5.block b s3;obtain⟨d8,q5⟩: ∃d8,vh ds.2 t wait keep N=d8:=⟨_,rfl⟩;(have b0:vY wr o d8:=by rw[<-q5];exact b0);have w1:=hJ q5;go_wp2;go_loopw[79] (λi f1=> ∃ (j:Nat) (s:ML×Int),j<=q/\i=j/\(ds.1.take j).foldl (jo t wait keep) (d8,J)=s/\vY f1 o s.1/\af f1 w 56 #[slice A' k c',s.2]/\af f1 (w+1) 56 #[(),""]/\lk w o m3 f1/\az w f1/\0<=s.2/\s.2<=()) (λi _=>q- (intOf i).toNat);(case atStart=>exact⟨0,(d8,J),oy,rfl,rfl,b0,r8,e5,m9,i8,t5⟩);case round=>obtain⟨j,s,z1,rfl,l4,b0,v7,q7,m9,i8,g'⟩:=hrel;have j7:=b0.lt;obtain⟨r3,l7,l3,i',l5⟩:=de b0 v7 q7 m9 i8;have u5:=q7.lt;by_cases f3:j<q;{have t7:decide (j<q):=decide_eq_true f3;obtain⟨d',h8,f,l8,g8,o2,i2,p1,j0,q9⟩:=s2.at_ f3;subst l8;(have n5:d'≠w:=by have:=r7 _ rfl;simp only at this;omega);have y8:=(i'.cell (p:=d' (h8+j*3)) g8 n5).trans p1;have x7:=(i'.cell (p:=d' (h8+j*3+1)) g8 n5).trans j0;have x2:=(i'.cell (p:=d' (h8+j*3+2)) g8 n5).trans q9;(have i4:(ds.1.take (j+1)).foldl (jo t wait keep) (d8,J)=jo t wait keep s f:=by rw[<-l4];exact rR _ _ o2);(have w4:f∈fs:=by have:=(Cc fs).1 f;rw[n6.o]at this;exact this (mem_of_getElem? o2));(have e7:aa.ar f.ls:=by refine Ju (fs.map Fo.val) f.val ?_;rw[Js,n6.o];exact mem_map.2 ⟨f,mem_of_getElem? o2,rfl⟩);obtain⟨l,Z⟩:=s;simp only at g';have c1:=hJ i4;have c4:=af.new wr 304 #[slice f.LA f.Ln f.Lc,f.x.1,f.x.2];have a7:=l5.alloc l5.size (.cells #[slice f.LA f.Ln f.Lc,f.x.1,f.x.2] 304);have c3:=r3.alloc (.cells #[slice f.LA f.Ln f.Lc,f.x.1,f.x.2] 304);have k4:=l7.alloc (.cells #[slice f.LA f.Ln f.Lc,f.x.1,f.x.2] 304);have f6:=l3.alloc (.cells #[slice f.LA f.Ln f.Lc,f.x.1,f.x.2] 304);have r1:=i'.alloc oy (.cells #[slice f.LA f.Ln f.Lc,f.x.1,f.x.2] 304);obtain⟨key,f2⟩: ∃key,ae.key f.ls=key:=⟨_,rfl⟩;have j8:=Cx e7;rw[f2]at j8;obtain⟨b1,a',o1,h'⟩:=bJ f2 (Go.WideMaps.keyOf_string_mk (P:=prog) underlying9 (s:=key) (by unfold maxLen;omega)) e7 w4;(go_wp2_with fail);generalize wr.alloc (.cells #[slice f.LA f.Ln f.Lc,f.x.1,f.x.2] 304)=e' at c4 a7 c3 k4 f6 r1⊢;have f8:=c4.lt;refine mB (Dq f.LA f.Ln f.Lc f.ls o1 key b1 e' (n2.below a7) ((show aH _ _ _ _ _ _ from d6.2 f h').later a7)) λa6 a8=>?_;obtain⟨B,g6⟩: ∃B,wr.heap.size=B:=⟨_,rfl⟩;have M:=c4.below a8 f8;have n8:=c3.below a8 c3.lt;have j5:=k4.below a8 k4.lt;have v4:=f6.below a8 f6.lt;have w0:=r1.below a8 oy;have h1:=a7.trans (a8.mono a7.size);rw[g6]at M j7 f8 u5;simp only[g6];have x1:=M.lt;have x4:=j5.lt;obtain⟨g4,O,m',o7,k6,d0⟩:=dN M n8 j5 v4 w0 h1;obtain⟨o8,c0⟩:=bE M.f;obtain⟨b8,c2,g9⟩:=bi M.a;have y0:=bL j5;have z2:=j5.frozen 1;obtain⟨x,k1⟩: ∃x,Om.get key l=x:=⟨_,rfl⟩;have X:=hJ k1;obtain _|y:=x;{by_cases q0:16<=l.length;{have v5:decide ((16:Int)<=l.length):=decide_eq_true oy;have V:=hJ (c1.trans (Yw b1 X q0));(go_wp2_with(first|(at_lookup;refine wC _ rfl _ _ 301 rfl 9 73 (Maps.string_keyed underlying9) underlying301 (agg #[(),false,"",false,"","",""]) (zeroValue73 _) Value.string kH (λx y g=>by injection g) o l rfl O key rfl _ a' X ?_)|(at_len;refine FZ _ rfl _ 301 rfl 9 73 underlying301 Value.string kH o l rfl (O.alloc _) ?_)));go_roundw;(case rel=>refine⟨j+1,(l,min (Z+1) ()),oy,bh,V,(O.setCell (a:=(an w 1)) (by simp;omega) _).alloc _,?_,(o7.aI (p:=an w 1) iy _).alloc _,?_,(by repeat(first|assumption|exact Below.refl _ _|apply Mem.below_drewN|apply Below.drew|refine Below.alloc ?_ (by first|assumption|omega|(simp;done)|(simp;omega)) _|refine Below.setCell ?_ (by first|assumption|omega|(simp;done)|(simp;omega)) _)),by simp only;omega,by simp only;omega⟩;{exact(m'.ay 1 _).alloc _};exact(k6.grown (kC (mK _ _) 1 _) (aR O.o.lt) (.inr rfl)).alloc (by have:=O.lt;simp;omega) _);case measure=>exact cn};have v5:decide ((16:Int)<=l.length)=false:=decide_eq_false oy;(go_wp2_with(first|(at_lookup;refine wC _ rfl _ _ 301 rfl 9 73 (Maps.string_keyed underlying9) underlying301 (agg #[(),false,"",false,"","",""]) (zeroValue73 _) Value.string kH (λx y g=>by injection g) o l rfl O key rfl _ a' X ?_)|(at_len;refine FZ _ rfl _ 301 rfl 9 73 underlying301 Value.string kH o l rfl (O.alloc _) ?_)));have b7:=g4.alloc (.cells #[(),false,"",false,"","",""] 73);have a5:=O.alloc (.cells #[(),false,"",false,"","",""] 73);have n9:=m'.alloc (.cells #[(),false,"",false,"","",""] 73);have k3:=o7.alloc (.cells #[(),false,"",false,"","",""] 73);have p2:=k6.alloc oy (.cells #[(),false,"",false,"","",""] 73);have b9:=d0.alloc d0.size (.cells #[(),false,"",false,"","",""] 73);generalize a6.alloc (.cells #[(),false,"",false,"","",""] 73)=f4 at b7 a5 n9 k3 p2 b9⊢;obtain⟨x,c8⟩: ∃x,bm.step bm.zero true t wait keep=x:=⟨_,rfl⟩;refine(Bi false 0 false 0 true t wait keep x c8 f4).mono ?_;rintro e b' ⟨r,E,z,D,Y,rfl,e8,a2⟩;subst e8;have I:=b7.below a2 b7.lt;have b6:=a5.below a2 a5.lt;have w':=n9.below a2 n9.lt;have v3:=k3.below a2 k3.lt;have t1:=p2.below a2 (aR a5.lt);have b2:=b9.trans (a2.mono b9.size);obtain⟨V,y5,k0,t2,v1,s9,m5⟩:=jx (c1.trans (ZX b1 X q0 c8)) I b6 w' v3 t1 b2;obtain⟨o8,c0⟩:=bE I.f;obtain⟨b8,c2,g9⟩:=bi I.a;have z0:=I.lt;(go_wp2_with(at_mapUpdate;refine rE _ rfl _ _ _ 301 rfl 9 73 (Maps.string_keyed underlying9) underlying301 Value.string kH (λx y g=>by injection g) o l rfl (k0.alloc _) key rfl _ a' ⟨f.LA,f.Ln,f.Lc,⟨f.ls,⟨r,E,z,D⟩,Y,f.x.2⟩⟩ rfl ?_;intro k5 f' a9 h9));obtain⟨s',u0,s1,t0,d9⟩:=de f' ((t2.alloc (.cells #[r,E,z,D] 71)).grown a9 (by intro e;injection e;omega)) ((v1.alloc (.cells #[r,E,z,D] 71)).grown a9 (by intro e;injection e;omega)) ((s9.alloc (aR k0.o.lt) (.cells #[r,E,z,D] 71)).grown a9 (by have:=k0.lt;simp;omega) (.inl ny)) ((m5.alloc m5.size (.cells #[r,E,z,D] 71)).grown a9 (by have:=m5.size;simp;omega) (λq e=>by injection e with e;omega));go_wp2;go_roundw;(case rel=>exact⟨j+1,(_,Z),oy,bh,V,s',u0,s1,t0,d9,g'⟩);case measure=>exact cn};have V:=hJ (c1.trans (acW b1 X));(go_wp2_with(at_lookup;refine AG _ rfl _ _ 301 rfl 9 73 (Maps.string_keyed underlying9) underlying301 (agg #[(),false,"",false,"","",""]) (zeroValue73 _) Value.string kH (λx y g=>by injection g) o l rfl O key rfl _ a' y X ?_));go_roundw;(case rel=>exact⟨j+1,(l,Z),oy,bh,V,O.alloc _,m'.alloc _,o7.alloc _,k6.alloc (aR O.o.lt) _,d0.alloc d0.size _,g'⟩);case measure=>exact cn};obtain rfl:j=q:=oy;have t7:decide (j<j)=false:=decide_eq_false oy;rw[take_of_length_le (by rw[w9.o];omega)]at l4;obtain⟨l,Z⟩:=s;simp only at g';(have w8:ae.stepG N J fs t wait keep=(l,Z):=by unfold ae.stepG vm;rw[n6.o,w1.o];exact l4);(have x0:ae.ar ⟨N.map (·.al),J⟩:=by rw[g3.o];exact ae.ek _);have n4:=ZY N J fs t wait keep;have l9:=Jq x0 (fs.map Fo.val) t wait keep;have j':=Zf N J fs t wait keep;rw[w8]at n4 j';rw[n4]at l9;(have v2:l.length<=16:=by have:=l9.2.1;simp only[fU,agU]at this;exact this);(have i2: ∀p∈l,eE w w p.2:=by intro p b3;obtain⟨y,hy,d2,c5,e6,e2⟩|⟨f,g0,d2,c5,e6,e2⟩:=j' p b3;{unfold eE;rw[d2,c5,e6,e2];exact m1.2 y hy};unfold eE;rw[d2,c5,e6,e2];exact d6.2 f g0);(have u4: ∀q,(∀y∈ys,aO q y.LA y.Ln)->(∀f∈fs,aO q f.LA f.Ln)-> ∀p∈l,aO q p.2.LA p.2.Ln:=by intro q o4 l' p b3;obtain⟨y,hy,d2,c5,e6,e2⟩|⟨f,g0,d2,c5,e6,e2⟩:=j' p b3;{rw[d2,c5];exact o4 y (s0 y hy)};rw[d2,c5];exact l' f g0);have w2:=hJ u4;obtain⟨r',p9⟩:=aq (aaT l9.1) i2;(have u1:ae.step ⟨ys.map (·.al),j2⟩ (fs.map Fo.val) t wait keep=⟨(dM fu (l.map (·.2))).map (·.al),Z⟩:=by unfold ae.step;rw[<-g3.o,n4,Wg]);have r9:=hJ u1;have s8:=bL l7;have y4:=hJ s8;go_wp2;refine wp_region_held_drew (S:=λW'=>vY W' o l/\af W' w 56 #[slice A' k c',Z]/\az w W') ry ⟨r3,l7,l5.drew⟩ (λhH=>?_);refine tk 0 ?_;refine tk 2 ?_;refine tk 3 ?_ (hy:=by intro wq hSw;have j0:=hSw.2.1.cell 1;simp at j0;exact bM);refine aV 1 λK i7=>?_;go_simp;have y1:=l3.o;have n0:af wr.drew (w+1) 56 #[(),""]:=l3;have x8:=hH;refine(aaq o l _ hH.1 (λp b3=>(show aH _ _ _ _ _ _ from p9 p b3).later hH.2.2) v2 r').mono ?_;rintro e k9 ⟨c9,d7,c6,p6,rfl,w6,t4,h0,v9⟩;show K _ _;have q':=hH.2.2.trans (h0.mono hH.2.2.size);have e5:=n0.below h0 n0.lt;obtain⟨t3,m2,q6⟩:=aM w6 t4 q';(have t': ∀p:ak,c9=some p->w+1<p.block:=λp e=>by have:=v9 p e;have:=n0.lt;omega);have q8:=hJ t';refine be i7 ⟨hH.1.below h0 hH.1.lt,hH.2.1.below h0 hH.2.1.lt,q'⟩ λhH=>?_;obtain⟨o8,c0⟩:=bE e5.f;obtain⟨b8,c2⟩:=bE e5.a;refine tk 4 ?_;refine aV 5 λK i7=>?_;go_simp;show K _ _;have f6:=(e5.ay 0 (slice c9 d7 c6)).ay 1 Z;have m4:az w (k9 (an (w+1) 0) (slice c9 d7 c6) (an (w+1) 1) Z):=(q6.setCell (p:=an (w+1) 0) iy _).setCell (p:=an (w+1) 1) iy _;(have v':bp (k9 (an (w+1) 0) (slice c9 d7 c6) (an (w+1) 1) Z) k9 c9 d7 c6 p6:=by refine⟨t3.1.ahd (λp e z4=>?_),λa o0=>?_⟩;{have:=q8 p e;rw[World.cell?_setCell_other _ _ _ _ (by intro e;injection e;omega),World.cell?_setCell_other _ _ _ _ (by intro e;injection e;omega)]};have o6:a∈l.map (·.2):=(jf fu _).mem_iff.1 (by rw[<-m2.o];exact o0);obtain⟨p,b3,rfl⟩:=mem_map.1 o6;exact((show aH _ _ _ _ _ _ from p9 p b3).below m4).more q6.size);refine be i7 ⟨?_,?_,m4⟩ λhH=>?_;{exact(hH.1.setCell (a:=(an (w+1) 0)) (by simp;omega) _).setCell (a:=(an (w+1) 1)) (by simp;omega) _};{exact(hH.2.1.aI (p:=an (w+1) 0) iy _).aI (p:=an (w+1) 1) iy _};clear i7 K;refine dj ?_;obtain⟨v8,u8⟩:=bE f6.a;go_wp2;refine bodyPost_ret (v:=agg #[slice c9 d7 c6,Z]) (by simp[results,results165,go_sem,v8,u8]) rfl ⟨c9,d7,c6,p6,Z,rfl,v'.more iy,by rw[r9.o,<-m2.o],m4,λq h2 o4 l'=>⟨λ_ p e=>aR (q8.o p e),λa o0=>by have o6:a∈l.map (·.2):=(jf fu _).mem_iff.1 (by rw[<-m2.o];exact o0);obtain⟨p,b3,rfl⟩:=mem_map.1 o6;exact w2 q o4 l' p b3⟩⟩
namespace ap
def place (es:List E) (l:List Pr):Nat:=(es.takeWhile λe=>decide (aa.cmpL (aa.aD e.1) l<0)).length
def js (es:List E) (l:List Pr) (x:Int×Int):List E×Int:=
 if named l=true then yj (aD es) l x (place (aD es) (aa.aD l))else(aD es,7)
def Yj {es:List E} {l:List Pr} {p:Nat} (a:nL es l p):p=place es l:=by unfold place;have f:=a.lo;have d:=a.hi;have c:=a.le;clear a;induction es generalizing p with|nil=>(simp at c;simp[c])|cons e es ih=>(rw[takeWhile_cons];cases p with|zero=>(have b:=d 0 ny iy;rw[if_neg];{rfl};intro g;simp only[decide_eq_true_eq]at g;apply b;rw[og (show(e::es)[0]?=some e from rfl)];exact Si)|succ p=>(have b:=f 0 (Nat.succ_pos _);rw[og (show(e::es)[0]?=some e from rfl)]at b;rw[if_pos];{rw[length_cons];congr 1;refine ih (λk i=>?_) (λk i j=>?_) (by simp at c;omega);{have:=f (k+1) oy;exact this};have:=d (k+1) oy uy;exact this};simp only[decide_eq_true_eq];exact Si))
theorem LY {es:List E} {l:List Pr} {r:List E×Int} (a:oG es l x r):r=js es l x:=by unfold oG at a;unfold js;split at a;{rename_i c;obtain⟨p,b,rfl⟩:=a;rw[if_pos c,Yj b]};grind
end ap
namespace Ev
open aa (Pr)
def sO:au:=⟨#[97,108,101,114,116,110,97,109,101]⟩
def Dz:au:=⟨#[97,108,101,114,116,115,116,97,116,101]⟩
def nu:au:=⟨#[65,76,69,82,84,83]⟩
def Lb:au:=⟨#[112,101,110,100,105,110,103]⟩
def MH:au:=⟨#[102,105,114,105,110,103]⟩
def sC (st:Int):au:=if st=1 then Lb else if st=2 then MH else⟨#[]⟩
def pK (nm:au) (a l:List Pr):List Pr×Bool:=
 if(aa.merge (lD l gd) a).2≠0 then([],false)
 else if(aa.merge (aa.merge (lD l gd) a).1 [(sO,nm)]).2≠0 then([],false)
 else((aa.merge (aa.merge (lD l gd) a).1 [(sO,nm)]).1,true)
def tM (a b:List Pr):Bool:=decide (aa.cmpL (aa.aD a) (aa.aD b)=0)
def la (a:List ap.F) (l:List Pr):Bool:=a.any λf=>tM f.1 l
def kY (r:Ru) (out:List ap.F) (f:ap.F):List ap.F:=
 if bF.holds r.op f.2.2 r.v=false then out
 else if(pK r.nm r.ls f.1).2=true/\la out (pK r.nm r.ls f.1).1=false then out++[((pK r.nm r.ls f.1).1,f.2)]else out
def oO (es:List ap.E) (r:Ru) (t:Int):List ap.F:=
 if gz r=true then(oT (ap.aD es) r.sn r.ms t 300000).foldl (kY r) []else[]
def written (a:Al):List Pr×Int:=
 if(qS a.l gd nu).2≠0 then([],(qS a.l gd nu).2)else qS (qS a.l gd nu).1 Dz (sC a.st)
def lK (t:Int) (s:List ap.E×Int) (a:Al):List ap.E×Int:=
 if(written a).2≠0 then(s.1,s.2+1)
 else if(js s.1 (written a).1 (t,1000)).2≠0 then(s.1,s.2+1)else((js s.1 (written a).1 (t,1000)).1,s.2)
def write (es:List ap.E) (x:Tb) (t:Int):List ap.E×Int:=(gr x).foldl (lK t) (ap.aD es,0)
def uP (bw:List Tb) (t:Int) (s:List ap.E×List Tb×Int) (i:Nat) (r:Ru):List ap.E×List Tb×Int:=
 let x:=ae.step ((bw[i]?).getD ae.zero) (oO s.1 r t) t r.fo r.ke
 ((write s.1 x t).1,s.2.1++[x],s.2.2+(write s.1 x t).2)
def ix (rs:List Ru) (bw:List Tb) (t:Int) (s:List ap.E×List Tb×Int):Nat->List ap.E×List Tb×Int
 |0=>s
 |k+1=>match rs[k]? with
  |none=>ix rs bw t s k
  |some r=>uP bw t (ix rs bw t s k) k r
def group (es:List ap.E) (rs:List Ru) (bw:List Tb) (t:Int):List ap.E×List Tb×Int:=ix rs bw t (ap.aD es,[],0) rs.length
theorem UZ (a:List ap.F) (f:ap.F) (l:List Pr):la (a++[f]) l=(la a l||tM f.1 l):=by unfold la;simp
theorem abT {a:List ap.F} {k:Nat} {f:ap.F} (b:a[k]?=some f) {l:List Pr} (c:tM f.1 l):la a l:=by grind[la]
theorem XS {a:List ap.F} {k:Nat} {f:ap.F} (b:a[k]?=some f) (l:List Pr):la (a.take (k+1)) l=(la (a.take k) l||tM f.1 l):=by grind[take_add_one,UZ]
end Ev
def WI (st:Int):(sC st).size<= "":=by unfold sC;split;{decide};split<;>decide
def rc (w:Wd):Prop:= ∃t fr,w.heap[3]?=some (.cells #["s",Lb,MH] t fr)
def rc.below (a:rc w) (b:az w w'):rc w':=by obtain⟨t,fr,a⟩:=a;exact⟨t,fr,(b.block _ (gm.1 a).1).trans a⟩
def agh (w:Wd) (a b:au) (f:a.size<= "") (h:b.size<= ""):aH (w.alloc (.cells #[a,b] 69)) (w.alloc (.cells #[a,b] 69)).heap.size (some (an w 0)) 1 1 [(a,b)]:=by refine⟨⟨rfl,ny,oy,λ_=>⟨w,0,rfl,iy,?_⟩⟩,λp g=>by rw[fS.1 g];exact⟨f,h⟩⟩;intro j x d i k c;have e:=af.new w 69 #[a,b];match j,d with|0,d=>(simp at d;subst d;match i,c with|0,c=>exact(e.cell 0).trans c|1,c=>exact(e.cell 1).trans c)
def acU (r:Ru) (g:ah ak) (n c:Nat) (xs:List Pr) (w:Wd) (F:ev w w r) (a:aH w w g n c xs):
 Calls prog 212 #[agg (ic r),slice g n c] w λe w'=> ∃A' n' c',e= .returned (tuple #[slice A' n' c',(pK r.nm r.ls xs).2])/\aH w' w' A' n' c' (pK r.nm r.ls xs).1/\az w w'/\ ∀p:ak,A'=some p->w<=p.block:=by
 obtain⟨R,z⟩:=aq a F;clear a F;obtain⟨m1,i⟩:=xR (aa.merge (lD xs gd) r.ls);obtain⟨m2,u⟩:=xR (aa.merge m1.1 [(sO,r.nm)]);obtain⟨t,O,G⟩:=aM (show pK r.nm r.ls xs=if m1.2≠0 then([],false)else if m2.2≠0 then([],false)else(m2.1,true)by unfold pK;rw[i,u]) i u;clear i u;go_enter func212,ntmps212;go_wp2_with fail
 refine yB λa3 y m a6=>?_;refine cO λhH=>?_;refine tg [0,2,3] (λ_ s=>bC s (kJ y)) ?_;refine aV 1 λK o=>?_;go_simp;refine(Ii g n c xs gd _ ((R.later m).later hH)).mono ?_;rintro e a7 ⟨v,rfl,A,j⟩;obtain⟨a1,c5,rfl,B⟩:=Dd A (Bc (f:=λp=>!(p.1.toList==gd.toList)) (aa.ek xs)).2;have Y:=hJ B;clear A B;refine qT λhH=>?_;refine aV 4 λK o=>?_;go_simp;have C:=bU m hH;refine(Lg a1 _ c5 (lD xs gd) r.LA r.Ln r.Lc r.ls m1 O _ Y (z.2.1.later C)).mono ?_;rintro e H ⟨Q,J,c6,rfl,D,V,-⟩;have Z:=hJ D;clear D C;show K _ _;refine be o (bU hH V) λhH=>?_;refine te [5,6,7,8,9] ?_;have l:=bU m hH;have N:=bC hH (y.cell 0);simp at N;by_cases d:m1.2=0;{have S:=agh H sO r.nm dy z.2.2.1;have x:=l.alloc l.size (.cells #[sO,r.nm] 69);have X:=Z.later (aN.alloc ny (.cells #[sO,r.nm] 69));(go_wp2_with fail);refine(Lg Q J c6 m1.1 _ _ _ _ m2 G _ X S).mono ?_;rintro e a2 ⟨I,U,L,rfl,a0,M,W⟩;have E:=bU x M;by_cases q:m2.2=0;{have b:=hJ (t.trans ((aG (λa=>a d)).trans (aG (λa=>a q))));go_wp2;go_ret2;exact⟨I,U,L,by rw[b.o];rfl,by rw[b.o];exact a0,E,λp e=>cK x.size (W p e)⟩};(have a4:(m2.2 !=0):=by simp[q]);have b:=hJ (t.trans ((aG (λa=>a d)).trans (aK q)));go_wp2;go_ret2;exact⟨none,0,0,by rw[b.o];rfl,by rw[b.o];exact aH.none_ _ _,E,λp e=>by cases e⟩};(have a5:(m1.2 !=0):=by simp[d]);have b:=hJ (t.trans (aK d));go_wp2;go_ret2;exact⟨none,0,0,by rw[b.o];rfl,by rw[b.o];exact aH.none_ _ _,l,λp e=>by cases e⟩
def adU (u:ah ak) (n c:Nat) (e:List Fo) (B:ah ak) (m d:Nat) (l:List Pr) (b:Bool) (a:la (e.map Fo.val) l=b) (w:Wd) (h:gH w w u n c e) (g:aH w w B m d l):
 Calls prog 213 #[slice u n c,slice B m d] w (bO w b):=by
 have S:=h.1.1;have V:n<=c/\c<= "":=⟨h.1.2.1,h.1.2.2.1⟩;obtain⟨x,F,z⟩:=aM h g a;clear h g a;go_enter func213,ntmps213;go_wp2;go_loopw[9] (λi wr=> ∃k:Nat,k<=n/\i=k/\la ((e.map Fo.val).take k) l=false/\az w wr) (λi _=>n- (intOf i).toNat);case atStart=>exact⟨0,oy,rfl,rfl,aN⟩
 case round=>obtain⟨k,W,rfl,v,a⟩:=hrel;by_cases G:k<n;{obtain⟨P,U,f,I,O,p,M,R,Q,T⟩:=(x.below a).at_ G;subst I;(have s:(e.map Fo.val)[k]?=some f.val:=by rw[dw,p];rfl);have t:=(XS s l);rw[v,Bool.false_or]at t;have q:=a.alloc a.size (.cells (mU f) 304);have L:=x.2 f (cz p);obtain⟨r,o⟩:=xR (aa.cmpL (aa.aD f.ls) (aa.aD l));obtain⟨E,A,C⟩:=aM o (show la ((e.map Fo.val).take (k+1)) l=decide (r=0)by rw[t];unfold tM;rw[<-o];rfl) (show r=0->la (e.map Fo.val) l=true from λj=>abT s (by unfold tM;rw[show f.val.1=f.ls from rfl,o,j];rfl));clear t p M o s;(go_wp2_with fail);refine mB (oj f.LA f.Ln f.Lc f.ls B m d l r E _ (L.later q) (F.later q)) λN D=>?_;have y:=bU q D;by_cases j:r=0;{have H:=hJ (z.symm.trans (C j));go_wp2;go_ret;exact⟨by rw[H.o];rfl,y⟩};have K:decide (r=0)=false:=bj j;go_wp2;go_roundw;(case rel=>exact⟨k+1,oy,bh,by rw[A.o];exact K,y⟩);case measure=>exact cn};obtain rfl:k=n:=oy;have J:=hJ (show b=false by rw[<-z.o,<-v,dE (by rw[cC];omega)]);go_wp2;go_ret;exact⟨by rw[J.o];rfl,a⟩
def Gp (A:ah ak) (n c:Nat) (ses:List Se) (w:Wd) (a:cU w w A n c ses):
 Calls prog 164 #[slice A n c] w λe w'=> ∃A' n' c' i,e= .returned (slice A' n' c')/\cU w' w' A' n' c' i/\i.map Se.val=ap.aD (ses.map Se.val)/\(ap.ar (ses.map Se.val)->A'=A/\n'=n/\c'=c/\i=ses)/\az w w':=by
 have g:=hJ a;obtain⟨b,j⟩:=xR (ap.ar (ses.map Se.val));have d:=hJ j;clear a j;go_enter func164,ntmps164;go_wp2_with fail
 refine mB (Bl A n c ses b d w g) λk f=>?_;obtain _|_:=b;{exact PU};exact Oi
def YD (a:Ar) (I:0<=a.al.st/\a.al.st<=2) (m:List Pr×Int) (l:Ev.written a.al=m) (w:Wd) (j:rc w) (b:eE w w a):
 Calls prog 214 #[agg (kL a)] w (yl w m):=by
 have C:=hJ (show aH w w a.LA a.Ln a.Lc a.al.l from b);obtain⟨m1,g⟩:=xR (qS a.al.l gd nu);obtain⟨m2,i⟩:=xR (qS m1.1 Dz (sC a.al.st));obtain⟨o,B,s,r⟩:=bJ (show m=if m1.2≠0 then([],m1.2)else m2 by rw[<-l];unfold Ev.written;rw[g,i]) g i j;clear g i b l j;go_enter func214,ntmps214;go_wp2_with fail
 refine yB λy z n K=>?_;refine(Mb a.LA a.Ln a.Lc a.al.l gd nu dy dy m1 B y (C.later n)).mono ?_;rintro e h ⟨F,x,c2,rfl,D,k,-⟩;have d:=bU n k;have t:=bC k (z.cell 5);simp at t;by_cases f:m1.2=0;{have c:=hJ (o.trans (aG (λb=>b f)));obtain⟨tg,fr,v⟩:=r.below d;(have H:h.cell? (an 3 a.al.st.toNat)=(sC a.al.st:ai):=by rw[cell_of_row h _ _ _ tg fr v];obtain b|b|b:a.al.st=0\/a.al.st=1\/a.al.st=2:=oy;{rw[b];rfl};{rw[b];rfl};rw[b];rfl);(go_wp2_with fail);refine(Mb F x c2 m1.1 Dz (sC a.al.st) dy (WI _) m2 s h D).mono ?_;rintro e L ⟨G,E,c3,rfl,u,A,q⟩;go_wp2;go_ret2;exact⟨G,E,c3,by rw[c.o];rfl,by rw[c.o];exact u,bU d A,λp e=>cK d.size (q p e)⟩};(have J:(m1.2 !=0):=by simp[f]);have c:=hJ (o.trans (aK f));go_wp2;go_ret2;exact⟨none,0,0,by rw[c.o];rfl,by rw[c.o];exact aH.none_ _ _,d,λp e=>by cases e⟩
theorem aA.kept {F4:Type} {f:F4->List ai} {sz:Nat} {W W':Wd} {B n c:Nat} {F0:ah ak} {xs:List F4} {F8:ah Nat} (a:aA f sz W B F0 n c xs) (k:W.grownBy W' F8) (s:B<=W) (q:0<n-> ∀p:ak,F0=some p->some p.block≠F8):aA f sz W' B F0 n c xs:=
 ⟨a.1,a.2.1,a.2.2.1,λd=>by
  let⟨b,g,e,r,o⟩:=a.2.2.2 d;exact⟨b,g,e,r,λj x m i l h=>(k.cell_far (b (g+j*sz+i)) (show b<_ by omega) (show some b≠F8 from q d _ e)).trans (o j x m i l h)⟩⟩
def aA.TI {F4:Type} {f:F4->List ai} {sz:Nat} {W:Wd} {B n c:Nat} {F0:ah ak} {xs:List F4} (d:aA f sz W B F0 n c xs) (a:0<n) {p:ak} (g:F0=some p):p.block<B:=by let⟨b,i,e,h,j⟩:=d.2.2.2 a;rw[g]at e;injection e with e;rw[e];exact h
def vk (v:ai) (a:ah ak) (n:Nat):Prop:=0<n-> ∀g,v.ownBlock=some g-> ∀p:ak,a=some p->p.block≠g
def agD (A n c ses r t) (h0:t<=9223372036854775807) (w) (e0:cU w w A n c ses) (d2:ev w w r):
 Calls prog 166 #[slice A n c,agg (ic r),int .i64 t] w λe w'=> ∃A' n' c' z,e= .returned (slice A' n' c')/\gH w' w' A' n' c' z/\z.map Fo.val=oO (ses.map Se.val) r t/\n'<=64/\az w w'/\ ∀f∈z,∀p:ak,f.LA=some p->w<=p.block:=by
 let⟨g0,i3,g4,f3,i9⟩:=info_parts Dk;let⟨i2,Q⟩:=aq e0 d2;clear e0 d2;let⟨b,x⟩:=xR (gz r);have b3:=hJ x;clear x;go_enter func166,ntmps166;go_wp2_with fail
 refine yB λe9 f' d8 g9=>?_;refine mB (Cd r b b3 e9 (Q.later d8)) λg6 a'=>?_;have Y:=bU d8 a';cases b;{go_wp2;go_ret;exact⟨none,0,0,[],rfl,gH.none_ _ _,by unfold oO;rw[b3.o];rfl,oy,Y,λf s=>absurd s iy⟩};have K:=f'.below a' g9;have i7:=bL K;have e7:=dp K;(go_wp2_with fail);refine(Ya A n c ses r.sn Q.o.2.2.2 r.MA r.Mn r.Mc r.ms t 300000 h0 g6 (i2.o.later Y) (Q.o.later Y).1).mono ?_;rintro e a2 ⟨F,m,d,z,rfl,hF,a9,b0⟩;have g7:=bU Y b0;have b2:=K.below b0 K.lt;(have j2:m<=32:=by (have a0:(z.map Fo.val).length<=32:=by rw[a9];unfold oT;refine cK (length_filterMap_le ..) (ap.pr (ap.ek _)));rw[cC]at a0;have j6:=hF.1.1;omega);have k3:=hF.1.1;have j1:m<=d/\d<= "":=⟨hF.1.2.1,hF.1.2.2.1⟩;let⟨d1,f6,g2⟩:=aM hF a9 b2;have h7:=b2.lt;clear hF a9 K b2 i7 e7 a' b0;go_wp2;go_loopw[7,22] (λv i wr=> ∃ (k:Nat) (os:List Fo),k<=m/\i=int .i64 (k:Nat)/\wr.ownsRow a2 304 3 v os.length (os.flatMap oh)/\os.length<=k/\os.map Fo.val=((z.map Fo.val).take k).foldl (kY r) []/\(∀f∈os,tD wr wr f/\vk v f.LA f.Ln)/\(∀f∈os,∀p:ak,f.LA=some p->w.heap.size<=p.block)/\az a2 wr) (λ_ i _=>m- (intOf i).toNat);(case atStart=>exact⟨0,[],oy,rfl,World.ownsRow_nil _ _ _ _,ny,rfl,(λf s=>absurd s iy),(λf s=>absurd s iy),aN⟩);case round=>obtain⟨k,os,k1,rfl,R,j9,E,U,H,x⟩:=hrel;have c0:=bU g7 x;have h2:=x.size;by_cases h3:k<m;{obtain⟨j0,j7,f,g3,i',a8,h',e',h8,h5⟩:=(d1.below x).at_ h3;subst g3;(have d5:(z.map Fo.val)[k]?=some f.val:=by rw[dw,a8];rfl);have b8:=rR (kY r) [] d5;rw[<-E]at b8;let⟨V,d'⟩:=aq b8 E;have d4:=d1.2 f (cz a8);have i5:=hJ d4;have a7:=(g2.below x h7);let⟨f5,i6,f7,g8,i4,i0,f1,g1⟩:=eN a7.a;have j':=a7.lt;let⟨L,G,b9,a1⟩:=aA.dV wN dy R;subst b9;have c7:gH wr wr L os.length G os:=⟨a1,λf s=>(U f s).1⟩;have d9: ∀f∈os,vk (slice L os.length G) f.LA f.Ln:=λf s=>(U f s).2;let⟨Z,e5,e3⟩:=aM d9 c7 R;clear b8 E a8 h' d5 R U a7 d4 a1 c7 d9;have O:=x.alloc h2 (.cells (mU f) 304);have a4:=c0.alloc c0.size (.cells (mU f) 304);have M:Below wr wr (wr.alloc (.cells (mU f) 304)):=aN.alloc ny _;have S:=af.new wr 304 (mU f);have X:=e3.alloc (.cells (mU f) 304);let⟨h1,a3⟩:=xR (bF.holds r.op f.x.2 r.v);have j5:=hJ a3;cases h1;{have B:=hJ (V.trans (show kY r (os.map Fo.val) f.val=os.map Fo.val by unfold kY;rw[aK (show bF.holds r.op f.val.2.2 r.v=false from a3)]));(go_wp2_with(first|(go_at_call 211;refine(Jn _ _ _ _).mono ?_;rintro e w' ⟨rfl,rfl⟩)));go_roundw;(case rel=>exact⟨k+1,os,oy,bh,X,oy,B.symm,(λg a=>⟨(e5.later M).2 g a,Z g a⟩),H,O⟩);case measure=>exact cn};let⟨h6,c8⟩:=xR (pK r.nm r.ls f.ls);have T:=hJ c8;clear c8;(go_wp2_with(first|(go_at_call 211;refine(Jn _ _ _ _).mono ?_;rintro e w' ⟨rfl,rfl⟩)));refine(acU r f.LA f.Ln f.Lc f.ls _ (Q.later a4) (i5.later O)).mono ?_;rw[T.o];generalize World.alloc _ _=j8 at O a4 M S X⊢;rintro e f8 ⟨l,o,c6,rfl,d7,N,e1⟩;have c3:=bU O N;have c1:=S.below N S.lt;have d6:=eU X N;have c2:=(e5.later M).later N;let⟨b5,e6,c4,e4⟩:=bJ c2 d7 c1 d6;clear d7 S c1 X d6 c2 f5 i6 f7 g8 i4 i0 f1 g1 e' h8 h5;let⟨ls,e8⟩:=h6;cases e8;{have B:=hJ (V.trans (show kY r (os.map Fo.val) f.val=os.map Fo.val by unfold kY;rw[aG Fs,show f.val.1=f.ls from rfl,T.o,aG iy]));go_wp2;go_roundw;(case rel=>exact⟨k+1,os,oy,bh,e4,oy,B.symm,(λg a=>⟨b5.2 g a,Z g a⟩),H,c3⟩);case measure=>exact cn};let⟨c5,a6⟩:=xR (la (os.map Fo.val) ls);have i8:=hJ a6;(go_wp2_with fail);refine mB (adU L os.length G os l o c6 ls c5 i8 f8 b5 e6) λC D=>?_;have b1:=bU c3 D;have c9:=c4.below D c4.lt;have b4:=eU e4 D;have d0:=b5.later D;have f9:=e6.later D;cases c5;{have B:=hJ (V.trans (show kY r (os.map Fo.val) f.val=os.map Fo.val++[(ls,f.x)]by unfold kY;rw[aG Fs,show f.val.1=f.ls from rfl,T.o,aK ⟨rfl,a6⟩];rfl));have j4:=bL c9;have k2:=dp c9;have i1:=b1.size;(go_wp2_with(at_builtin;refine wpList_append_lies _ rfl _ _ 258 rfl a2 304 g0 _ 3 40 underlying258 i3 g4 f3 i9 rfl dy _ _ _ bq (b4.alloc _) (an C 0) 1 1 [.slice (⟨l,o,c6,ls,f.x⟩:Fo).LA (⟨l,o,c6,ls,f.x⟩:Fo).Ln (⟨l,o,c6,ls,f.x⟩:Fo).Lc,(⟨l,o,c6,ls,f.x⟩:Fo).x.1,(⟨l,o,c6,ls,f.x⟩:Fo).x.2] bq bq (by intro j j3 u;match j,u with|0,u=>(simp at u;subst u;simp[Addr.add])|1,u=>(simp at u;subst u;simp[Addr.add])|2,u=>(simp at u;subst u;simp[Addr.add])) jc oy my oy jB _ rfl ?_;intro b' b6 J f0 b7 f4 k4));(have f2:J.ownsRow a2 304 3 (bR b' (os.length+1) b6) (os++[(⟨l,o,c6,ls,f.x⟩:Fo)]).length ((os++[(⟨l,o,c6,ls,f.x⟩:Fo)]).flatMap oh):=by rw[eX,bu];exact f0);have d3:=(Below.refl _ C).alloc ny (.cells #[slice l o c6,f.x.1,f.x.2] 304);have g':=(d3.mono i1).grown b7 uy (λk e=>(b4.lt k e).1);(have g5: ∀g∈os++[(⟨l,o,c6,ls,f.x⟩:Fo)],∀p:ak,g.LA=some p->w<=p.block:=by intro g a p y;obtain a|a:=eQ.1 a;{exact H g a p y};rw[fS.1 a]at y;exact cK a4.size (e1 p y));have h9:=λq (e:Value.ownBlock (slice L os.length G)=some q)=>(e3.lt q e).2;have k0:=M.size;(have h4: ∀g∈os++[(⟨l,o,c6,ls,f.x⟩:Fo)],tD J J g/\vk (bR b' (os.length+1) b6) g.LA g.Ln:=by (have key: ∀g:Fo,aH C C g.LA g.Ln g.Lc g.ls->vk (slice L os.length G) g.LA g.Ln->tD J J g/\vk (bR b' (os.length+1) b6) g.LA g.Ln:=by intro g y e2;refine⟨?_,λI q a5 p W=>?_⟩;{have a0:=(show aH C C g.LA g.Ln g.Lc g.ls from y).below d3;refine⟨(a0.1.kept b7 iy (λI p W e=>?_)).more (by have:=b7.size;simp at this;omega),a0.2⟩;exact e2 I _ e.symm p W rfl};cases a5;obtain e|e:=f4;{exact e2 I _ e p W};have:=y.1.TI I W;simp at e;simp only;omega);intro g a;obtain a|a:=eQ.1 a;{exact key g (d0.2 g a) (Z g a)};rw[fS.1 a];exact key _ f9 (λI q a5 p y=>by have:=h9 q a5;have:=e1 p y;omega));go_wp2;go_roundw;(case rel=>exact⟨k+1,os++[(⟨l,o,c6,ls,f.x⟩:Fo)],oy,bh,f2,by simp;omega,by rw[B.o,ir];rfl,h4,g5,b1.trans g'⟩);case measure=>exact cn};have B:=hJ (V.trans (show kY r (os.map Fo.val) f.val=os.map Fo.val by unfold kY;rw[aG Fs,show f.val.1=f.ls from rfl,T.o,aG (by rw[a6];simp)]));go_wp2;go_roundw;(case rel=>exact⟨k+1,os,oy,bh,b4,oy,B.symm,(λg a=>⟨d0.2 g a,Z g a⟩),H,b1⟩);case measure=>exact cn};obtain rfl:k=m:=oy;rw[dE (by rw[cC];omega)]at E;have d':=hJ (show os.map Fo.val=oO (ses.map Se.val) r t by unfold oO;rw[b3.o,aK rfl,<-f6.o];exact E);go_wp2;go_ret;let⟨A',c',b9,a1⟩:=aA.dV wN dy R;exact⟨A',os.length,c',os,by rw[<-b9];rfl,⟨a1,λf s=>(U f s).1⟩,d',oy,c0,H⟩
def Ev.YS {s:List ap.E×Int} {a:Al} {m:List Pr×Int} (b:Ev.written a=m) (c:m.2≠0):lK t s a=(s.1,s.2+1):=by unfold lK;rw[b,aK c]
def Ev.WC {s:List ap.E×Int} {a:Al} {m:List Pr×Int} (e:Ev.written a=m) (f:m.2=0) {r:List ap.E×Int} (b:r=js s.1 m.1 (t,1000)) (d:r.2≠0):lK t s a=(s.1,s.2+1):=by unfold lK;rw[e,aG (λc=>c f),<-b,aK d]
def Ev.abK {s:List ap.E×Int} {a:Al} {m:List Pr×Int} (e:Ev.written a=m) (f:m.2=0) {r:List ap.E×Int} (b:r=js s.1 m.1 (t,1000)) (d:r.2=0):lK t s a=(r.1,s.2):=by unfold lK;rw[e,aG (λc=>c f),<-b,aG (λc=>c d)]
def adu (A n c ses B m d ys full t w) (e0:rc w) (d':cU w w A n c ses) (g:bp w w B m d ys):
 Calls prog 167 #[slice A n c,agg #[slice B m d,int .i64 full],int .i64 t] w λe w'=> ∃A' n' c' P b,e= .returned (tuple #[slice A' n' c',int .i64 b])/\cU w' w'.heap.size A' n' c' P/\Ev.write (ses.map Se.val) ⟨ys.map (·.al),full⟩ t=(P.map Se.val,b)/\az w w'/\(∀q,q<w.heap.size->dB q A n ses->dB q A' n' P)/\0<=b/\b<=16:=by
 let⟨e7,e6,d2⟩:=aM d' g e0;go_enter func167,ntmps167;go_wp2_with fail
 refine yB λb3 c5 a5 d0=>?_;refine(Gp A n c ses b3 (e7.later a5)).mono ?_;rintro e c8 ⟨Y,T,c2,u,rfl,z,a8,b4,a0⟩;have e5: ∀q,dB q A n ses->dB q Y T u:=λq p=>dB.aD (c:=c) p z a8 b4;have a':=bU a5 a0;have f1:=c5.below a0 d0;let⟨f9,h2⟩:=bE f1.a;go_wp2_with fail
 refine(abE B m d ys full c8 (e6.later a')).mono ?_;rintro e f4 ⟨g0,r,c3,F,rfl,K,O,a1⟩;have N:=bU a' a1;let⟨d4,c9⟩:=aq (z.later a1) O;have e9:=K.len;have f8:=K.cap;have h0:r<=16:=by (have h:(F.map (·.al)).length<=16:=by rw[O];unfold gr pB;exact cK (length_filter_le ..) (ae.jJ (ae.ek _)).1);rw[cC,e9]at h;exact h
 have d8: ∀a∈F,0<=a.al.st/\a.al.st<=2:=by intro a e4;(have h:a.al∈gr ⟨ys.map (·.al),full⟩:=by rw[<-O];exact fx.2 ⟨a,e4,rfl⟩);unfold gr pB at h;have z:=kR (pA (ae.ek _) (mem_filter.1 h).1);exact z.2.2
 let⟨Z,d3,b2⟩:=aM K d8 a8;go_wp2;go_loopw[0,8,19] (λv e8 i wr=> ∃ (k:Nat) (l:ah ak) (j c4:Nat) (f:List Se) (b:Int),k<=r/\i=int .i64 (k:Nat)/\v=slice l j c4/\e8=int .i64 b/\cU wr wr l j c4 f/\((F.map (·.al)).take k).foldl (lK t) (u.map Se.val,0)=(f.map Se.val,b)/\0<=b/\b<=k/\az f4 wr/\ ∀q,q<w.heap.size->dB q A n ses->dB q l j f) (λ_ _ i _=>r- (intOf i).toNat);case atStart=>exact⟨0,Y,T,c2,u,0,oy,rfl,rfl,rfl,d4,rfl,oy,oy,aN,λq _ p=>e5 q p⟩
 case round=>obtain⟨k,l,j,c4,f,b,g7,rfl,rfl,rfl,U,L,a6,f',E,C⟩:=hrel;have f2:=bU N E;by_cases d7:k<r;{obtain⟨f6,cS,a,c7,f5,J,g4,f7,g8,g6,g3,g5,h1,g9⟩:=(Z.below E).at_ d7;subst c7;(have d5:(F.map (·.al))[k]?=some a.al:=by rw[dw,J];rfl);have Q:=rR (lK t) (u.map Se.val,0) d5;rw[L]at Q;have M:=hJ Q;have b5:=Z.2 a (cz J);have c0:=d3 a (cz J);let⟨D,b7⟩:=xR (Ev.written a.al);have s:=hJ b7;have x:=E.alloc E.size (.cells (kL a) 73);have a4:=(Below.refl _ wr).alloc ny (.cells (kL a) 73);have W:=U.later a4;have H:=bU N x;(go_wp2_with fail);generalize World.alloc _ _=d1 at x a4 W H⊢;refine(YD a c0 D s d1 (d2.below H) ((show aH _ _ _ _ _ _ from b5).later x)).mono ?_;rintro e b' ⟨d6,e3,c6,rfl,d9,V,e2⟩;have S:=W.later V;have G:=bU x V;by_cases y:D.2=0;{obtain⟨f3,a9⟩:=aq d9 S;(go_wp2_with fail);refine(xN l j c4 f d6 e3 c6 D.1 (t,1000) b' a9 f3).mono ?_;rintro e g1 ⟨b0,b1,c1,a3,X,rfl,f0,b8,R,e'⟩;have a7:=bU G R;have a2:=LY b8;have b9: ∀q,q<w.heap.size->dB q A n ses->dB q b0 b1 a3:=λq I p=>e' q (dS I (bU N G).size) (C q I p) (aO.ge (dS I H.size) e2);by_cases h:X=0;{have o:=hJ (M.trans (abK s y a2 h));go_wp2;go_roundw;(case rel=>exact⟨k+1,b0,b1,c1,a3,b,by omega,by go_num,rfl,rfl,f0,o,a6,by omega,a7,b9⟩);case measure=>exact cn};(have g':(X !=0):=by simp[h]);have o:=hJ (M.trans (WC s y a2 h));have e1:=a9.later R;go_wp2;go_roundw;(case rel=>exact⟨k+1,l,j,c4,f,b+1,by omega,by go_num,rfl,by go_num,e1,o,by omega,by omega,a7,C⟩);case measure=>exact cn};(have g2:(D.2 !=0):=by simp[y]);have o:=hJ (M.trans (YS s y));go_wp2;go_roundw;(case rel=>exact⟨k+1,l,j,c4,f,b+1,oy,bh,rfl,bh,S,o,oy,oy,G,C⟩);case measure=>exact cn};obtain rfl:k=r:=oy;rw[dE (by rw[cC];omega)]at L;have b6:=hJ (show Ev.write (ses.map Se.val) ⟨ys.map (·.al),full⟩ t=(f.map Se.val,b)by unfold Ev.write;rw[<-c9.o,<-b2.o];exact L);go_wp2;go_ret2;exact⟨l,j,c4,f,b,rfl,U,b6,f2,C,a6,oy⟩
namespace ae
structure Tr where
 A:ah ak
 n:Nat
 c:Nat
 ys:List Ar
 full:Int
def Tr.val (x:Tr):Tb:=⟨x.ys.map (·.al),x.full⟩
def Tr.zero:Tr:=⟨none,0,0,[],0⟩
end ae
def gL (x:Tr):List ai:=[slice x.A x.n x.c,x.full]
def AT (x:Tr):(gL x).length=2:=rfl
def dI (W:Wd) (B:Nat) (x:Tr):Prop:=bp W B x.A x.n x.c x.ys
def eZ (W:Wd) (B:Nat) (A:ah ak) (n c:Nat) (xs:List Tr):Prop:=aA gL 2 W B A n c xs/\ ∀x∈xs,dI W B x
def qR (q:Nat) (x:Tr):Prop:=fZ q x.A x.n x.ys
def Du (q:Nat) (A:ah ak) (n:Nat) (xs:List Tr):Prop:=aO q A n/\ ∀x∈xs,qR q x
section
variable{W W':Wd} {B B' n c:Nat} {A:ah ak} {xs:List Tr}
def eZ.below (b:eZ W B A n c xs) (a:Below B W W'):eZ W' B A n c xs:=⟨b.1.below a,λx d=>(show bp _ _ _ _ _ _ from b.2 x d).below a⟩
def eZ.more (b:eZ W B A n c xs) (a:B<=B'):eZ W B' A n c xs:=⟨b.1.more a,λx d=>(show bp _ _ _ _ _ _ from b.2 x d).more a⟩
def eZ.later (b:eZ W W A n c xs) (a:az W W'):eZ W' W' A n c xs:=(b.below a).more a.size
def eZ.at_ (g:eZ W B A n c xs) {k:Nat} (l:k<n): ∃b a x,A=some (b a)/\b<B/\xs[k]?=some x/\dI W B x/\W.cell? (b (a+k*2))=some (slice x.A x.n x.c)/\W.cell? (b (a+k*2+1))=(x.full:ai):=by obtain⟨b,a,e,j,h⟩:=g.1.at_ oy;have f:xs[k]?=some (xs[k]' FE):=br _;exact DW
end
def aO.dh {F4:Type} {f:F4->List ai} {sz:Nat} {W:Wd} {B n c q:Nat} {A:ah ak} {xs:List F4} (b:aA f sz W B A n c xs) (e:B<=q):aO q A n:=λa p d=>aR (b.TI a d)
theorem aH.kept {xs:List Pr} (a:aH W B A n c xs) (h:W.grownBy W' F8) (f:B<=W) (b: ∀q,F8=some q->aO q A n):aH W' B A n c xs:=
 ⟨a.1.kept h f (λd p g e=>(b _ e.symm) d p g rfl),a.2⟩
def fZ.of {q:Nat} {ys:List Ar} (d:bp W B A n c ys) (b:B<=q):fZ q A n ys:=⟨aO.dh d.1 b,λa e=>aO.dh (show aH _ _ _ _ _ _ from d.2 a e).1 b⟩
theorem bp.kept {ys:List Ar} (d:bp W B A n c ys) (i:W.grownBy W' F8) (g:B<=W) (b: ∀q,F8=some q->fZ q A n ys):bp W' B A n c ys:=
 ⟨d.1.kept i g rq,λa f=>(show aH _ _ _ _ _ _ from d.2 a f).kept i g (λq e=>(b q e).2 a f)⟩
def aO.Dh {q:Nat} (d:dX.cP W B A n c xs) (h:B<=q):aO q A n:=λa p f=>by
 obtain⟨b,g,e,j,i⟩:=d.2.2.2 a;rw[f]at e;injection e with e;rw[e];simp only;omega
def aef (a:dX.cP W B A n c xs) (g:W.grownBy W' F8) (p:B<=W) (l: ∀q,F8=some q->aO q A n):dX.cP W' B A n c xs:=
 ⟨a.1,a.2.1,a.2.2.1,λf=>by
  obtain⟨b,d,e,o,i⟩:=a.2.2.2 f;have k:some b≠F8:=λm=>l b m.symm f _ e rfl;exact⟨b,d,e,o,λj h=>⟨(g.cell_far (b (d+j*2)) (show b<_ by omega) k).trans (i j h).1,(g.cell_far (b (d+j*2+1)) (show b<_ by omega) k).trans (i j h).2⟩⟩⟩
def dB.of {q:Nat} {G5:List Se} (a:cU W B A n c G5) (b:B<=q):dB q A n G5:=⟨aO.dh a.1 b,λs d=>⟨aO.dh (a.2 s d).1.1 b,aO.Dh (a.2 s d).2 b⟩⟩
theorem cU.kept {G5:List Se} (d:cU W B A n c G5) (g:W.grownBy W' F8) (f:B<=W) (b: ∀q,F8=some q->dB q A n G5):cU W' B A n c G5:=
 ⟨d.1.kept g f rq,λs a=>⟨(d.2 s a).1.kept g f (λq e=>((b q e).2 s a).1),aef (d.2 s a).2 g f (λq e=>((b q e).2 s a).2)⟩⟩
def uY:(prog.info? 56).map (λi=>(i.zero,i.size,i.bytes))=some (some (agg #[(),""]),2,32):=ry
def Ev.VU {rs:List Ru} {k:Nat} {r:Ru} (a:rs[k]?=some r) (bw:List Tb) (t:Int) (s:List ap.E×List Tb×Int):ix rs bw t s (k+1)=uP bw t (ix rs bw t s k) k r:=by rw[ix,a]
def Ev.ZS {bw:List Tb} {s:List ap.E×List Tb×Int} {r:Ru} {x z:Tb} {w:List ap.E×Int} (b:(bw[i]?).getD ae.zero=x) (d:ae.step x (oO s.1 r t) t r.fo r.ke=z) (a:Ev.write s.1 z t=w):uP bw t s i r=(w.1,s.2.1++[z],s.2.2+w.2):=by unfold uP;simp only;rw[b,d,a]
def aeS (A:ah ak) (n c:Nat) (b5:List Se) (g:Gr) (r1:g.Rn<=16) (B:ah ak) (m d:Nat) (xs:List Tr) (t:Int) (o9:t<= "") (w:Wd) (hG:dW w) (m4:rc w) (b1:cU w w A n c b5) (h5:dK w w g) (X:eZ w w B m d xs):
 Calls prog 120 #[slice A n c,agg (oX g),slice B m d,t] w λe w'=> ∃A' n' c' k6 B' j3 m1 ys E,e= .returned (tuple #[slice A' n' c',slice B' j3 m1,int .i64 E])/\cU w' w' A' n' c' k6/\eZ w' w' B' j3 m1 ys/\Ev.group (b5.map Se.val) g.rs (xs.map Tr.val) t=(k6.map Se.val,ys.map Tr.val,E)/\az w w'/\(∀q,q<w.heap.size->dB q A n b5->dB q A' n' k6)/\(∀q,q<w.heap.size->(∀x∈xs,∀y∈x.ys,aO q y.LA y.Ln)->Du q B' j3 ys)/\0<=E/\E<=256:=by
 obtain⟨o3,q0,o5,n8,q2⟩:=info_parts uY;obtain⟨p8,m6,o4,p3,o7⟩:=de b1 h5 X hG m4;have m5:=h5.1.1;have r2:g.Rn<=g.Rc/\g.Rc<= "":=⟨h5.1.2.1,h5.1.2.2.1⟩;have p':=X.1.1;have q3:m<=d/\d<= "":=⟨X.1.2.1,X.1.2.2.1⟩;clear b1 h5 X hG m4;go_enter func120,ntmps120;go_wp2_with fail
 refine yB λn4 o2 m2 o6=>?_;refine(Gp A n c b5 n4 (p8.later m2)).mono ?_;rintro e h3 ⟨l6,l2,c2,h9,rfl,j9,k7,l5,j4⟩;have p7:=hJ (show ∀q,dB q A n b5->dB q l6 l2 h9 from λq J=>dB.aD (c:=c) J j9 k7 l5);have j0:=bU m2 j4;have m9:=o2.below j4 o6;have q8:=dF m9;obtain⟨o',n3⟩:=aq j9 k7;clear j9 k7 l5 m9 j4;go_wp2;go_loopw[0,11,12,22] (λv a3 p9 i wr=> ∃ (k:Nat) (b3:ah ak) (a4 c4:Nat) (a2:List Se) (os:List Tr) (E:Int),k<=g.Rn/\i=k/\v=slice b3 a4 c4/\p9=int .i64 E/\cU wr wr b3 a4 c4 a2/\wr.ownsRow h3 56 2 a3 os.length (os.flatMap gL)/\ix g.rs (xs.map Tr.val) t (h9.map Se.val,[],0) k=(a2.map Se.val,os.map Tr.val,E)/\os.length=k/\0<=E/\E<=16*k/\(∀x∈os,dI wr wr x/\ ∀q,a3.ownBlock=some q->qR q x)/\az w wr/\h3<=wr.heap.size/\(∀q,q<w.heap.size->dB q A n b5->dB q b3 a4 a2)/\(∀q,q<w.heap.size->(∀x∈xs,∀y∈x.ys,aO q y.LA y.Ln)-> ∀x∈os,qR q x)/\(∀q,a3.ownBlock=some q->dB q b3 a4 a2)) (λ_ _ _ i _=>g.Rn- (intOf i).toNat);case atStart=>exact⟨0,l6,l2,c2,h9,[],0,oy,rfl,rfl,rfl,o',World.ownsRow_nil _ _ _ _,rfl,rfl,oy,oy,(λx X=>absurd X iy),j0,ny,(λq _ J=>p7 q J),(λq _ _ x X=>absurd X iy),λq e=>by cases e⟩
 case round=>obtain⟨k,b3,a4,c4,a2,os,E,r4,rfl,rfl,rfl,j1,i5,j6,l9,p4,q6,k1,d2,q',k0,k4,m3⟩:=hrel;by_cases p1:k<g.Rn;{obtain⟨b,cS,r0,n1,a'⟩:=m6.1.at_ oy;obtain⟨r,Z⟩: ∃p,g.rs[k]?=some p:=⟨_,br (by rw[m5];exact p1)⟩;have a9:=d2;have q4:=(a9.cell (p:=(b (cS+k*8))) n1).trans (a' k r Z 0 _ rfl);have c1:=bC a9 (a' k r Z 1 _ rfl);have r5:=bC a9 (a' k r Z 2 _ rfl);have c3:=bC a9 (a' k r Z 3 _ rfl);have q5:=bC a9 (a' k r Z 4 _ rfl);have c5:=bC a9 (a' k r Z 5 _ rfl);have c6:=bC a9 (a' k r Z 6 _ rfl);have j5:=bC a9 (a' k r Z 7 _ rfl);have l3:=m6.2.1 r (cz Z);have j':=VU Z (xs.map Tr.val) t (h9.map Se.val,[],0);rw[j6]at j';obtain⟨o8,n6,j8,i',l7,n9,p0,n0,p6⟩:=Ax j' l3 j1 i5 k1 k0 k4 m3 l9;have r6:os.length<=16:=oy;clear l9;clear a' Z l3 j' j6 j1 i5 k1 k0 k4 m3 a9;have k9:=d2.size;have k3:az wr ((wr.alloc (.cells (ic r) 92)).alloc (.cells #[(),""] 56)):=((Below.refl _ wr).alloc ny _).alloc iy _;by_cases n7:k<m;{obtain⟨r3,q9,x,n5,q7,k2,m0,i8,i3⟩:=o4.at_ n7;subst n5;have i8:=bC d2 i8;have i3:=bC d2 i3;have O:=bC k3 i8;have N:=bC k3 i3;(have h6:((xs.map Tr.val)[k]?).getD ae.zero=x.val:=by rw[dw,k2];rfl);have h2: ∀q,(∀z∈xs,∀y∈z.ys,aO q y.LA y.Ln)-> ∀y∈x.ys,aO q y.LA y.Ln:=λq b1=>b1 x (cz k2);obtain⟨l',m8,j2⟩:=aM h6 h2 m0;(have b6:af ((wr.alloc (.cells (ic r) 92)).alloc (.cells #[slice x.A x.n x.c,x.full] 56)) (wr+1) 56 #[slice x.A x.n x.c,x.full]:=by simpa using af.new (wr.alloc (.cells (ic r) 92)) 56 #[slice x.A x.n x.c,x.full]);have Y:az wr ((wr.alloc (.cells (ic r) 92)).alloc (.cells #[slice x.A x.n x.c,x.full] 56)):=((Below.refl _ wr).alloc ny _).alloc iy _;clear h6 h2 m0 k2;go_wp2;generalize o0:World.alloc _ _=d9 at b6 Y⊢;have h8:=(af.new wr 92 (ic r)).q o0;clear k3 i8 i3 O N;have h4:=b6.lt;have i0:=d2.trans (Y.mono k9);obtain⟨i6,i7,k8,l1,p2,j7⟩:=dN h8 b6 i0 (j8.later Y) (eU i' Y) Y;clear h8 b6 i0;refine wp_region_held_drew (S:=λW'=>Below (wr+1) d9 W') ry aN.drew (λhH=>?_);refine Pu λg'=>?_;refine AllReadyH.cons gy (λK o=>?_) ?_;{obtain⟨I,L⟩:=bE i7.drew.a;go_simp;refine eL λhH=>?_;clear I L;refine aV 4 λK o=>?_;refine yL ?_;rintro e i2 ⟨F,i4,i1,h',rfl,hF,f7,i9,D,M⟩;refine zH λD M b0 a7 e9 e7 e5 c0=>?_;clear hF f7 M;refine be o (D.mono (dH b0)) λhH=>?_;refine yE λK o b2=>?_;rintro e f8 ⟨l,a,u,H,C,rfl,f9,f6,d5,g0⟩;refine zX λa6 a1 b7 c7 g1 e6 b8 e0 g8 e8 hH I L d' e3=>?_;clear f9 f6 g0 b7 c7 a6 a1 d5 b2;refine Ab λK o U G hH=>?_;clear hH;refine dj ?_;generalize h1:World.setCell _ _ _=d4 at U G⊢;refine yv λV e1 d0 c8 d1 b9 g9 O N d8 g2 f5 g6 e2 e'=>?_;clear I L d' e3 U d0 V c8 b9 d1 G e1;(go_wp2_with fail);refine zl ?_;rintro e a8 ⟨b4,b',h0,e4,g7,rfl,g4,f0,a5,f4,k',k5⟩;refine yH λf3 f1 c9 f' d3 O N f2 d7 d6 g5 h7=>?_;clear g4 f4 f0 c9;exact zU};refine AllReadyH.cons gy (λK o=>?_) ?_;{refine yL ?_;rintro e i2 ⟨F,i4,i1,h',rfl,hF,f7,i9,D,M⟩;refine zH λD M b0 a7 e9 e7 e5 c0=>?_;clear hF f7 M;refine be o (D.mono (dH b0)) λhH=>?_;refine aV 0 λK o=>?_;obtain⟨I,L⟩:=bE a7.a;go_simp;refine eL λhH=>?_;clear I L;refine yE λK o b2=>?_;rintro e f8 ⟨l,a,u,H,C,rfl,f9,f6,d5,g0⟩;refine zX λa6 a1 b7 c7 g1 e6 b8 e0 g8 e8 hH I L d' e3=>?_;clear f9 f6 g0 b7 c7 a6 a1 d5 b2;refine Ab λK o U G hH=>?_;clear hH;refine dj ?_;generalize h1:World.setCell _ _ _=d4 at U G⊢;refine yv λV e1 d0 c8 d1 b9 g9 O N d8 g2 f5 g6 e2 e'=>?_;clear I L d' e3 U d0 V c8 b9 d1 G e1;(go_wp2_with fail);refine zl ?_;rintro e a8 ⟨b4,b',h0,e4,g7,rfl,g4,f0,a5,f4,k',k5⟩;refine yH λf3 f1 c9 f' d3 O N f2 d7 d6 g5 h7=>?_;clear g4 f4 f0 c9;exact zU};exact AllReadyH.nil};obtain⟨x,g3⟩: ∃x:Tr,x=Tr.zero:=⟨_,rfl⟩;(have h6:((xs.map Tr.val)[k]?).getD ae.zero=x.val:=by rw[getElem?_eq_none (by rw[cC,p'];omega),g3];rfl);have h2: ∀q,(∀z∈xs,∀y∈z.ys,aO q y.LA y.Ln)-> ∀y∈x.ys,aO q y.LA y.Ln:=λq b1 y hy=>absurd hy (by rw[g3];simp[Tr.zero]);obtain⟨l',m8,j2⟩:=aM h6 h2 (show dI w w x by rw[g3];exact bp.none_ _ _);(have m7:Value.slice none 0 0=slice x.A x.n x.c:=by rw[g3];rfl);(have l8:Value.int .i64 0=x.full:=by rw[g3];rfl);clear g3 h6 h2;(have l4:(wr.alloc (.cells (ic r) 92)).alloc (.cells #[(),""] 56)=(wr.alloc (.cells (ic r) 92)).alloc (.cells #[slice x.A x.n x.c,x.full] 56):=by rw[m7,l8]);have n2:=hJ l4;clear m7 l8 l4;have h8:=(af.new wr 92 #[r.nm,r.sn,slice r.MA r.Mn r.Mc,r.op,r.v,r.fo,r.ke,slice r.LA r.Ln r.Lc]).alloc (.cells #[slice x.A x.n x.c,x.full] 56);(have b6:af ((wr.alloc (.cells #[r.nm,r.sn,slice r.MA r.Mn r.Mc,r.op,r.v,r.fo,r.ke,slice r.LA r.Ln r.Lc] 92)).alloc (.cells #[slice x.A x.n x.c,x.full] 56)) (wr+1) 56 #[slice x.A x.n x.c,x.full]:=by simpa using af.new (wr.alloc (.cells #[r.nm,r.sn,slice r.MA r.Mn r.Mc,r.op,r.v,r.fo,r.ke,slice r.LA r.Ln r.Lc] 92)) 56 #[slice x.A x.n x.c,x.full]);have Y:az wr ((wr.alloc (.cells #[r.nm,r.sn,slice r.MA r.Mn r.Mc,r.op,r.v,r.fo,r.ke,slice r.LA r.Ln r.Lc] 92)).alloc (.cells #[slice x.A x.n x.c,x.full] 56)):=((Below.refl _ wr).alloc ny _).alloc iy _;go_wp2;rw[n2.o];generalize(wr.alloc (.cells #[r.nm,r.sn,slice r.MA r.Mn r.Mc,r.op,r.v,r.fo,r.ke,slice r.LA r.Ln r.Lc] 92)).alloc (.cells #[slice x.A x.n x.c,x.full] 56)=d9 at h8 b6 Y⊢;have h4:=b6.lt;have i0:=d2.trans (Y.mono k9);obtain⟨i6,i7,k8,l1,p2,j7⟩:=dN h8 b6 i0 (j8.later Y) (eU i' Y) Y;refine wp_region_held_drew (S:=λW'=>Below (wr+1) d9 W') ry aN.drew (λhH=>?_);refine Pu λg'=>?_;refine AllReadyH.cons gy (λK o=>?_) ?_;{obtain⟨I,L⟩:=bE i7.drew.a;go_simp;refine eL λhH=>?_;refine aV 4 λK o=>?_;refine yL ?_;rintro e i2 ⟨F,i4,i1,h',rfl,hF,f7,i9,D,M⟩;refine zH λD M b0 a7 e9 e7 e5 c0=>?_;refine be o (D.mono (dH b0)) λhH=>?_;refine yE λK o b2=>?_;rintro e f8 ⟨l,a,u,H,C,rfl,f9,f6,d5,g0⟩;refine zX λa6 a1 b7 c7 g1 e6 b8 e0 g8 e8 hH I L d' e3=>?_;refine Ab λK o U G hH=>?_;refine dj ?_;generalize h1:World.setCell _ _ _=d4 at U G⊢;refine yv λV e1 d0 c8 d1 b9 g9 O N d8 g2 f5 g6 e2 e'=>?_;(go_wp2_with fail);refine zl ?_;rintro e a8 ⟨b4,b',h0,e4,g7,rfl,g4,f0,a5,f4,k',k5⟩;refine yH λf3 f1 c9 f' d3 O N f2 d7 d6 g5 h7=>?_;exact zU};refine AllReadyH.cons gy (λK o=>?_) ?_;{refine yL ?_;rintro e i2 ⟨F,i4,i1,h',rfl,hF,f7,i9,D,M⟩;refine zH λD M b0 a7 e9 e7 e5 c0=>?_;refine be o (D.mono (dH b0)) λhH=>?_;refine aV 0 λK o=>?_;obtain⟨I,L⟩:=bE a7.a;go_simp;refine eL λhH=>?_;refine yE λK o b2=>?_;rintro e f8 ⟨l,a,u,H,C,rfl,f9,f6,d5,g0⟩;refine zX λa6 a1 b7 c7 g1 e6 b8 e0 g8 e8 hH I L d' e3=>?_;refine Ab λK o U G hH=>?_;refine dj ?_;generalize h1:World.setCell _ _ _=d4 at U G⊢;refine yv λV e1 d0 c8 d1 b9 g9 O N d8 g2 f5 g6 e2 e'=>?_;(go_wp2_with fail);refine zl ?_;rintro e a8 ⟨b4,b',h0,e4,g7,rfl,g4,f0,a5,f4,k',k5⟩;refine yH λf3 f1 c9 f' d3 O N f2 d7 d6 g5 h7=>?_;exact zU};exact AllReadyH.nil};obtain rfl:k=g.Rn:=oy;have o1:=hJ (show Ev.group (b5.map Se.val) g.rs (xs.map Tr.val) t=(a2.map Se.val,os.map Tr.val,E)by unfold Ev.group;rw[<-n3.o,m5];exact j6);obtain⟨l0,j5,p5,q1⟩:=aA.dV AT dy i5;subst p5;(have m': ∀q,q<w.heap.size->aO q l0 os.length:=λq R _ p e=>by have:=(i5.lt p.block nP).1;have:=j0.size;omega);go_wp2;refine bodyPost_ret (v:=tuple #[slice b3 a4 c4,slice l0 os.length j5,E]) (by simp[results,results120,go_sem]) rfl ?_;exact⟨b3,a4,c4,a2,l0,os.length,j5,os,E,rfl,j1,⟨q1,λx X=>(k1 x X).1⟩,o1,d2,k0,(λq R J=>⟨m' q R,k4 q R J⟩),p4,oy⟩
namespace dd
def wrap32 (n:Nat) (b:n<4294967296):IntKind.u32.wrap (n:Int)=(n:Int):=by exact QI
def ahK (n:Nat) (b:n<256):IntKind.u8.wrap (n:Int)=(n:Int):=by exact QI
def yo (a b:Nat) (d:a<4294967296) (e:b<4294967296):Go.bits .xor .u32 (a:Int) (b:Int)=((a^^^b:Nat):Int):=by show IntKind.u32.wrap ((BitVec.ofInt 32 (a:Int)^^^BitVec.ofInt 32 (b:Int)).toNat:Int)=_;refine PK ?_;exact wrap32 _ (Nat.xor_lt_two_pow (n:=32) d e)
def ais (a b:Nat) (d:a<256) (e:b<256):Go.bits .xor .u8 (a:Int) (b:Int)=((a^^^b:Nat):Int):=by show IntKind.u8.wrap ((BitVec.ofInt 8 (a:Int)^^^BitVec.ofInt 8 (b:Int)).toNat:Int)=_;refine PK ?_;exact ahK _ (Nat.xor_lt_two_pow (n:=8) d e)
def aia (a:Nat) (b:a<4294967296):Go.bits .and .u32 (a:Int) 1=((a%2:Nat):Int):=by show IntKind.u32.wrap ((BitVec.ofInt 32 (a:Int)&&&BitVec.ofInt 32 ((1:Nat):Int)).toNat:Int)=_;rw[BitVec.toNat_and,BitVec.ofInt_natCast,BitVec.ofInt_natCast,BitVec.toNat_ofNat,BitVec.toNat_ofNat,Nat.mod_eq_of_lt oy,Nat.mod_eq_of_lt oy,Nat.and_one_is_mod];exact wrap32 _ oy
end dd
def YY (c x:Nat) (l:c<4294967296) (y:x<256) (w:Wd):
 Calls prog 276 #[.int .u32 (c:Nat),int .u8 (x:Nat)] w λe w'=>e= .returned (.int .u32 (dd.step c x:Nat))/\w=w':=by
 have E:=yo c x l oy;have q:c^^^x<4294967296:=Nat.xor_lt_two_pow (n:=32) l oy;go_enter func276,ntmps276;go_wp2;go_loopw[0,10] (λv i wr=> ∃k d:Nat,k<=8/\i=k/\v= .int .u32 (d:Nat)/\d<4294967296/\dd.bits (8-k) d=dd.step c x/\w=wr) (λ_ i _=>8- (intOf i).toNat);case atStart=>exact⟨0,c^^^x,oy,rfl,rfl,q,rfl,rfl⟩
 case round=>obtain⟨k,d,C,rfl,rfl,u,m,rfl⟩:=hrel;by_cases z:k<8;{have D:decide ((k:Int)<8):=decide_eq_true oy;obtain⟨h,p⟩:=aq (aia d u) (show Go.bits .xor .u32 ((d:Int)/2) 3988292384=((d/2^^^3988292384:Nat):Int)from yo (d/2) 3988292384 oy dy);(have s:dd.bits (8- (k+1)) (dd.bit d)=dd.step c x:=by rw[<-m,show 8-k=(8- (k+1))+1 by omega];rfl);have j:=hJ s;go_wp2;{rename_i b;(have f:d%2=1:=by rw[h.o]at b;simp at b;omega);(have g:dd.bit d=d/2^^^3988292384:=by unfold dd.bit;rw[if_pos f]);refine⟨⟨k+1,d/2^^^3988292384,oy,bh,by rw[p.o],Nat.xor_lt_two_pow (n:=32) oy dy,by rw[<-g];exact j,trivial⟩,by simp[intOf];omega⟩};rename_i b;(have f: ¬d%2=1:=by intro r;rw[h.o,r]at b;cases b);(have g:dd.bit d=d/2:=by unfold dd.bit;rw[if_neg f]);refine⟨⟨k+1,d/2,oy,bh,bh,oy,by rw[<-g];exact j,trivial⟩,by simp[intOf];omega⟩};obtain rfl:k=8:=oy;have t:=hJ m;go_wp2;go_ret;exact⟨by rw[<-t.o];rfl,rfl⟩
section
variable{P:Program} (w:Wd) {ops:Array Oper} {rest:List Oper} {o:Oper} {a:Act} {Q:Exit->Act->Wd->Prop}
def FU (i:o.guard=none) (t:ch) (p:Operand) (f:o.op=Op.load t p) (b:ak) (v:ai) (e:a.eval p=pointer (some b)) (d:(Instr.loadAt t (pointer (some b))).run P w= .ok v w)
 (g:wpList P ops Q rest (a.put o.dst v) w):wpList P ops Q (o::rest) a w:=by refine wpList_plain i λK' j=>?_;refine QC ?_;exact j _ _ g
def wD (h:o.guard=none) (t:ch) (p x:Operand) (j:o.op=Op.store t p x) (b:ak) (v:ai) (w':Wd) (f:a.eval p=pointer (some b)) (g:a.eval x=v) (d:(Instr.storeAt t (pointer (some b)) v).run P w= .ok () w')
 (e:wpList P ops Q rest (a.put o.dst undef) w'):wpList P ops Q (o::rest) a w:=by refine wpList_plain h λK' i=>?_;unfold Oper.wp;simp only[execOp,j,f,g,Sem.run_bind,d,Result.andThen,Sem.run_pure];exact i _ _ e
end
def Bz {t:ch} {cs:Array ai} (b:af w g t cs) (ds:Array ai):af (w.setRow g ds) g t ds:=by unfold af at b⊢;simp[World.setRow,Array.getElem?_modify,b]
def iQ:List ai:=(range 256).map λk=>Value.int .u32 (dd.tab k:Nat)
def Wj (w:Wd):
 Calls prog 249 #[] w λe w'=>e= .returned (agg iQ.toArray)/\Below w w w':=by
 go_enter func249,ntmps249;go_wp2;have y:(zeroCells363).size=256:=ry;have l:=(af.new w 363 zeroCells363).alloc (.cells zeroCells363 363);have j:af ((w.alloc (.cells zeroCells363 363)).alloc (.cells zeroCells363 363)) (w+1) 363 zeroCells363:=by simpa using af.new (w.alloc (.cells zeroCells363 363)) 363 zeroCells363
 have u:Below w w ((w.alloc (.cells zeroCells363 363)).alloc (.cells zeroCells363 363)):=(aN.alloc ny _).alloc iy _;generalize World.alloc _ _=O at l j u⊢;generalize zeroCells363=f at y l j;go_loopw[3] (λi wr=> ∃ (k:Nat) (cs:Array ai),k<=256/\i=k/\af wr (w+1) 363 cs/\cs.size=256/\cs.toList.take k=iQ.take k/\af wr w 363 f/\Below w w wr) (λi _=>256- (intOf i).toNat);case atStart=>exact⟨0,f,oy,rfl,j,y,rfl,l,u⟩
 case round=>obtain⟨k,cs,R,rfl,d,b,s,r,x⟩:=hrel;by_cases M:k<256;{have N:decide ((k:Int)<256):=decide_eq_true oy;have z:k<cs.size:=oy;have F:=(d.cell k).trans (Array.getElem?_eq_getElem z);have K:=d.frozen k;generalize L:cs[k]=J at F;(go_wp2_with(go_at_call 276;refine(YY 0 k dy oy _).mono ?_;rintro e w' ⟨rfl,rfl⟩));refine⟨⟨k+1,cs.setIfInBounds k (.int .u32 (dd.tab k:Nat)),oy,bh,d.ay k _,by simp[b],?_,r.aI (p:=an (w+1) k) iy _,x.setCell (p:=an (w+1) k) iy _⟩,by simp[intOf];omega⟩;(have C:iQ[k]?=some (Value.int .u32 (dd.tab k:Nat)):=by unfold iQ;rw[getElem?_map,getElem?_range oy];rfl);rw[Array.toList_setIfInBounds,take_add_one,take_add_one,C,take_set,set_eq_of_length_le (by rw[length_take];omega),s,getElem?_set_self (by rw[Array.length_toList];exact z)]};obtain rfl:k=256:=oy;(have t:cs=iQ.toArray:=by (have C:iQ.length=256:=by unfold iQ;rw[length_map,length_range]);rw[take_of_length_le (by rw[Array.length_toList];omega),take_of_length_le oy]at s;rw[<-s]);(have D:cs.all (·.oneCell'):=by rw[t,Array.all_eq_true_iff_forall_mem];exact NL);have g:(prog.info? 363).map (·.size)=some 256:=ry;have q:=run_loadVar_row (P:=prog) wr (w+1) 363 363 cs (0,0) _ d underlying363 rfl (by rw[b];exact g);have m:=run_storeVar_row (P:=prog) wr w 363 363 f cs r (by rw[b];exact g) oy D;(have I:(Instr.loadAt 363 (pointer (some (an (w+1) 0)))).run prog wr= .ok (agg cs) wr:=by exact Fp);(have E:(Instr.storeAt 363 (pointer (some (an w 0))) (agg cs)).run prog wr= .ok () (wr.setRow w cs):=by exact Ep);(go_wp2_with(first|(refine FU _ rfl _ _ rfl _ _ rfl I ?_)|(refine wD _ rfl _ _ _ rfl _ _ _ rfl rfl E ?_)));have G:=Bz r cs;(have H:(prog.info? 363).map (·.size)=some cs.size:=by rw[b];exact g);exact bodyPost_ret (v:=agg cs) (results_cell_row results249 _ _ w 363 cs (0,0) _ rfl G underlying363 rfl H) rfl ⟨by rw[t],below_setRow x ny⟩
def aY (W:Wd) (B:Nat) (A:ah ak) (n c:Nat) (bs:List aU):Prop:=aA (λb:aU=>[Value.int .u8 (b.toNat:Nat)]) 1 W B A n c bs
section
variable{W W':Wd} {B B' n c:Nat} {A:ah ak} {bs:List aU}
def aY.below (d:aY W B A n c bs) (b:Below B W W'):aY W' B A n c bs:=aA.below d b
def aY.more (d:aY W B A n c bs) (b:B<=B'):aY W B' A n c bs:=aA.more d b
def aY.later (d:aY W W A n c bs) (b:Below W W W'):aY W' W' A n c bs:=aA.later d b
def aY.none_ (W:Wd) (B:Nat):aY W B none 0 0 []:=aA.none_ _ _
def aY.at_ (f:aY W B A n c bs) {k:Nat} (i:k<n): ∃b d x,A=some (b d)/\b<B/\bs[k]?=some x/\W.cell? (b (d+k))=some (int .u8 (x.toNat:Nat)):=by obtain⟨b,d,e,j,h⟩:=aA.at_ f oy;have g:bs[k]?=some (bs[k]'(by rw[f.1];exact i)):=getElem?_eq_getElem _;refine⟨b,d,_,e,j,g,?_⟩;have:=h k _ g 0 _ rfl;simpa using this
end
def Vf (b:Nat) (S:b<4294967296) (A:ah ak) (n c:Nat) (bs:List aU) (w:Wd) (f:aY w w A n c bs):
 Calls prog 220 #[.int .u32 (b:Nat),slice A n c] w λe w'=>e= .returned (.int .u32 (pp b bs:Nat))/\Below w w w':=by refine zx λl t=>?_;have K:=hJ f;go_enter func220,ntmps220;by_cases U:n=0;{subst U;have:bs=[]:=eq_nil_of_length_eq_zero l;subst this;go_wp2;go_ret;exact⟨rfl,aN⟩};(have a4:((n:Int)==0)=false:=by simp;omega);(go_wp2_with fail);refine mB (Wj w) λg q=>?_;have M:(zeroCells363).size=256:=ry;(have z:iQ.length=256:=by unfold iQ;rw[length_map,length_range]);(have I:(prog.info? 363).map (·.size)=some iQ.toArray.size:=by rw[size_toArray,z];kernel_rfl);(have G:iQ.toArray.all (·.oneCell'):=by rw[Array.all_eq_true_iff_forall_mem];exact NL);have p:=run_storeAt_new (P:=prog) g 363 zeroCells363 iQ.toArray I (by rw[M,size_toArray,z]) G;have r:=af.new g 363 iQ.toArray;have m:=q.alloc q.size (.cells iQ.toArray 363);(go_wp2_with(first|(refine wD _ rfl _ _ _ rfl _ _ _ rfl rfl p ?_)));generalize g.alloc (.cells iQ.toArray 363)=y at r m⊢;go_loopw[0,15] (λv i wr=> ∃k d:Nat,k<=n/\i=k/\v= .int .u32 (d:Nat)/\d<4294967296/\pp b (bs.take k)=d/\y=wr) (λ_ i _=>n- (intOf i).toNat);(case atStart=>exact⟨0,b,oy,rfl,rfl,S,rfl,rfl⟩);case round=>obtain⟨k,d,a5,rfl,rfl,Y,D,rfl⟩:=hrel;by_cases u:k<n;{refine oD λC=>?_;obtain⟨X,a3,x,L,V,H,O⟩:=K.at_ u;subst L;have a2:=bC m O;have a6:=x.toNat_lt;have s:d%256^^^x.toNat<256:=Nat.xor_lt_two_pow (n:=8) oy oy;have a0:Go.bits .xor .u8 ((d:Int)%256) (x.toNat:Nat)=((d%256^^^x.toNat:Nat):Int):=ais (d%256) x.toNat oy oy;(have a1:y.cell? (an g (d%256^^^x.toNat))=some (.int .u32 (dd.tab (d%256^^^x.toNat):Nat)):=by rw[r.cell];unfold iQ;rw[getElem?_toArray,getElem?_map,getElem?_range s];rfl);have E:dd.tab (d%256^^^x.toNat)<4294967296:=MG dy s;have Z:Go.bits .xor .u32 (dd.tab (d%256^^^x.toNat):Nat) ((d:Int)/256)=((dd.tab (d%256^^^x.toNat)^^^ (d/256):Nat):Int):=yo _ (d/256) E oy;(have p:pp b (bs.take (k+1))=dd.tab (d%256^^^x.toNat)^^^ (d/256):=by have R:pp b (bs.take (k+1))=zg (pp b (bs.take k)) x:=rR zg b H;rw[R,D];rfl);have F:=hJ p;have J:dd.tab (d%256^^^x.toNat)^^^ (d/256)<4294967296:=Nat.xor_lt_two_pow (n:=32) E oy;generalize d%256^^^x.toNat=j at*;go_wp2;exact⟨⟨k+1,dd.tab j^^^d/256,oy,bh,rfl,J,F,trivial⟩,by simp[intOf];omega⟩};obtain rfl:k=n:=oy;have C:=decide_eq_false oy;have N:=hJ (show pp b bs=d by rw[<-D,take_of_length_le oy]);go_wp2;go_ret;exact⟨by rw[N.o];rfl,m⟩
def Kb (A:ah ak) (n c:Nat) (bs:List aU) (w:Wd) (b:aY w w A n c bs):
 Calls prog 177 #[slice A n c] w λe w'=>e= .returned (.int .u32 (dd.sum bs:Nat))/\Below w w w':=by
 have g:=hJ b;go_enter func177,ntmps177;go_wp2_with fail
 refine mB (Vf 4294967295 dy A n c bs w g) λj i=>?_;have d:=Dw bs (c:=4294967295) dy;have h:Go.bits .xor .u32 IntKind.u32.max (pp 4294967295 bs:Nat)=(dd.sum bs:Nat):=yo 4294967295 _ dy d;have k:IntKind.u32.signed=false:=rfl;have f:=hJ h;go_wp2;go_ret;exact⟨by rw[<-f.o];rfl,i⟩
def Lt (bs):(bs.flatMap λb:aU=>[Value.int .u8 (b.toNat:Nat)])=Lib.byteCells bs:=by induction bs with|nil=>rfl|cons b bs ih=>(rw[gX,ih];rfl)
def uE (bs:List aU):(Lib.byteCells bs).length=bs.length:=by unfold Lib.byteCells;rw[cC]
def sl (bs): ∀c∈Lib.byteCells bs,c.oneCell':=by intro c d;unfold Lib.byteCells at d;obtain⟨b,_,rfl⟩:=fx.1 d;rfl
abbrev dJ (W:Wd) (base:Nat) (v:ai) (bs:List aU):Prop:=W.ownsRow base 5 1 v bs.length (Lib.byteCells bs)
def ki (W:Wd) (base:Nat) (v:ai) (bs:List aU):Prop:=dJ W base v bs\/ ∃b d,v=slice (some (b d)) bs.length bs.length/\b<base/\ ∀j c,(Lib.byteCells bs)[j]?=some c->W.cell? (b (d+j))=some c
def dJ.nil (W base):dJ W base () []:=World.ownsRow_nil _ _ _ _
def dJ.wv (g:dJ W base v bs): ∃d c,v=slice d bs.length c/\aY W W d bs.length c bs/\ ∀p:ak,d=some p->base<=p.block:=by
 have k:W.ownsRow base 5 1 v bs.length (bs.flatMap λb:aU=>[Value.int .u8 (b.toNat:Nat)]):=by rw[Lt];exact g
 let⟨d,c,i,j⟩:=aA.dV (sz:=1) (f:=λb:aU=>[Value.int .u8 (b.toNat:Nat)]) nR dy k;refine⟨d,c,i,j,λp e=>?_⟩;subst i;exact(g.lt p.block nP).1
def ki.below (c:ki W base v bs) (d:az W W') (l:base<=W):ki W' base v bs:=by obtain c|⟨b,h,e,f,k⟩:=c;{exact .inl (eU c d)};exact .inr ⟨b,h,e,f,λj g i=>bC d (k j g i)⟩
section
variable{P:Program} (w:Wd)
def FO (t ty e) (i:TypeInfo) (q:P.underlying t=some (.slice e)) (y:P.info? e=some i) (v:i.zero=some (int .u8 0)) (g:i.size=1) (s:i.bytes=1)
 (d:ak) (n:Nat) (kE:List ai) (h:kE.length=n) (r: ∀j f,kE[j]?=some f->w.cell? (d.add j)=some f) (u: ∀f∈kE,f.oneCell')
 (x:ai) (m:Nat) (news:List ai) (c:Src P i.size t x m news w) (D:0<m) (C:n+m<=140737488355328):
 ∃l w',(Builtin.append_ #[t,t] ty #[slice (some d) n n,x]).run P w= .ok l w'/\w'.ownsRow w e 1 l (n+m) (kE++news)/\w.grownBy w' none/\l.ownBlock=some w:=by
 have p:n+m<=maxLen:=by unfold maxLen;omega
 have A:=(Src.ofSlice (P:=P) w (size:=i.size) q d n n kE (by rw[g];omega) r u).cellsD;have z:=run_append_grow_src (P:=P) w t t ty e i (int .u8 0) q y v (some d) n n kE A x m news c oy (by unfold maxLen at p;omega) (growslice_fits_wide oy (by rw[s];omega));refine⟨_,_,z,⟨by rw[bu,h,c.newsLen,g];omega,.inr ⟨w,_,_,rfl,ny,heap_alloc_new w.drew _,grownCap_ge w (n+m) n e,grownCap_le_maxLen w (n+m) n e p,?_,?_⟩⟩,⟨rfl,rfl,rfl,iy,λk B _=>Below.heap_alloc w.drew _ k B⟩,rfl⟩;{have E:=grownCap_ge w (n+m) n e;have b:=c.newsLen;rw[g]at b;simp only[Array.size_append,size_toArray,size_zeroCells,bu,h,b];have:(Value.int IntKind.u8 0).cells.size=1:=rfl;rw[this];omega};have b:=c.newsLen;rw[g]at b;simp only[Array.toList_append];rw[show(n+m)*1=(kE++news).length by rw[bu,h,b];omega];exact take_left
end
def nk {k e size:Nat} {xs:List ai} (b:W.ownsRow base e size v n xs) (j:k<=base):W.ownsRow k e size v n xs:=by refine⟨b.1,?_⟩;obtain f|⟨g,cap,h,c,i,d⟩:=b.2;{exact .inl f};exact .inr ⟨g,cap,h,c,oy,d⟩
def uW:(prog.info? 5).map (λi=>(i.zero,i.size,i.bytes))=some (some (int .u8 0),1,1):=ry
section
variable{ops:Array Oper} {rest:List Oper} {o:Oper} {a:Act} {Q:Exit->Act->Wd->Prop} {w:Wd}
theorem FK (O:o.guard=none) (s x) (L:o.op= .call {callee:= .builtin .append,args:= #[s,x],argTypes:= #[34,34]})
 (base:Nat) (v:ai) (bs:List aU) (F:a.eval s=v) (m:ki w base v bs) (S:bs.length<=100000000000000) (p:base<=w)
 (i:Nat) (c:aU) (J:a.eval x=bR i 1 1) (H:w.cell? (i 0)=some (int .u8 (c.toNat:Nat)))
 (z: ∀f w',dJ w' base f (bs++[c])->Below base w w'->w.grownBy w' v.ownBlock->(f.ownBlock=v.ownBlock\/f.ownBlock=some w)->wpList prog ops Q rest (a.put o.dst f) w'):wpList prog ops Q (o::rest) a w:=by
 let⟨q,B,A,r,G⟩:=info_parts uW;refine wpList_plain O λK E=>?_;have I:Src prog q.size 34 (bR i 1 1) 1 [int .u8 (c.toNat:Nat)] w:=by refine Src.ofSlice w underlying34 (i 0) 1 1 _ (by rw[r];rfl) (λj n d=>?_) (λn C=>?_);{match j,d with|0,d=>(simp at d;subst d;simpa[Addr.add]using H)};simp at C;subst C;rfl
 have D:Lib.byteCells bs++[int .u8 (c.toNat:Nat)]=Lib.byteCells (bs++[c]):=by unfold Lib.byteCells;rw[ir];rfl
 obtain m|⟨b,u,rfl,R,N⟩:=m;{obtain⟨f,w',g,t,l,-,y⟩:=run_append_own_at (P:=prog) w base 34 o.type 5 q (int .u8 0) 1 1 underlying34 B A r G rfl dy v bs.length (Lib.byteCells bs) m (i 0) 1 1 [int .u8 (c.toNat:Nat)] rfl (by intro j n d;match j,d with|0,d=>(simp at d;subst d;simpa[Addr.add]using H)) jc my oy p;refine vU ?_;refine E _ _ (z f w' ?_ (aN.grown l p (λk e=>(m.lt k e).1)) l y);unfold dJ;rw[<-D,bu];exact t};let⟨f,w',g,t,l,y⟩:=FO (P:=prog) w 34 o.type 5 q underlying34 B A r G (b u) bs.length (Lib.byteCells bs) (uE bs) (by intro j n d;have M:((b u):ak).add j=(b (u+j)):=(by unfold Addr.add;split<;>simp_all);rw[M];exact N j n d) (sl bs) (bR i 1 1) 1 [int .u8 (c.toNat:Nat)] I oy oy;refine vU ?_;refine E _ _ (z f w' ?_ (aN.grown l p Ag) (l.but _) (.inr y));unfold dJ;rw[<-D,bu];exact nk t p
end
def sN (w:Wd) (v a:ai):Prop:=a.ownBlock=v.ownBlock\/ ∃q,a.ownBlock=some q/\w.heap.size<=q
def _root_.Go.World.grownBy.DE {V:Wd} (b:w.grownBy V v.ownBlock) (d:sN w v F2) (a:V.grownBy W F2.ownBlock):w.grownBy W v.ownBlock:=by obtain e|⟨q,e,f⟩:=d;{rw[e]at a;exact b.trans a};rw[e]at a;exact b.andThen a (λj c=> .inl (by injection c with c;omega))
theorem sN.step {u':ai} (b:sN w v F2) (f:w.heap.size<=W.heap.size) (c:u'.ownBlock=F2.ownBlock\/u'.ownBlock=some (W.heap.size+1)):sN w v u':=by obtain e|e:=c;{obtain a|⟨q,a,d⟩:=b;{exact .inl (e.trans a)};exact .inr ⟨q,e.trans a,d⟩};exact .inr ⟨_,e,by omega⟩
def sD:Nat->Nat
 |0=>1
 |f+1=>128*sD f
def ahc (k:Nat) (b:128<=k):(intOf (Value.int .i64 ((k/128:Nat):Int))).toNat<(intOf (Value.int .i64 ((k:Nat):Int))).toNat:=by have a:k/128<k:=oy;exact a
def Mf (w:Wd) (a:ah ak) (n c:Nat):(binOp .eql 34 (slice a n c) ()).run prog w= .ok (bool a.isNone) w:=Lib.run_eql_slice_nil w _ _ a n c 0 0 underlying34
def aY.reads (a:aY W B F0 n c bs):Mem.Reads W B 1 F0 n (Lib.byteCells bs):=by have:=aA.reads (f:=λb:aU=>[Value.int .u8 (b.toNat:Nat)]) nR dy a;rw[Lt]at this;exact this
def Bq (j:ah ak) (n c:Nat) (bs:List aU) (w:Wd) (f:aY w w j n c bs) (D:n<=100000000000000):
 Calls prog 176 #[slice j n c] w λe w'=> ∃v,e= .returned v/\dJ w' w v bs/\az w w':=by obtain⟨q,u,t,y,B⟩:=info_parts uW;have p:=f.1;subst p;have m:=f.reads;obtain _|a:=j;{have l:=Mf w none bs.length c;simp only[Option.isNone]at l;go_enter func176,ntmps176;go_wp2;go_ret;(have d:bs.length=0:=by obtain d|d:=jY bs.length;{exact d};exact Em);have z:=je d;subst z;exact⟨_,rfl,dJ.nil _ _,aN⟩};have l:=Mf w (some a) bs.length c;simp only[Option.isNone]at l;have o:(w.alloc (.cells #[] 5)).ownsRow w 5 1 (bR w 0 0) 0 []:=⟨iy,.inr ⟨w,0,#[],rfl,ny,heap_alloc_new w _,iy,by unfold maxLen;omega,iy,iy⟩⟩;obtain⟨r,A,s⟩:=aM (m.alloc ny (.cells #[] 5)) (sl bs) o;clear m o f;go_enter func176,ntmps176;(go_wp2_with(at_builtin;refine nd _ rfl (.tmp 5) (.tmp 6) 34 rfl w 5 q (int .u8 0) 1 1 underlying34 u t y B rfl dy (bR w 0 0) 0 [] rfl s w (some a) bs.length c (Lib.byteCells bs) rfl r A my oy iy ?_;intro C F g i E));exact pZ
def Bj (base:Nat) (v:ai) (bs:List aU) (n:Int) (W:0<=n/\n<=1152921504606846976) (Z:bs.length<=1000000000) (w:Wd) (O:base<=w) (x:ki w base v bs):
 Calls prog 173 #[v,n] w λe w'=> ∃a,e= .returned a/\dJ w' base a (bs++cZ n.toNat)/\Below base w w'/\w.grownBy w' v.ownBlock/\sN w v a:=by
 have M:decide (n<0)=false:=bj oy;have R:decide ((1152921504606846976:Int)<n)=false:=bj oy;have V:=hJ x;clear x;go_enter func173,ntmps173;go_wp2;clear M R;go_loopw[0,1] (λA m wr=> ∃ (f:Nat) (k:Nat) (cs:List aU),m=k/\k<sD f/\k<=1152921504606846976/\0<f/\f<=9/\cs++iW f k=bs++cZ n.toNat/\cs.length+f=bs.length+9/\ki wr base A cs/\base<=wr/\Below base w wr/\w.grownBy wr v.ownBlock/\sN w v A) (λ_ m _=>(intOf m).toNat);case atStart=>exact⟨9,n.toNat,bs,bh,by simp only[sD];omega,oy,oy,oy,rfl,rfl,V,O,aN,mK _ _,.inl rfl⟩
 case round=>obtain⟨f,k,cs,rfl,o,G,X,F,z,a1,y,c,C,l,i⟩:=hrel;obtain⟨B,E⟩:=aq z y;clear z y;by_cases K:128<=k;{have U:decide ((128:Int)<=k):=bG oy;obtain⟨f,rfl⟩: ∃g,f=g+1:=⟨f-1,oy⟩;(have S:0<f:=by obtain rfl|J:=jY f;{simp only[sD]at o;omega};exact J);(have I:k/128<sD f:=by rw[sD]at o;omega);(have b:(cs++[UInt8.ofNat (k%128+128)])++iW f (k/128)=bs++cZ n.toNat:=by rw[<-B.o,iW,aG oy,ed];rfl);have r:((UInt8.ofNat (k%128+128)).toNat:Nat)=k%128+128:=aC.u8 _ oy;have t:=hJ b;(have d:(wr.alloc (.cells #[int .u8 ((k:Int)%128+128)] 5)).cell? (an wr 0)=some (int .u8 ((UInt8.ofNat (k%128+128)).toNat:Nat)):=by rw[r];exact(af.new wr 5 #[int .u8 ((k:Int)%128+128)]).cell 0);obtain⟨s,q⟩:=aq d (E.below (aN.alloc ny (.cells #[int .u8 ((k:Int)%128+128)] 5)) c);clear b d o;(go_wp2_with(at_builtin;refine FK rfl _ _ rfl base _ cs rfl q oy uy wr (UInt8.ofNat (k%128+128)) rfl s ?_;intro a D p j u h));(have L:wr<=D.heap.size:=by have a0:=j.size;have Y:(wr.alloc (.cells #[int .u8 ((k:Int)%128+128)] 5)).heap.size=wr+1:=iy;omega);have P:=C.trans ((aN.alloc c (.cells #[int .u8 ((k:Int)%128+128)] 5)).trans j);(have H:(cs++[UInt8.ofNat (k%128+128)]).length+f=bs.length+9:=by rw[bu,length_singleton];omega);have T:((k:Int)/128)=((k/128:Nat):Int):=(Int.natCast_ediv k 128).symm;have Q:=cK (Nat.div_le_self k 128) G;have N:=Nat.le_of_succ_le F;rw[T];exact⟨⟨f,k/128,cs++[UInt8.ofNat (k%128+128)],rfl,I,Q,S,N,t,H,.inl p,cK c L,P,l.DE i (((World.grownBy_alloc wr _ none).but _).trans u),i.step l.size (by simp at h;exact h)⟩,ahc k K⟩};have U:decide ((128:Int)<=k)=false:=bj oy;(have b:cs++[UInt8.ofNat k]=bs++cZ n.toNat:=by rw[<-B.o];obtain⟨f,rfl⟩: ∃g,f=g+1:=⟨f-1,oy⟩;rw[iW,aK oy]);have r:((UInt8.ofNat k).toNat:Nat)=k:=aC.u8 _ oy;have t:=hJ b;(have d:(wr.alloc (.cells #[int .u8 (k:Nat)] 5)).cell? (an wr 0)=some (int .u8 ((UInt8.ofNat k).toNat:Nat)):=by rw[r];exact(af.new wr 5 #[int .u8 (k:Nat)]).cell 0);obtain⟨s,q⟩:=aq d (E.below (aN.alloc ny (.cells #[int .u8 (k:Nat)] 5)) c);clear b d o;(go_wp2_with(at_builtin;refine FK rfl _ _ rfl base _ cs rfl q oy uy wr (UInt8.ofNat k) rfl s ?_;intro a D p j u h));go_ret;exact⟨a,rfl,by rw[<-t.o];exact p,C.trans ((aN.alloc c _).trans j),l.DE i (((World.grownBy_alloc wr _ none).but _).trans u),i.step l.size (by simp at h;exact h)⟩
def Bu (base v bs s) (y:s.size<=65536) (C:bs.length<=100000000) (w) (l:base<=w.heap.size) (f:ki w base v bs):
 Calls prog 175 #[v,string s] w λe w'=> ∃a,e= .returned a/\dJ w' base a (bs++iA s)/\Below base w w'/\w.grownBy w' v.ownBlock:=by
 let⟨i,p,o,q,j⟩:=info_parts uW;have B:decide ((65536:Int)<s.size)=false:=bj oy;have u:=hJ f;go_enter func175,ntmps175;go_wp2_with fail
 refine(Bj base v bs (s.size:Nat) oy oy w l u.o).mono ?_;rintro e r ⟨z,rfl,n,b,t,h⟩;have E:=fJ (((s.size:Nat):Int).toNat);have A:=b.size;have d:=hJ n;have D:(bs++cZ (((s.size:Nat):Int).toNat)).length<=100000009:=by rw[bu];omega
 go_wp2_with(at_builtin;refine Lib.wpList_append_own_string _ rfl _ _ 34 9 rfl base 5 i underlying34 underlying9 p o q j _ _ _ rfl d s rfl my oy oy ?_;intro a F m c _)
 go_ret;refine⟨a,rfl,?_,b.trans ((Below.refl base r).grown c oy (λk e=>(d.lt k e).1)),t.DE h c⟩;have g:(bs++cZ (((s.size:Nat):Int).toNat))++s.data.toList=bs++iA s:=by unfold iA;rw[aG oy,Int.toNat_natCast,ed]
 unfold dJ;rw[<-g,bu,show s.data.toList.length=s.size from kI];have x:Lib.byteCells ((bs++cZ (((s.size:Nat):Int).toNat))++s.data.toList)=Lib.byteCells (bs++cZ (((s.size:Nat):Int).toNat))++Lib.strCells s:=by unfold Lib.byteCells Lib.strCells;rw[ir]
 rw[x];exact m
def jg (A n c bs m) (j:0<=m/\m<=1152921504606846976) (o:n<=100000000) (w) (b:aY w w A n c bs):
 Calls prog 128 #[slice A n c,int .i64 m] w λe w'=> ∃d,e= .returned d/\dJ w' w d (bs++cZ m.toNat)/\az w w':=by
 have l:=b.1;have i:=hJ b;go_enter func128,ntmps128;go_wp2_with fail
 refine(Bq A n c bs w i oy).mono ?_;rintro e g ⟨k,rfl,f,a⟩;go_wp2_with fail
 refine(Bj w k bs m j oy g a.size (.inl f)).mono ?_;exact RU
def ID (A n c bs s) (g:s.size<=65536) (m:n<=100000000) (w) (b:aY w w A n c bs):
 Calls prog 131 #[slice A n c,string s] w λe w'=> ∃d,e= .returned d/\dJ w' w d (bs++iA s)/\az w w':=by
 have l:=b.1;have j:=hJ b;go_enter func131,ntmps131;go_wp2_with fail
 refine(Bq A n c bs w j oy).mono ?_;rintro e i ⟨k,rfl,f,a⟩;go_wp2_with fail
 refine(Bu w.heap.size k bs s g oy i a.size (.inl f)).mono ?_;exact RU
def aam (A n c bs m) (j: -576460752303423488<=m) (l:m<=576460752303423488) (d:n<=100000000) (w) (i:aY w w A n c bs):
 Calls prog 179 #[slice A n c,int .i64 m] w λe w'=> ∃g,e= .returned g/\dJ w' w g (bs++me m)/\az w w':=by have b:=hJ i;have o:decide (m< -576460752303423488)=false:=bj oy;have k:decide ((576460752303423488:Int)<m)=false:=bj oy;by_cases a:m<0;{have f:=hJ (show me m=cZ (-2*m-1).toNat by unfold me;rw[aG oy,aK a]);go_enter func179,ntmps179;(go_wp2_with fail);refine(jg A n c bs (-2*m-1) oy d w b).mono ?_;exact RJ};have f:=hJ (show me m=cZ (2*m).toNat by unfold me;rw[aG oy,aG a]);go_enter func179,ntmps179;(go_wp2_with fail);refine(jg A n c bs (2*m) oy d w b).mono ?_;exact RJ
def adM (A n c bs) (o:A=none\/0<n) (w) (f:aY w w A n c bs):
 Calls prog 174 #[slice A n c] w λe w'=> ∃v,e= .returned v/\ki w' w v bs/\w=w':=by refine zx λl t=>?_;have i:=hJ f;obtain _|a:=A;{(have d:n=0:=by obtain d|d:=jY n;{exact d};let⟨b,m,x,e,_⟩:=i.at_ d;cases e);subst d;go_enter func174,ntmps174;go_wp2;have g:=je l;subst g;go_ret;exact⟨_,rfl,.inl (dJ.nil _ _),rfl⟩};(have p:0<n:=by obtain f|f:=o;cases f;exact f);let⟨b,m,e,q,u⟩:=aA.at_ i p;cases e;go_enter func174,ntmps174;go_wp2;go_ret;subst l;refine⟨_,rfl,.inr ⟨b,m,rfl,q,λj s h=>?_⟩,rfl⟩;unfold Lib.byteCells at h;rw[dw]at h;let⟨x,g,r⟩:=Option.map_eq_some_iff.1 h;have:=u j x g 0 s (by rw[<-r];rfl);simpa using this
def uw (s):(iA s).length<=9+s.size:=by unfold iA;split;{simp};have:=fJ s.size;rw[bu,show s.data.toList.length=s.size from kI];omega
def Gn (A n c bs) (b0:A=none\/0<n) (d1:n<=10000000) (B m d ls) (E:aa.ar ls) (w) (O:aY w w A n c bs) (g:aH w w B m d ls):
 Calls prog 127 #[slice A n c,slice B m d] w λe w'=> ∃T,e= .returned T/\dJ w' w T (bs++ml ls)/\az w w':=by
 have e3:=O.1;have x:=g.len;have c9:=g.cap;have C:=jG E;let⟨c7,R,H,c0⟩:=bJ O g E C.2;have d0:m<=16:=by rw[<-x];exact C.1
 go_enter func127,ntmps127;go_wp2_with fail
 refine mB (ng B m d ls true H w R) λa l=>?_;go_wp2_with fail
 refine(adM A n c bs b0 a (c7.later l)).mono ?_;rintro e d' ⟨X,rfl,c2,rfl⟩;go_wp2_with fail
 refine(Bj a X bs (m:Nat) oy oy a ny c2).mono ?_;rintro e e7 ⟨e4,rfl,c8,a7,-,-⟩;have d3:=fJ (((m:Nat):Int).toNat);have I:=hJ c8;let⟨h,o⟩:=xR (bs++cZ (((m:Nat):Int).toNat));have d5:h.length<=n+9:=by rw[<-o,bu];omega
 rw[o]at I;have b9:=hJ o;go_wp2;go_loopw[0,17] (λv i wr=> ∃ (k:Nat) (cs:List aU),k<=m/\i=int .i64 (k:Nat)/\dJ wr a v cs/\cs=h++(ls.take k).flatMap mj/\cs.length<=n+9+k*146/\az a wr) (λ_ i _=>m- (intOf i).toNat);case atStart=>exact⟨0,h,oy,rfl,I,iy,oy,a7⟩
 case round=>obtain⟨k,cs,e5,rfl,b1,a9,e0,r⟩:=hrel;let⟨u,G⟩:=aq b1 a9;have y:=bU l r;have e2:=r.size;by_cases J:k<m;{obtain⟨b,d9,rfl,c',M⟩:=R.at_ J;obtain⟨p,j⟩: ∃p,ls[k]?=some p:=⟨_,br (by rw[x];exact J)⟩;have f:=bC y (M k p j).1;have d8:=bC y (M k p j).2;have e1:=c0 p (cz j);(have Y:(ls.take (k+1)).flatMap mj=(ls.take k).flatMap mj++mj p:=by rw[gK,j,eX];simp);have c1:=hJ Y;have P:=u.alloc (.cells #[p.1,p.2] 69);have b8: ∀q,u0.ownBlock=some q->q<wr.heap.size:=λq e=>(u.lt q e).2;go_wp2;generalize D:World.alloc _ _=b5 at P⊢;have b7:=nQ D;have F:=bQ r D;have b2:=hJ P;have a':=F.size;refine wp_region_held_drew (S:=λW'=>af W' wr 69 #[p.1,p.2]/\az a W') ry ⟨b7.drew,F.drew⟩ (λhH=>?_);refine tg [0,1,2,4,5] (λ_ s=>gG (bD s.1) (bL s.1)) ?_;refine aV 3 λK t=>?_;go_simp;refine(Bu a u0 cs p.1 oy oy b5.drew a' (.inl b2)).mono ?_;rintro e a6 ⟨z,rfl,N,a0,c5⟩;show K _ _;have L:=hH.1.grown c5 (by intro e;have:=b8 _ e.symm;omega);have Z:=hH.2.trans a0;(have a1: ∀q,z.ownBlock=some q->q≠wr.heap.size:=by intro q e a3;subst a3;obtain⟨rfl,_⟩|⟨g,cap,e6,rfl,_,b6,_⟩:=N.2;{cases e};injection e with e;simp only at e;subst e;have f:=L;unfold af at f;rw[b6]at f;injection f with f;injection f with _ f _;exact absurd f dy);let⟨a2,c3⟩:=aq a1 N;refine be t ⟨L,Z⟩ λhH=>?_;refine aV 6 λK t=>?_;go_simp;have d2:=uw p.1;refine(Bu a z (cs++iA p.1) p.2 oy (by rw[bu];omega) a6 hH.2.size (.inl c3)).mono ?_;rintro e d7 ⟨d4,rfl,U,W,b'⟩;show K _ _;have a8:=hH.1.grown b' (λe=>a2 _ e.symm rfl);have Q:=hH.2.trans W;let⟨a4,b4⟩:=aq U Q;have d6:=uw p.2;refine be t ⟨a8,Q⟩ λhH=>?_;refine te [7] ?_;(have c4:((cs++iA p.1)++iA p.2).length<=n+9+(k+1)*146:=by rw[bu,bu];omega);(have V:(cs++iA p.1)++iA p.2=h++(ls.take (k+1)).flatMap mj:=by rw[c1.o,G.o];unfold mj;simp[ed]);have a5:=hJ V;go_wp2;go_roundw;(case rel=>exact⟨k+1,_,oy,bh,a4,a5,c4,b4⟩);case measure=>exact cn};obtain rfl:k=m:=oy;(have c6:cs=bs++ml ls:=by rw[G.o,dE oy,<-b9.o];unfold ml tH;rw[aK H.o,x,Int.toNat_natCast,ed]);have b3:=hJ c6;go_wp2;go_ret;exact⟨_,rfl,by rw[<-b3.o];exact nk u l.size,y⟩
def Di (n:Int) (b:0<=n) (c:n<2^63):IntKind.i64.wrap n=n:=by obtain⟨a,rfl⟩:=Int.eq_ofNat_of_zero_le b;have e:(a:Int)%2^64=a:=Int.emod_eq_of_lt oy oy;simp only[IntKind.wrap,IntKind.bits,IntKind.signed,e];rw[if_neg];simp;omega
def agF (b k y:Nat) (g:k<=8) (d:b<2^ (7*k)) (hy:y<128):Go.bits .or .i64 (b:Int) (wrap64 ((y:Int)*2^ (7*k)))=((b+y*2^ (7*k):Nat):Int):=by
 obtain⟨P,a⟩: ∃P,2^ (7*k)=P:=⟨_,rfl⟩;have h:P<=72057594037927936:=by rw[<-a];exact Nat.le_trans (Nat.pow_le_pow_right oy (show 7*k<=56 by omega)) dy
 have f:y*P<=127*P:=Nat.mul_le_mul_right _ oy;have c:((2:Int)^ (7*k))=(P:Int):=by rw[<-a,Int.natCast_pow];rfl
 have e:wrap64 ((y:Int)*P)=((y*P:Nat):Int):=by rw[<-Int.natCast_mul];unfold wrap64;omega
 rw[a]at d;rw[c,e,a];have:=bits_join_low .i64 63 dy Di (7*k) (b:Int) ((y*P:Nat):Int) oy (by rw[c];omega) oy oy (by rw[c,Int.natCast_mul];exact Int.mul_emod_left _ _) oy;rw[this];omega
namespace aC
def aaV {f:Nat} {b:Bool} {c:aU} (a: ¬c.toNat<128):iU (f+1) b (c::l)=(iU f false l).map λp=>(c.toNat-128+128*p.1,p.2):=by rw[iU,aG a];cases iU f false l<;>rfl
def aaY {f:Nat} {b:Bool} {c:aU} (a:c.toNat<128):iU (f+1) b (c::l)=if c.toNat=0/\b=false then none else some (c.toNat,l):=by rw[iU,aK a]
end aC
def aY.DB {b k:Nat} (d:aY W B (some (b i)) n c bs) (a:k<=n):aY W B (some (b (i+k))) (n-k) (c-k) (bs.drop k):=by have:=aA.drop d a;rw[Nat.mul_one]at this;exact this
def aY.end_ {k:Nat} {A':ah ak} (a:aY W B F0 n c bs) (b:n<=k):aY W B A' (n-k) 0 (bs.drop k):=by have d:=a.1;rw[drop_of_length_le oy,show n-k=0 by omega];exact⟨rfl,ny,oy,λa=>absurd a oy⟩
def iS (a A':ah ak):Prop:= ∀p:ak,A'=some p-> ∃q:ak,a=some q/\p.block=q.block
def ahM (w:Wd) (b:ah ak) (bs:List aU) (e:Ending) (w':Wd):Prop:=
 ∃ (N:Int) (A':ah ak) (n' c':Nat) (a:Int),e= .returned (tuple #[N,slice A' n' c',a])/\az w w'/\((cr bs=none/\a≠0/\N=0/\A'=none/\n'=0/\c'=0)\/ ∃v r,cr bs=some (v,r)/\a=0/\N=(v:Nat)/\aY w w A' n' c' r/\iS b A')
def ub (A n c bs w) (f:aY w w A n c bs):
 Calls prog 181 #[slice A n c] w (ahM w A bs):=by
 refine zx λl t=>?_;have B:=hJ f;clear f;go_enter func181,ntmps181;go_wp2;go_loopw[5,7] (λv i wr=> ∃ (k d:Nat),k<=9/\k<=n/\i=k/\v=d/\d<2^ (7*k)/\iU 9 true bs=(iU (9-k) (decide (k=0)) (bs.drop k)).map (λp=>(d+2^ (7*k)*p.1,p.2))/\w=wr) (λ_ i _=>9- (intOf i).toNat);case atStart=>refine⟨0,0,oy,oy,rfl,rfl,iy,?_,rfl⟩;simp
 case round=>obtain⟨k,d,a6,W,rfl,rfl,s,a,rfl⟩:=hrel;have z:=hJ a;clear a;by_cases a0:k<9;{have V:decide ((k:Int)<9):=decide_eq_true oy;by_cases J:k<n;{have Z:((k:Int)==n)=false:=uy;obtain⟨b,Y,x,rfl,R,u,X⟩:=B.o.at_ J;have a7:=x.toNat_lt;(have y:bs.drop k=x::bs.drop (k+1):=by have:=jE (show k<bs.length by omega);rw[this];congr 1;exact(bZ.1 u).2);(have F:Go.bits .or .i64 (d:Int) (wrap64 ((x.toNat:Int)%128*2^ (7*k)))=((d+x.toNat%128*2^ (7*k):Nat):Int):=by have:=agF d k (x.toNat%128) oy s oy;rw[<-this,Int.natCast_emod];rfl);let⟨a2,g⟩:=xR (d+x.toNat%128*2^ (7*k));rw[g]at F;let⟨P,m⟩:=xR (2^ (7*k));(have o:2^ (7*(k+1))=128*P:=by rw[Nat.mul_add,Nat.pow_add,m];omega);have a:=z.o;rw[y,show 9-k=(9- (k+1))+1 by omega,m]at a;rw[m]at g s;by_cases S:128<=x.toNat;{have L:decide ((128:Int)<=x.toNat):=bG oy;rw[aaV oy,Option.map_map]at a;(have D:a2<2^ (7*(k+1)):=by rw[o,<-g];have:x.toNat%128*P<=127*P:=Nat.mul_le_mul_right _ oy;omega);(have E:iU 9 true bs=(iU (9- (k+1)) (decide (k+1=0)) (bs.drop (k+1))).map (λp=>(a2+2^ (7*(k+1))*p.1,p.2)):=by rw[a,show decide (k+1=0)=false from bj oy];congr 1;funext p;simp only[Function.comp];rw[o,<-g];congr 1;rw[show x.toNat%128=x.toNat-128 by omega,Nat.mul_add,<-Nat.add_assoc,Nat.mul_comm P (x.toNat-128)];congr 1;rw[<-Nat.mul_assoc,Nat.mul_comm P 128]);let⟨H,I⟩:=aq E D;clear a E D g m o s u y;go_wp2;go_roundw;(case rel=>exact⟨k+1,a2,oy,oy,bh,rfl,I.o,H.o,trivial⟩);case measure=>exact cn};have L:decide ((128:Int)<=x.toNat)=false:=bj oy;rw[aaY oy]at a;have N:x.toNat%128=x.toNat:=Nat.mod_eq_of_lt oy;rw[N]at g;by_cases M:1152921504606846976<a2;{have O:decide ((1152921504606846976:Int)<a2):=bG oy;(have j:cr bs=none:=by unfold cr;rw[a];obtain r|r:=Decidable.em (x.toNat=0/\decide (k=0)=false);{rw[aK r];rfl};rw[aG r];show(if aC.top<d+P*x.toNat then none else some (d+P*x.toNat,bs.drop (k+1)))=none;rw[aK (by rw[Nat.mul_comm,g];exact M)]);have q:=hJ j;clear j a g m o s u y;go_wp2;refine vW ?_;exact Oj};have O:decide ((1152921504606846976:Int)<a2)=false:=bj oy;by_cases C:x.toNat=0/\0<k;{have Q:decide ((0:Int)<k):=bG oy;(have j:cr bs=none:=by unfold cr;rw[a,aK ⟨C.1,bj oy⟩];rfl);have q:=hJ j;(have a1:Go.bits .or .i64 (d:Int) 0=(a2:Int):=by have:=F;rw[C.1]at this;simpa[wrap64]using this);clear j a g m o s u y;go_wp2;refine vW ?_;exact⟨0,none,0,0,1,rfl,aN,.inl ⟨q.o,dy,rfl,rfl,rfl,rfl⟩⟩};(have G:cr bs=some (a2,bs.drop (k+1)):=by unfold cr;(rw[a,aG (by intro r;apply C;refine⟨r.1,?_⟩;have:=of_decide_eq_false r.2;omega)]);simp only[Option.map_some];rw[Nat.mul_comm,g,aG tK]);have K:=hJ G;clear G a g m o s u y;go_wp2;(all_goals(refine cO λhH=>?_;refine ts [0,1,2,3] ?_;(have a5:IntKind.i64.wrap ((k:Int)+1)=((k+1:Nat):Int):=by rw[Di _ oy oy];rfl);have Q:(0:Int)<=((k+1:Nat):Int):=oy;have U:((k+1:Nat):Int)<=n:=oy;have a4:(0:Int)<=k+1:=oy;have a3:k+1<=(n:Int):=oy;refine te [4,5,6,7] ?_;go_wp2));all_goals(refine vW ?_;refine⟨_,_,_,_,0,rfl,hH,.inr ⟨a2,_,K.o,rfl,rfl,?_,λp e=>by injection e with e;exact⟨_,rfl,by rw[<-e]⟩⟩⟩;first |exact B.o.DB oy |exact B.o.end_ oy)};obtain rfl:k=n:=oy;(have j:cr bs=none:=by unfold cr;rw[z.o,drop_of_length_le oy,show 9-k=(9- (k+1))+1 by omega];rfl);have q:=hJ j;clear j;go_wp2;refine vW ?_;exact⟨0,none,0,0,3,rfl,aN,.inl ⟨q.o,dy,rfl,rfl,rfl,rfl⟩⟩};obtain rfl:k=9:=oy;(have j:cr bs=none:=by unfold cr;rw[z.o];rfl);have q:=hJ j;clear j;go_wp2;refine vW ?_;exact Oj
namespace aw
open aC (cZ cr iA dC me iV ml gU)
structure Sv where
 g:au
 r:au
 x:Tb
deriving DecidableEq
def pf (a:Al):Nat:=a.st.toNat+(if a.h.on=true then 4 else 0)+(if a.h.hit=true then 8 else 0)
def clip (v:Int):Int:=min (max v (-576460752303423488)) 576460752303423488
def lW (a:Al):Bs:=ml a.l++(cZ (pf a)++(cZ a.h.since.toNat++(cZ a.h.cB.toNat++me (clip a.v))))
def oN (b:Bs):ah (Al×Bs):=
 match gU b with
 |none=>none
 |some (l,a)=>
  match cr a with
  |none=>none
  |some (s,c)=>
   if 15<s then none
   else match cr c with
    |none=>none
    |some (h,f)=>
     match cr f with
     |none=>none
     |some (g,e)=>
      match iV e with
      |none=>none
      |some (v,d)=>some (⟨l,⟨decide (s/4%2=1),(h:Int),decide (s/8%2=1),(g:Int)⟩,((s%4:Nat):Int),v⟩,d)
def lh:Nat->Bs->ah (List Al×Bs)
 |0,b=>some ([],b)
 |n+1,b=>
  match oN b with
  |none=>none
  |some (a,c)=>
   match lh n c with
   |none=>none
   |some (l,d)=>some (a::l,d)
def mQ (s:Sv):Bs:=iA s.g++(iA s.r++(cZ s.x.full.toNat++(cZ s.x.a.length++s.x.a.flatMap lW)))
def oV (b:Bs):ah (Sv×Bs):=
 match dC b with
 |none=>none
 |some (g,a)=>
  match dC a with
  |none=>none
  |some (r,c)=>
   match cr c with
   |none=>none
   |some (f,h)=>
    match cr h with
    |none=>none
    |some (n,e)=>
     if 16<n then none
     else match lh n e with
      |none=>none
      |some (l,d)=>some (⟨g,r,⟨l,(f:Int)⟩⟩,d)
def lf:Nat->Bs->ah (List Sv×Bs)
 |0,b=>some ([],b)
 |n+1,b=>
  match oV b with
  |none=>none
  |some (a,c)=>
   match lf n c with
   |none=>none
   |some (l,d)=>some (a::l,d)
def Sv.k (s:Sv):Pr:=(s.g,s.r)
def ahead (a b:Sv):Bool:=decide (eI a.k b.k<0)
def bN (l:List Sv) (i:Nat):Bool:=
 match l[i]? with
 |none=>true
 |some s=>aa.name s.g&&aa.name s.r&&ae.ar s.x&& (match i with
  |0=>true
  |k+1=>match l[k]? with
   |none=>true
   |some q=>ahead q s)
def ar (l:List Sv):Bool:=decide (l.length<=256)&&cI (bN l) l.length
def put (l:List Sv):Bs:=if ar l=true then cZ l.length++l.flatMap mQ else[]
def get (b:Bs):ah (List Sv):=
 match cr b with
 |none=>none
 |some (n,r)=>
  if 256<n then none
  else match lf n r with
   |none=>none
   |some (l,a)=>if a=[]/\ar l=true then some l else none
def find (l:List Sv) (g r:au):Tb:=
 if ar l=true then(match l.find? λs=>decide (s.g=g/\s.r=r)with|none=>ae.zero|some s=>s.x)else ae.zero
def eP (v:Int):Prop:= -576460752303423488<=v/\v<=576460752303423488
def afc {v:Int} (a:eP v):clip v=v:=by unfold clip;have:=a.1;have:=a.2;omega
theorem afK {a:Al} (b:gi a):((pf a%4:Nat):Int)=a.st/\decide (pf a/4%2=1)=a.h.on/\decide (pf a/8%2=1)=a.h.hit/\pf a<=15:=by have c:=(kR b).2.2;grind[pf]
def aas {a:Al} (d:gi a) (b:eP a.v) (r):oN (lW a++r)=some (a,r):=by
 have c:=kR d;let⟨e,g,f,k⟩:=afK d;have l:=bm.jJ c.2.1;unfold lW oN;have j:a.h.since.toNat<=aC.top:=by unfold aC.top;omega
 have i:a.h.cB.toNat<=aC.top:=by unfold aC.top;omega
 rw[ed,ZT c.1];simp only;rw[ed,kN tK];simp only;rw[aG oy,ed,kN j];simp only;rw[ed,kN i];simp only;rw[afc b,abh b.1 b.2];simp only;rw[e,g,f,Int.toNat_of_nonneg oy,Int.toNat_of_nonneg oy]
def JG: ∀ (l:List Al) (r:Bs),(∀a∈l,gi a/\eP a.v)->lh l.length (l.flatMap lW++r)=some (l,r)
 |[],r,_=>rfl
 |a::l,r,b=>by
  have c:=b a (gl ..);rw[cH,lh,gX,ed,aas c.1 c.2];simp only;rw[JG l r wB]
theorem kj (a:aa.name s):s.size<=64:=by simp_all[cm,dP,aa.name]
theorem abA {s:Sv} (f:aa.name s.g) (d:aa.name s.r) (c:ae.ar s.x) (g: ∀a∈s.x.a,eP a.v) (r):oV (mQ s++r)=some (s,r):=by
 have e:=ae.jJ c;unfold mQ oV;have i:s.x.full.toNat<=aC.top:=by grind[ae.cj,aC.top]
 rw[ed,xl (aR (kj f))];simp only;rw[ed,xl (aR (kj d))];simp only;rw[ed,kN i];simp only;rw[ed,kN tK];simp only;rw[aG oy,JG _ _ (λa b=>⟨pA c b,g a b⟩)];simp only;rw[Int.toNat_of_nonneg e.2.1.1]
theorem gY {l:List Sv} {s:Sv} {k:Nat} (a:l[k]?=some s):bN l k=(aa.name s.g&&aa.name s.r&&ae.ar s.x&& (match k with
 |0=>true
 |k+1=>match l[k]? with
  |none=>true
  |some q=>ahead q s)):=by grind[bN]
theorem rY {l:List Sv} (a:ar l) {s:Sv} (c:s∈l):aa.name s.g/\aa.name s.r/\ae.ar s.x:=by unfold ar at a;rw[cm]at a;let⟨k,b⟩:=fF c;have:=fa.1 a.2 k (bZ.1 b).1;rw[gY b]at this;grind
def Jj: ∀ (l:List Sv) (r:Bs),(∀s∈l,aa.name s.g/\aa.name s.r/\ae.ar s.x/\ ∀a∈s.x.a,eP a.v)->lf l.length (l.flatMap mQ++r)=some (l,r)
 |[],r,_=>rfl
 |s::l,r,b=>by
  have c:=b s (gl ..);rw[cH,lf,gX,ed,abA c.1 c.2.1 c.2.2.1 c.2.2.2];simp only;rw[Jj l r wB]
theorem pD {l:List Sv} (c:ar l) (d: ∀s∈l,∀a∈s.x.a,eP a.v):get (put l)=some l:=by
 have e:l.length<=256:=by grind[ar]
 unfold put get;rw[aK c,kN tK];simp only;rw[aG oy];have:=Jj l [] (λs b=>⟨(rY c b).1,(rY c b).2.1,(rY c b).2.2,d s b⟩);grind
end aw
namespace aW
open aC (cZ cr)
def max_:Nat:=9007199254740992
def eb (g:Nat) (p:Bs):Bs:=if max_<g then[]else if 65536<(cZ g++p).length then[]else dZ.put (cZ g++p)
def whole (b:Bs):ah (Nat×Bs):=
 match dZ.get b with
 |none=>none
 |some (p,a)=>
  if a=[]then
   match cr p with
   |none=>none
   |some (g,q)=>if max_<g then none else some (g,q)
  else none
def slot (a:ah (Nat×Bs)) (i:Nat):ah (Nat×Bs):=
 match a with
 |none=>none
 |some (g,p)=>if g%2=i then some (g,p)else none
def later (x y:ah (Nat×Bs)):ah (Nat×Bs):=
 match x,y with
 |none,y=>y
 |some x,none=>some x
 |some x,some y=>if x.1<y.1 then some y else some x
def read (a b:Bs):ah (Nat×Bs):=later (slot (whole a) 0) (slot (whole b) 1)
def gen (a b:Bs):Nat:=match read a b with|none=>0|some x=>x.1+1
def write (a b:Bs) (g:Nat) (p:Bs) (n:Int):Bs×Bs:=
 if eb g p=[]then(a,b)else if g%2=0 then((eb g p).take n.toNat,b)else(a,(eb g p).take n.toNat)
theorem YR (a:eb g p≠ []):whole (eb g p)=some (g,p):=by unfold eb at a⊢;split at a;{exact absurd rfl a};rename_i b;rw[aG b];split at a;{exact absurd rfl a};rename_i c;rw[aG c];unfold whole;have:=dZ.pD (p:=cZ g++p) oy [];rw[na]at this;rw[this];simp only;rw[aK trivial,kN (by grind[max_,aC.top])];simp only;rw[aG b]
def adC {k:Nat} (a:k<(eb g p).length):whole ((eb g p).take k)=none:=by unfold eb at a⊢;split at a;{simp at a};rename_i b;rw[aG b];split at a;{simp at a};rename_i c;rw[aG c];unfold whole;rw[agm a]
theorem abr {a:Bs} {x:Nat×Bs} (d:read a b=some x):x.1<=max_:=by
 have e: ∀ {c:Bs} {i:Nat} {x:Nat×Bs},slot (whole c) i=some x->x.1<=max_:=by grind[slot,whole]
 unfold read later at d;grind
theorem wJ {a:ah (Nat×Bs)} {x:Nat×Bs} (b:slot a i=some x):x.1%2=i:=by unfold slot at b;grind
def ud (a:g%2=i):slot (some (g,p)) i=some (g,p):=by show(if g%2=i then some (g,p)else none)=some (g,p);rw[aK a]
def Zl (a b):(read a b=none/\slot (whole a) 0=none/\slot (whole b) 1=none)\/ ∃x,read a b=some x/\((x.1%2=0/\slot (whole a) 0=some x)\/(x.1%2=1/\slot (whole b) 1=some x)):=by unfold read later;rcases c:slot (whole a) 0 with _|x<;>rcases d:slot (whole b) 1 with _|y;{simp};{exact .inr ⟨y,rfl,.inr ⟨wJ d,rfl⟩⟩};{exact .inr ⟨x,rfl,.inl ⟨wJ c,rfl⟩⟩};right;simp only;split;{exact⟨y,rfl,.inr ⟨wJ d,rfl⟩⟩};exact⟨x,rfl,.inl ⟨wJ c,rfl⟩⟩
def Jk {a c:Bs} {d:ah (Nat×Bs)} (h:whole c=d) (f:d=none\/d=some (gen a b,p)):
 (gen a b%2=0->read c b=(d.or (read a b)))/\(gen a b%2=1->read a c=(d.or (read a b))):=by obtain⟨e,n,m⟩|⟨x,e,k⟩:=Zl a b;{(have l:gen a b=0:=by unfold gen;rw[e]);refine⟨λ_=>?_,λi=>oy⟩;rw[e];unfold read;rw[m,h];obtain rfl|rfl:=f;{rfl};rw[ud oy];rfl};(have l:gen a b=x.1+1:=by unfold gen;rw[e]);obtain⟨j,g⟩|⟨j,g⟩:=k;{refine⟨λi=>oy,λ_=>?_⟩;rw[e];unfold read;rw[g,h];obtain rfl|rfl:=f;{rfl};rw[ud oy];show(if x.1<gen a b then some (gen a b,p)else some x)=_;rw[aK oy];rfl};refine⟨λ_=>?_,λi=>oy⟩;rw[e];unfold read;rw[g,h];obtain rfl|rfl:=f;{rfl};rw[ud oy];show(if gen a b<x.1 then some x else some (gen a b,p))=_;rw[aG oy];rfl
theorem VQ {a:Bs} {n:Int} (d:eb (gen a b) p≠ []) (e:((eb (gen a b) p).length:Int)<=n):read (write a b (gen a b) p n).1 (write a b (gen a b) p n).2=some (gen a b,p):=by
 have c:whole ((eb (gen a b) p).take n.toNat)=some (gen a b,p):=by rw[dE oy];exact YR d
 have:=Jk (a:=a) (b:=b) c (.inr rfl);grind[write]
theorem YW {a:Bs} {n:Int} (f: ¬(eb (gen a b) p≠ []/\((eb (gen a b) p).length:Int)<=n)):read (write a b (gen a b) p n).1 (write a b (gen a b) p n).2=read a b:=by unfold write;split;{rfl};rename_i d;(have e:n<((eb (gen a b) p).length:Int):=by grind);have g:=length_pos_iff.2 d;have c:whole ((eb (gen a b) p).take n.toNat)=none:=adC oy;have:=Jk (a:=a) (b:=b) (p:=p) c (.inl rfl);grind
end aW
namespace aB
open aa (Pr)
structure Nt where
 l:List Pr
 dq:Bool
 t:Int
 cN:Int
 next:Int
deriving DecidableEq
structure Qu where
 n:List Nt
 vj:Int
 lost:Int
deriving DecidableEq
def zero:Qu:=⟨[],0,0⟩
def cj:Int:=9007199254740992
def bS (t:Int):Bool:=decide (0<=t)&&decide (t<=cj)
def dD (t:Int):Int:=min (max t 0) cj
def lT (n:Nt):Bool:=aa.ar n.l&&bS n.t&&bS n.next&&decide (0<=n.cN)&&decide (n.cN<8)
def bN (l:List Nt) (i:Nat):Bool:=
 match l[i]? with
 |none=>true
 |some n=>lT n
def ar (q:Qu):Bool:=decide (q.n.length<=16)&&bS q.vj&&bS q.lost&&cI (bN q.n) q.n.length
def aD (q:Qu):Qu:=if ar q=true then q else zero
def push (q:Qu) (l:List Pr) (a:Bool) (t:Int):Qu:=
 if aa.ar l=false then aD q
 else if 16<=(aD q).n.length then⟨(aD q).n,min ((aD q).vj+1) cj,(aD q).lost⟩
 else⟨(aD q).n++[⟨l,a,dD t,0,dD t⟩],(aD q).vj,(aD q).lost⟩
def ready (q:Qu) (now:Int):ah Nt:=
 match(aD q).n with
 |[]=>none
 |n::_=>if dD now<n.next then none else some n
def gN:Nat->Int
 |0=>1000
 |n+1=>if gN n<64000 then gN n*2 else gN n
def back (a:Int):Int:=min (gN a.toNat) 64000
def jl (n:Nt) (now:Int) (ok:Bool) (a:Int):List Nt×Int:=
 if ok=true then([],a)
 else if 7<=n.cN then([],min (a+1) cj)
 else([⟨n.l,n.dq,n.t,n.cN+1,dD (now+back n.cN)⟩],a)
def lj (q:Qu) (now:Int) (ok:Bool):Qu:=
 match ready q now with
 |none=>aD q
 |some f=>⟨(jl f (dD now) ok (aD q).lost).1++(aD q).n.tail,(aD q).vj,(jl f (dD now) ok (aD q).lost).2⟩
def put (n:Nt):Bs:=
 if aa.ar n.l/\bS n.t=true then dZ.put (ml n.l++(cZ (if n.dq=true then 1 else 0)++cZ n.t.toNat))else[]
theorem iH:bS t=true↔0<=t/\t<=cj:=by unfold bS;simp
def rV (t):bS (dD t):=by rw[iH];unfold dD cj;omega
def afP (a:bS t):dD t=t:=by rw[iH]at a;unfold dD;omega
def aaN (t):dD (dD t)=dD t:=afP (rV t)
def gY {l:List Nt} {n:Nt} {k:Nat} (a:l[k]?=some n):bN l k=lT n:=by unfold bN;rw[a]
theorem eo {q:Qu}:ar q=true↔q.n.length<=16/\bS q.vj/\bS q.lost/\ ∀n∈q.n,lT n:=by unfold ar;simp only[cm,dP,fa];constructor;{intro a;refine⟨a.1.1.1,a.1.1.2,a.1.2,λn d=>?_⟩;let⟨k,b⟩:=fF d;rw[<-gY b];exact a.2 k (bZ.1 b).1};intro a;refine⟨⟨⟨a.1,a.2.1⟩,a.2.2.1⟩,λi c=>?_⟩;rw[gY (br c)];grind
def ek (q):ar (aD q):=by exact ze
def fp {q:Qu} (a:ar q):aD q=q:=by unfold aD;rw[aK a]
theorem BI (q l dq t):ar (push q l dq t):=by have b:=eo.1 (ek q);unfold push;split;{exact ek q};rename_i c;split;{grind[iH,eo]};refine eo.2 ⟨by simp;omega,b.2.1,b.2.2.1,λn a=>?_⟩;obtain a|a:=eQ.1 a;{exact b.2.2.2 n a};simp_all[rV,decide_true,cm,dP,lT]
theorem abq {q:Qu} {now:Int} {n:Nt} (a:ready q now=some n):n∈(aD q).n/\(aD q).n=n::(aD q).n.tail:=by grind[ready]
theorem Jr (q now ok):ar (lj q now ok):=by have b:=eo.1 (ek q);unfold lj;split;{exact ek q};rename_i f g;let⟨e,k⟩:=abq g;have d: ∀n∈(aD q).n.tail,lT n:=λn a=>b.2.2.2 n (mem_of_mem_tail a);have c:=b.2.2.2 f e;(have j:(aD q).n.length=(aD q).n.tail.length+1:=by grind);have i:=iH.1 b.2.2.1;unfold jl;split;{grind[jb,eo]};split;{grind[jb,iH,eo]};rename_i h;refine eo.2 ⟨by grind,b.2.1,b.2.2.1,λn a=>?_⟩;obtain a|a:=eQ.1 a;{rw[fS]at a;subst a;unfold lT at c⊢;simp only[cm,dP,rV]at c⊢;grind};exact d n a
end aB
namespace aF
open aa (Pr)
open aB (Qu)
structure To where
 l:List Pr
 t:Int
deriving DecidableEq
def jC (x:List Pr) (l:List (List Pr)):Bool:=l.any λy=>decide (y=x)
theorem LQ {x:List Pr} {l:List (List Pr)}:jC x l=true↔x∈l:=by grind[jC]
def nC (y:To):Bool:=aa.ar y.l&&aB.bS y.t
def behind (x:List To) (i:Nat) (y:To):Bool:=
 match i with
 |0=>true
 |k+1=>match x[k]? with
  |none=>true
  |some z=>decide (aa.cmpL (aa.aD z.l) (aa.aD y.l)<0)
def bN (x:List To) (i:Nat):Bool:=
 match x[i]? with
 |none=>true
 |some y=>nC y&&behind x i y
def ar (x:List To):Bool:=decide (x.length<=64)&&cI (bN x) x.length
def iR (s:List (List Pr)) (a:Al):List (List Pr):=if a.st=2/\jC a.l s=false then s++[a.l]else s
def kU (bw:List Tb):List (List Pr):=dM aa.cmpL ((bw.flatMap gr).foldl iR [])
def ku (fr:List (List Pr)) (t:Int) (s:List To×Qu) (y:To):List To×Qu:=
 if jC y.l fr=true then(s.1++[y],s.2)else(s.1,aB.push s.2 y.l false t)
def place (x:List To) (l:List Pr):Nat:=(x.takeWhile λy=>decide (aa.cmpL y.l l<0)).length
def ins (x:List To) (p:Nat) (y:To):List To:=x.take p++y::x.drop p
def gP (t again:Int) (s:List To×Qu) (l:List Pr):List To×Qu:=
 match s.1[place s.1 l]? with
 |some y=>
  if y.l=l then(if again<=t-y.t then(s.1.set (place s.1 l) ⟨y.l,t⟩,aB.push s.2 l true t)else s)
  else if s.1.length<64 then(ins s.1 (place s.1 l) ⟨l,t⟩,aB.push s.2 l true t)else s
 |none=>if s.1.length<64 then(ins s.1 (place s.1 l) ⟨l,t⟩,aB.push s.2 l true t)else s
def aD (x:List To):List To:=if ar x=true then x else[]
def tell (x:List To) (q:Qu) (bw:List Tb) (t again:Int):List To×Qu:=
 (kU bw).foldl (gP (dD t) (max again 0)) ((aD x).foldl (ku (kU bw) (dD t)) ([],aB.aD q))
structure Good (x:List To):Prop where
 ok: ∀y∈x,nC y
 lt:x.Pairwise λa b=>aa.cmpL a.l b.l<0
def gY {x:List To} {y:To} {k:Nat} (a:x[k]?=some y):bN x k=(nC y&&behind x k y):=by unfold bN;rw[a]
theorem nW {x:List To} {y z:To} {k:Nat} (a:x[k]?=some z):behind x (k+1) y=decide (aa.cmpL (aa.aD z.l) (aa.aD y.l)<0):=by grind[behind]
theorem mH {y:To} (a:nC y):aa.ar y.l/\aB.bS y.t:=by grind[nC]
theorem Good.ar {x:List To} (b:Good x) (c:x.length<=64):aF.ar x:=by unfold aF.ar;rw[bG c,Bool.true_and,fa];intro i a;rw[gY (br a),b.ok _ (getElem_mem a),Bool.true_and];cases i with|zero=>rfl|succ k=>(rw[nW (br (show k<x.length by omega)),aa.fp (mH (b.ok _ (getElem_mem oy))).1,aa.fp (mH (b.ok _ (getElem_mem a))).1];exact bG (pairwise_iff_getElem.1 b.lt k (k+1) oy a oy))
theorem uH {x:List To} (b:ar x):Good x/\x.length<=64:=by
 unfold ar at b;rw[cm,fa]at b;have c: ∀y∈x,nC y:=by intro y hy;let⟨k,o⟩:=fF hy;have:=b.2 k (bZ.1 o).1;rw[gY o,cm]at this;exact this.1
 have q: ∀ {k:Nat} {y z:To},x[k]?=some z->x[k+1]?=some y->aa.cmpL z.l y.l<0:=by intro k y z l hy;have:=b.2 (k+1) (bZ.1 hy).1;rw[gY hy,cm,nW l,aa.fp (mH (c z (cz l))).1,aa.fp (mH (c y (cz hy))).1]at this;exact mT this.2
 have p: ∀d,∀ {a:Nat} {e f:To},x[a]?=some f->x[a+d+1]?=some e->aa.cmpL f.l e.l<0:=by intro d;induction d with|zero=>(intro a e f n g;exact q n g)|succ d ih=>(intro a e f n g;have r:=(bZ.1 g).1;obtain⟨m,s⟩: ∃m,x[a+d+1]?=some m:=⟨_,br oy⟩;grind[jh.trans])
 refine⟨⟨c,?_⟩,mT b.1⟩;exact aiP
def Good.nil:Good []:=⟨λy hy=>absurd hy iy,Pairwise.nil⟩
def VH (x):Good (aD x)/\(aD x).length<=64:=by unfold aD;split;{exact uH im};exact⟨Good.nil,iy⟩
def KQ (fr t): ∀ (x:List To) (s:List To×Qu),∃z,(x.foldl (ku fr t) s).1=s.1++z/\z.Sublist x
 |[],s=>⟨[],iy,Sublist.refl _⟩
 |y::x,s=>by
  let⟨z,b,a⟩:=KQ fr t x (ku fr t s y);rw[foldl_cons,b];unfold ku;split;{exact⟨y::z,iy,a.cons_cons y⟩};exact⟨z,rfl,a.cons y⟩
def Jd (fr t x q) (b:Good x):Good (x.foldl (ku fr t) ([],q)).1/\(x.foldl (ku fr t) ([],q)).1.length<=x.length:=by let⟨z,c,a⟩:=KQ fr t x ([],q);rw[c,jb];exact⟨⟨λy hy=>b.ok y (a.subset hy),b.lt.sublist a⟩,a.length_le⟩
theorem place_le (x l):place x l<=x.length:=by grind[place,takeWhile_sublist]
theorem adA {x:List To} {l:List Pr} {k:Nat} {y:To} (a:k<place x l) (hy:x[k]?=some y):aa.cmpL y.l l<0:=by unfold place at a;induction x generalizing k with|nil=>simp at a|cons z x ih=>(rw[takeWhile_cons]at a;grind)
theorem acH {x:List To} {l:List Pr} {y:To} (hy:x[place x l]?=some y):0<=aa.cmpL y.l l:=by induction x with|nil=>simp at hy|cons z x ih=>(unfold place at hy;rw[takeWhile_cons]at hy;split at hy;{rw[cH,getElem?_cons_succ]at hy;exact ih hy};grind)
theorem Lq {x:List To} (a:Good x) {l:List Pr} (j:nC ⟨l,t⟩) (n: ∀y,x[place x l]?=some y->y.l≠l):Good (ins x (place x l) ⟨l,t⟩):=by
 have r: ∀y∈x.take (place x l),aa.cmpL y.l l<0:=by intro y hy;let⟨k,b⟩:=fF hy;rw[getElem?_take]at b;split at b;{exact adA im b};cases b
 have i: ∀y∈x.drop (place x l),aa.cmpL l y.l<0:=by rcases c:x[place x l]? with _|z;{intro y hy;have:x.drop (place x l)=[]:=drop_eq_nil_iff.2 (by grind);rw[this]at hy;cases hy};(have d:aa.cmpL l z.l<0:=by have o:=acH c;have q:aa.cmpL z.l l≠0:=λe=>n z c ((jh.eq _ _).1 e);have p:=jh.jU z.l l;omega);have m:=(bZ.1 c).1;(have g:x.drop (place x l)=z::x.drop (place x l+1):=by rw[jE m];grind);intro y hy;rw[g]at hy;obtain rfl|hy:=fI.1 hy;{exact d};have f:=a.lt.sublist (drop_sublist (place x l) x);rw[g]at f;exact jh.trans _ _ _ d ((pairwise_cons.1 f).1 y hy)
 refine⟨λy hy=>?_,?_⟩;{unfold ins at hy;obtain hy|hy:=eQ.1 hy;{exact a.ok y (mem_of_mem_take hy)};obtain rfl|hy:=fI.1 hy;{exact j};exact a.ok y (mem_of_mem_drop hy)};unfold ins;rw[pairwise_append];refine⟨a.lt.sublist (take_sublist _ _),?_,?_⟩;{exact pairwise_cons.2 ⟨i,a.lt.sublist (drop_sublist _ _)⟩};grind[fI,jh.trans]
theorem acS {x:List To} (d:Good x) {k:Nat} {y:To} (hy:x[k]?=some y) (e:aB.bS t):Good (x.set k ⟨y.l,t⟩):=by have f:=mH (d.ok y (cz hy));refine⟨λz c=>?_,?_⟩;{obtain c|rfl:=mem_or_eq_of_mem_set c;{exact d.ok z c};grind[nC]};(have i:(x.set k ⟨y.l,t⟩).map (·.l)=x.map (·.l):=by exact QJ);have g:(x.map (·.l)).Pairwise λa b=>aa.cmpL a b<0:=pairwise_map.2 d.lt;grind
theorem IK {s:List To×Qu} (a:Good s.1) (c:s.1.length<=64) {l:List Pr} (j:aa.ar l) (f:aB.bS t) (again):Good (gP t again s l).1/\(gP t again s l).1.length<=64:=by
 have g:nC ⟨l,t⟩:=by unfold nC;rw[j,f];rfl
 have d:s.1.length<64->(ins s.1 (place s.1 l) ⟨l,t⟩).length<=64:=by grind[bu,cH,et,gJ,ins]
 unfold gP;split;{rename_i y hy;split;{rename_i e;split;{subst e;exact⟨acS a hy f,by grind⟩};exact⟨a,c⟩};rename_i k;split;{exact⟨Lq a g (λz b e=>k (by grind)),d im⟩};exact⟨a,c⟩};rename_i i;split;{exact⟨Lq a g (λz b=>by rw[i]at b;cases b),d im⟩};exact⟨a,c⟩
theorem Mh {s:List To×Qu} (a:aB.ar s.2) (l t again):aB.ar (gP t again s l).2:=by grind[gP,BI]
def No (fr t): ∀ (x:List To) (s:List To×Qu),aB.ar s.2->aB.ar (x.foldl (ku fr t) s).2
 |[],s,a=>a
 |y::x,s,a=>by
  rw[foldl_cons];refine No fr t x _ ?_;unfold ku;split;{exact a};exact BI _ _ _ _
def Yo (bw): ∀l∈kU bw,aa.ar l:=by
 have: ∀ (e:List Al) (s:List (List Pr)),(∀a∈e,aa.ar a.l)->(∀l∈s,aa.ar l)-> ∀l∈e.foldl iR s,aa.ar l:=by intro e;induction e with|nil=>(intro s _ f;exact f)|cons a e ih=>(intro s d f;rw[foldl_cons];refine ih _ (λb g=>d b (gW _ g)) ?_;unfold iR;split;{intro l c;obtain c|c:=eQ.1 c;{exact f l c};rw[fS]at c;subst c;exact d a (gl ..)};exact f)
 intro l c;unfold kU at c;refine this _ [] ?_ (λl c=>absurd c iy) l ((jf _ _).mem_iff.1 c);intro a d;let⟨x,_,d⟩:=mem_flatMap.1 d;unfold gr pB at d;exact(kR (pA (ae.ek x) (mem_filter.1 d).1)).1
def CT (x q bw t again):ar (tell x q bw t again).1/\aB.ar (tell x q bw t again).2:=by
 have g:=VH x;have i:=Jd (kU bw) (dD t) (aD x) (aB.aD q) g.1;have f:=No (kU bw) (dD t) (aD x) ([],aB.aD q) (aB.ek q);have: ∀ (ls:List (List Pr)) (s:List To×Qu),(∀l∈ls,aa.ar l)->Good s.1->s.1.length<=64->aB.ar s.2->Good (ls.foldl (gP (dD t) (max again 0)) s).1/\(ls.foldl (gP (dD t) (max again 0)) s).1.length<=64/\aB.ar (ls.foldl (gP (dD t) (max again 0)) s).2:=by intro ls;induction ls with|nil=>(intro s _ a d c;exact⟨a,d,c⟩)|cons l ls ih=>(intro s e a d c;have:=IK a d (e l (gl ..)) (rV t) (max again 0);exact ih _ (λm h=>e m (gW _ h)) this.1 this.2 (Mh c _ _ _))
 have b:=this (kU bw) _ (Yo bw) i.1 (by omega) f;exact⟨b.1.ar b.2.1,b.2.2⟩
end aF
namespace av
open aj (Tk cX dz)
theorem lL {ts:List Tk} {k:Int} (a:ca ts i k s):i<ts.length:=by grind[ca]
theorem ur {ts:List Tk} (a:ft ts i=some d):iL d/\i<ts.length:=by unfold ft at a;split at a;{rename_i c;split at a;{rename_i e;cases a;refine⟨?_,jm c⟩;obtain⟨_,b⟩|⟨_,b⟩:=di.aT.AW (di.aT.bl (dz ts i));{grind[di.aT.ar,iL]};omega};cases a};cases a
def Ho {ts:List Tk}: ∀ (f i:Nat) (l b:List Pr) (j:Nat),lG ts f i l=some (b,j)->i<j
 |0,_,_,_,_,a=>by cases a
 |f+1,i,l,b,j,a=>by
  unfold lG at a;split at a;{cases a};split at a;{have:=Ho f _ _ _ _ a;omega};exact QB
theorem Xx {ts:List Tk} {l:List Pr} (a:iJ ts i=some (l,j)):aa.ar l/\aa.free l/\i<j/\j<=ts.length:=by unfold iJ at a;split at a;{rename_i h;split at a;{cases a};rename_i f c b;split at a;{rename_i d;have g:=lL d;(have k:i<c:=by split at b;{grind};have:=Ho _ _ _ _ _ b;omega);split at a;{split at a;{rename_i e;injection a with a;cases a;exact⟨aag _,e,oy,oy⟩};cases a};cases a};cases a};cases a
theorem Mv {ts:List Tk} {w:au} (a:kz ts i w=some (d,j)) (b:i<=ts.length):iL d/\i<=j/\j<=ts.length:=by unfold kz at a;split at a;{split at a;{cases a};rename_i e c;have:=ur c;grind};injection a with a;cases a;exact⟨dy,oy,b⟩
theorem agx {ts:List Tk} {l:List Pr} (a:qc ts i=some (l,j)) (b:i<=ts.length):aa.ar l/\aa.free l/\i<=j/\j<=ts.length:=by unfold qc at a;split at a;{have:=Xx a;grind};injection a with a;cases a;exact⟨rfl,rfl,oy,b⟩
theorem abN {ts:List Tk} {x:Ex} {r:Ru} (a:sE ts nm x i=some (r,j)) (d:i<=ts.length) (m:aa.name nm) (h:bF.ar x.1 x.2.1 x.2.2.1 x.2.2.2):
 gz r/\bare r=r/\i<j/\j<=ts.length:=by unfold sE at a;split at a;{cases a};rename_i fo n e;split at a;{cases a};rename_i ke p k;split at a;{cases a};rename_i ls s f;split at a;{rename_i c;have b:=Mv e d;have g:=Mv k b.2.2;have o:=agx f g.2.2;have l:=lL c;injection a with a;cases a;refine⟨?_,rfl,oy,oy⟩;have q:=Bm h;grind[lB,aa.iX,aP.ar,sq,gz]};cases a
theorem Cj {ts:List Tk} {r:Ru} (a:fe ts i=some (r,j)):gz r/\bare r=r/\i<j/\j<=ts.length:=by unfold fe at a;split at a;{rename_i d;split at a;{rename_i c;rcases b:bF.parse ts ((i+3:Nat):Int)with⟨x,k,e⟩;rw[b]at a c;simp only at a c;subst c;unfold bF.parse at b;rw[aG oy]at b;have:=(Vd 32 b).1 rfl;have f:=abN a this.2.2 d.2.2.1 this.1;grind};cases a};cases a
end av
namespace aZ
open aj (Tk cX dz)
open av (ca)
theorem Ij {ts:List Tk}: ∀ (f i:Nat) (l b:List Ru) (j:Nat),jI ts f i l=some (b,j)->l.length<=16->cI (jV l) l.length->l.map av.bare=l->
 b.length<=16/\cI (jV b) b.length/\b.map av.bare=b/\i<j/\j<=ts.length
 |0,_,_,_,_,a,_,_,_=>by cases a
 |f+1,i,l,b,j,a,g,c,m=>by
  unfold jI at a;split at a;{rename_i h;have:=lL h;injection a with a;cases a;exact⟨g,c,m,oy,oy⟩};split at a;{cases a};rename_i o;split at a;{cases a};rename_i r k e;split at a;{cases a};rename_i s;have n:=Cj e;(have u:ca ts i 1 lP:=by grind[fe]);(have p:l.length<16:=by grind);have d:(l++[r]).length=l.length+1:=iy;(have:=Ij f k (l++[r]) b j a oy (by rw[d];refine ig ?_ ?_;{rw[<-c];refine Hn λq t=>?_;unfold jV;grind};rw[uM (show(l++[r])[l.length]?=some r by simp),n.1,take_left' rfl];grind) (by grind));grind
theorem IT {ts:List Tk} {gs:List Gr} {g:Gr} (a:gM ts i gs=some (g,j)):
 eS g/\aa.named (gs.map (·.nm)) g.nm=false/\gs.length<16/\bare g=g/\i<j/\j<=ts.length:=by unfold gM at a;split at a;{rename_i s;split at a;{cases a};rename_i f n;split at a;{cases a};rename_i q;split at a;{cases a};rename_i d k b;split at a;{split at a;{cases a};rename_i rs t l;injection a with a;cases a;have o:=Ij _ _ _ _ _ l iy rfl rfl;have h:=(ur n).1;(have p:0<=d/\d<f/\i<k:=by split at b;{split at b;{cases b};rename_i r e;split at b;{cases b};injection b with b;injection b with c m;subst c;have:=(ur e).1;unfold iL at this;grind};injection b with b;injection b with c m;subst c;unfold iL at h;grind);grind[eS,lI,bare]};cases a};cases a
def GV {ts:List Tk}: ∀ (f i:Nat) (l b:List Gr),kP ts f i l=some b->dl l->l.map bare=l->dl b/\b.map bare=b
 |0,_,_,_,a,_,_=>by cases a
 |f+1,i,l,b,a,c,e=>by
  unfold kP at a;split at a;{cases a;exact⟨c,e⟩};split at a;{cases a};rename_i g j k;have d:=IT k;refine GV f j (l++[g]) b a ?_ (by rw[ir,e,map_singleton,d.2.2.2.1]);unfold dl at c⊢;rw[cm]at c;have h:(l++[g]).length=l.length+1:=iy;have:=d.2.2.1;rw[bG oy,Bool.true_and,h];refine ig ?_ ?_;{rw[<-c.2];refine Hn λq m=>?_;unfold nA;rw[getElem?_append_left m,take_append_of_le_length oy]};rw[qI (show(l++[g])[l.length]?=some g by simp),d.1,take_left' rfl,d.2.1];rfl
def yd (ts:List Tk):ah (List Gr):=kP ts (ts.length+1) 0 []
theorem abL {ts:List Tk} {l:List Gr} (a:yd ts=some l):dl l/\l.map bare=l:=GV _ _ _ _ a rfl rfl
end aZ
def Lex.zq (t:Lex.Tok):Tk:=((t.k:Int),(t.at_:Int),⟨t.s.toArray⟩)
namespace av
def sp (s:List aU):au:=⟨s.toArray⟩
def NE (r:Ru):au:=⟨#[114,117,108,101,32]⟩++r.nm++⟨#[58,32]⟩++bF.print r.sn r.ms r.op r.v
def nI (w:au) (t:au) (d:Int):au:=if 0<d then t++(w++sp (di.aT.print d))else t
def vS (t:au) (i:Nat) (p:Pr):au:=(if 0<i then t++jD else t)++(p.1++kK++qB p.2)
def ky (ls:List Pr) (t:au):Nat->au
 |0=>t
 |k+1=>match ls[k]? with
  |none=>ky ls t k
  |some p=>vS (ky ls t k) k p
def EK:au:=⟨#[32,102,111,114,32]⟩
def DJ:au:=⟨#[32,107,101,101,112,32]⟩
def CW:au:=⟨#[32,108,97,98,101,108,115,32,123]⟩
def Dr (r:Ru):au:=nI DJ (nI EK (NE r) r.fo) r.ke
def yk (r:Ru):au:=if r.ls.length=0 then Dr r else ky r.ls (Dr r++CW) r.ls.length++eY
def print (r:Ru):au:=if gz r=true then yk r++nF else⟨#[]⟩
end av
namespace aS
open aa (Pr Gr Ru)
def counts (f:List Gr):List Gr:=if dl f=true then f else[]
def key (g:Gr) (r:Ru):Pr:=(g.nm,r.nm)
def rowsOf (g:Gr):List (Gr×Ru):=g.rs.map λr=>(g,r)
def all (f:List Gr):List (Gr×Ru):=(counts f).flatMap rowsOf
def keys (f:List Gr):List Pr:=(all f).map λx=>key x.1 x.2
abbrev oL:=au×Int×Int
def Rs (g:Gr) (r:Ru):oL:=(av.print r,g.iv,g.off)
def pJ (m:List (Pr×oL)) (x:Gr×Ru):List (Pr×oL):=Om.put (key x.1 x.2) (Rs x.1 x.2) m
def iz (f:List Gr):List (Pr×oL):=(all f).foldl pJ []
def same (a b:List (Pr×oL)) (k:Pr):Bool:=
 match Om.get k a,Om.get k b with
 |some x,some y=>decide (x=y)
 |_,_=>false
def stay (a b:List Gr):List Pr:=(keys b).filter (same (iz a) (iz b))
def nS (g:Gr) (k:Pr):ah Nat:=g.rs.findIdx? λr=>decide (key g r=k)
def lJ:List Gr->Nat->Pr->ah (Nat×Nat)
 |[],_,_=>none
 |g::gs,i,k=>match nS g k with
  |some j=>some (i,j)
  |none=>lJ gs (i+1) k
def find (f:List Gr) (k:Pr):ah (Nat×Nat):=lJ (counts f) 0 k
end aS
namespace Mg
open aa (Pr Gr Ru)
structure Mn where
 f:List Gr
 clock:Int
 st:List ap.E
 last:List Int
 bw:List (List Tb)
 fN:Int
 off:Int
 q:Qu
 told:List To
 out:List Bs
 da:Bs
 db:Bs
def zero:Mn:=⟨[],0,[],[],[],0,0,aB.zero,[],[],[],[]⟩
structure Cm where
 bH:Int
 s:au
 l:List Pr
 x:Int×Int
 n:Int
 ok:Bool
 k:Pr
def cj:Int:=9007199254740992
def bS (t:Int):Bool:=decide (0<=t)&&decide (t<=cj)
def Fz (m:Mn) (i:Nat):Bool:=
 match m.f[i]?,m.last[i]?,m.bw[i]? with
 |some g,some t,some x=>decide (-1<=t)&&decide (t<=m.clock)&&decide (x.length=g.rs.length)&&x.all ae.ar
 |_,_,_=>false
def DC (m:Mn):Bool:=decide (m.last.length=m.f.length)&&decide (m.bw.length=m.f.length)&&cI (Fz m) m.f.length
def ar (m:Mn):Bool:=
 dl m.f&&bS m.clock&&ap.ar m.st&&DC m&&bS m.fN&&bS m.off&&aB.ar m.q&&aF.ar m.told&&decide (m.out.length<=1000)
def mN (bw:List (List Tb)) (p:Nat×Nat):Tb:=((bw[p.1]?).bind λx=>x[p.2]?).getD ae.zero
def start (f:List Gr) (tab:Pr->Tb) (m:Mn):Mn:=
 {m with f:=f,last:=f.map λ_=>m.clock,bw:=f.map λg=>g.rs.map λr=>tab (aS.key g r)}
def parse (s:au):ah (List Gr):=
 if(Lex.all (s.size+1) (Lex.bl s) s.size).2.2=0 then yd ((Lex.all (s.size+1) (Lex.bl s) s.size).1.map zq)else none
abbrev Rp:=Int×List Al
def qm (x:Pr) (l:List Pr):Bool:=l.any λy=>decide (y=x)
def pC (m:Mn) (st:List Pr) (k:Pr):Tb:=
 match aS.find m.f k with
 |none=>ae.zero
 |some p=>if qm k st=true then mN m.bw p else ae.zero
def load (m:Mn) (s:au):ah (Mn×Rp):=
 match parse s with
 |none=>none
 |some f=>some (start f (pC m (aS.stay m.f f)) m,((aS.stay m.f f).length:Int),[])
def add (m:Mn) (l:List Pr) (x:Int×Int):ah (Mn×Rp):=
 if aa.get l gd=some nu then none
 else if(js m.st l x).2≠0 then none else some ({m with st:=(js m.st l x).1},0,[])
def look (i:Nat) (t:Int) (m:Mn):Mn:=
 match m.f[i]?,m.bw[i]? with
 |some g,some x=>
  {m with
   last:=m.last.set i t
   st:=(Ev.group m.st g.rs x t).1
   bw:=m.bw.set i (Ev.group m.st g.rs x t).2.1
   off:=min (m.off+(Ev.group m.st g.rs x t).2.2) cj
   told:=(aF.tell m.told m.q (m.bw.set i (Ev.group m.st g.rs x t).2.1).flatten t 3600000).1
   q:=(aF.tell m.told m.q (m.bw.set i (Ev.group m.st g.rs x t).2.1).flatten t 3600000).2}
 |_,_=>m
def fC (n:Int) (s:Mn×Int) (i:Nat):Mn×Int:=
 match s.1.f[i]?,s.1.last[i]? with
 |some g,some t=>
  match jT g t n with
  |none=>s
  |some d=>(look i (d.1:Int) {s.1 with fN:=min (s.1.fN+(d.2:Int)) cj},s.2+1)
 |_,_=>s
def fK (n:Int) (m:Mn) (k:Nat):Mn×Int:=(range k).foldl (fC n) ({m with clock:=n},0)
def clock (m:Mn) (n:Int):ah (Mn×Rp):=
 if bS n=false then none
 else if n<m.clock then none
 else some ((fK n m m.f.length).1,(fK n m m.f.length).2,[])
def send (m:Mn) (ok:Bool):ah (Mn×Rp):=
 match aB.ready m.q m.clock with
 |none=>none
 |some f=>
  if ok=true then some ({m with q:=lj m.q m.clock true,out:=(if 1000<=m.out.length then m.out.drop 1 else m.out)++[aB.put f]},1,[])
  else some ({m with q:=lj m.q m.clock false},0,[])
def rows (m:Mn):List Sv:=(zip m.f m.bw).flatMap λp=>zipWith (λr x=>(⟨p.1.nm,r.nm,x⟩:Sv)) p.1.rs p.2
def oK (a b:Sv):Int:=eI a.k b.k
def ep (m:Mn):List Sv:=if ar m=true then dM oK (rows m)else[]
def pT (m:Mn) (n:Int):ah (Mn×Rp):=
 some ({m with da:=(aW.write m.da m.db (aW.gen m.da m.db) (aw.put (ep m)) n).1,db:=(aW.write m.da m.db (aW.gen m.da m.db) (aw.put (ep m)) n).2},((eb (aW.gen m.da m.db) (aw.put (ep m))).length:Int),[])
def mI (m:Mn):ah (List Sv):=(aW.read m.da m.db).bind λx=>aw.get x.2
def fresh (m:Mn):Mn:=⟨m.f,m.clock,[],[],[],0,0,aB.zero,[],[],m.da,m.db⟩
def lg (m:Mn):ah (Mn×Rp):=
 some (start m.f (λk=>aw.find ((mI m).getD []) k.1 k.2) (fresh m),if(mI m).isSome=true then 1 else 0,[])
def query (m:Mn) (k:Pr):ah (Mn×Rp):=
 match aS.find m.f k with
 |none=>none
 |some p=>some (m,((gr (mN m.bw p)).length:Int),gr (mN m.bw p))
def eF (m:Mn) (c:Cm):ah (Mn×Rp):=
 if c.bH=1 then load m c.s
 else if c.bH=2 then add m c.l c.x
 else if c.bH=3 then clock m c.n
 else if c.bH=4 then send m c.ok
 else if c.bH=5 then pT m c.n
 else if c.bH=6 then lg m
 else if c.bH=7 then query m c.k
 else none
def aD (m:Mn):Mn:=if ar m=true then m else zero
def step (m:Mn) (c:Cm):Mn×ah Rp:=
 match eF (aD m) c with
 |none=>(aD m,none)
 |some x=>(x.1,some x.2)
end Mg
namespace aQ
def It: ∀ (k:Nat) {x:Int×Int},k<=xs.length->nv xs t k=some x->x∈xs
 |0,_,_,a=>by cases a
 |k+1,x,b,a=>by
  unfold nv at a;split at a;{cases a;rw[br (show k<xs.length by omega)];exact getElem_mem _};exact It k oy a
theorem WZ (c:x∈aD xs):fh x.2:=by
 have b:ar (aD xs):=by grind[aD]
 let⟨i,a⟩:=fF c;have:=pF b (bZ.1 a).1;simp_all[cm,bN,dU]
theorem agw (xs t window):fh (kh xs t window).1.2:=by unfold kh;split;{rename_i x a;split;{exact WZ (It _ ny a)};rfl};rfl
end aQ
namespace ap
theorem abw {es:List E} (c:ar es) (l):nL es l (place es l):=by
 have j:=mono c l;have n:place es l<=es.length:=by grind[place,takeWhile_sublist]
 have m: ∀ (es:List E) (k:Nat),k<place es l-> ∃e,es[k]?=some e/\aa.cmpL (aa.aD e.1) l<0:=by intro es;induction es with|nil=>(intro k b;unfold place at b;simp at b)|cons e es ih=>(intro k b;unfold place at b;rw[takeWhile_cons]at b;split at b;{rename_i a;cases k with|zero=>exact⟨e,rfl,mT a⟩|succ k=>(exact ih k (by unfold place;simp at b;omega))};simp at b)
 have f: ∀ (es:List E) (e:E),es[place es l]?=some e->0<=aa.cmpL (aa.aD e.1) l:=by intro es;induction es with|nil=>(intro e a;simp at a)|cons d es ih=>(intro e a;unfold place at a;rw[takeWhile_cons]at a;split at a;{rw[cH,getElem?_cons_succ]at a;exact ih e a};grind)
 refine⟨n,λk b=>?_,λk b o=>?_⟩;{let⟨e,a,q⟩:=m es k b;rw[og a];exact PM};intro i;have g:=j (place es l) k b o i;obtain⟨e,a⟩: ∃e,es[place es l]?=some e:=⟨_,br oy⟩;have p:=f es e a;rw[og a]at g;exact PM
theorem Ji (es l x):(js es l x).2=0->ar (js es l x).1:=by
 intro f;have c:oG es l x (js es l x):=by unfold oG js;by_cases b:named l;{rw[aK b,aK b];exact⟨_,abw (ek es) _,rfl⟩};rw[aG b,aG b]
 obtain⟨a,e⟩: ∃a,js es l x=(a,0):=⟨(js es l x).1,Prod.ext rfl f⟩;rw[e]at c⊢;let⟨p,s,d⟩:=ahb c;exact d.ar
theorem acG {es:List E} {G3:List aa.Mt} {I:Int} {f:F} (a:f∈oT es nm G3 t I):fh f.2.2:=by grind[oT,hit,agw]
end ap
namespace ae
def fy (x:Tb):Prop:= ∀a∈x.a,eP a.v
theorem xz:fy zero:=λa b=>absurd b (by simp[zero])
theorem WU {x:Tb} (a:fy x):fy (aD x):=by grind[aD,xz]
theorem KI {there:List (au×ap.F)} {keep:Int} (i: ∀p∈there,eP p.2.2.2): ∀ (e:List Al) (d:List (au×Al)),(∀a∈e,eP a.v)->(∀p∈d,eP p.2.v)-> ∀p∈e.foldl (jW there t wait keep) d,eP p.2.v
 |[],d,_,g=>g
 |a::e,d,j,g=>by
  rw[foldl_cons];refine KI i e _ (λb m=>j b (mem_cons_of_mem _ m)) ?_;have l:eP (lR there t wait keep a).v:=by unfold lR;simp only;split;{rename_i f k;exact i _ (Om.get_mem k)};grind
  have h: ∀p∈Om.put (key a.l) (lR there t wait keep a) d,eP p.2.v:=by intro p c;obtain rfl|c:=lE c;{exact l};exact g p c
  unfold jW;split;{intro p c;exact h p (qH c)};exact h
def LJ {keep:Int}: ∀ (b:List ap.F) (s:List (au×Al)×Int),(∀f∈b,eP f.2.2)->(∀p∈s.1,eP p.2.v)-> ∀p∈(b.foldl (lU t wait keep) s).1,eP p.2.v
 |[],s,_,a=>a
 |f::b,s,d,a=>by
  rw[foldl_cons];refine LJ b _ (λg e=>d g (gW _ e)) ?_;unfold lU;split;{exact a};split;{exact a};intro p c;obtain rfl|c:=lE c;{exact d f (gl ..)};exact a p c
def KW: ∀ (l:List ap.F) (s:List ap.F×List (au×ap.F)),(∀f∈l,eP f.2.2)->(∀f∈s.1,eP f.2.2)->(∀p∈s.2,eP p.2.2.2)->(∀f∈(l.foldl nw s).1,eP f.2.2)/\ ∀p∈(l.foldl nw s).2,eP p.2.2.2
 |[],s,_,b,c=>⟨b,c⟩
 |f::l,s,e,b,c=>by
  rw[foldl_cons];have h:=e f (gl ..);refine KW l _ (λg a=>e g (gW _ a)) ?_ ?_;{unfold nw;split;{exact b};split;{exact b};intro g a;obtain a|a:=eQ.1 a;{exact b g a};rw[fS]at a;subst a;exact h};unfold nw;split;{exact c};split;{exact c};intro p d;obtain rfl|d:=lE d;{exact h};exact c p d
def acv {x:Tb} (i:fy x) {l:List ap.F} (h: ∀f∈l,eP f.2.2) (t wait keep):fy (step x l t wait keep):=by have d:=KW l ([],[]) h (λf j=>absurd j iy) (λp b=>absurd b iy);have e:=KI (t:=t) (wait:=wait) (keep:=keep) d.2 (aD x).a [] (WU i) (λp b=>absurd b iy);have g:=LJ (t:=t) (wait:=wait) (keep:=keep) (gF l).1 (kE (aD x) l t wait keep,(aD x).full) d.1 e;intro a c;unfold step uV at c;have c:=(jf _ _).mem_iff.1 c;obtain⟨p,b,rfl⟩:=fx.1 c;exact g p b
end ae
def afe {v:Int} (a:fh v):eP v:=by unfold fh at a;simp only[cm,dP]at a;unfold eP;omega
namespace Ev
theorem adO (es r t): ∀f∈oO es r t,eP f.2.2:=by
 have: ∀ (b out:List ap.F),(∀f∈b,eP f.2.2)->(∀f∈out,eP f.2.2)-> ∀f∈b.foldl (kY r) out,eP f.2.2:=by intro b;induction b with|nil=>(intro out _ c;exact c)|cons g b ih=>grind[kY]
 unfold oO;split;{exact this _ [] (λf a=>afe (acG a)) (λf a=>absurd a iy)};intro f a;cases a
theorem Yf (es x t):ap.ar (write es x t).1/\0<=(write es x t).2:=by
 have: ∀ (b:List Al) (s:List ap.E×Int),ap.ar s.1->0<=s.2->ap.ar (b.foldl (lK t) s).1/\0<=(b.foldl (lK t) s).2:=by intro b;induction b with|nil=>(intro s c d;exact⟨c,d⟩)|cons a b ih=>grind[lK,Ji]
 exact this _ _ (ap.ek es) (Int.le_refl 0)
theorem JM (rs bw t s) (d:ap.ar s.1) (b:s.2.1=[]) (c:0<=s.2.2) (f: ∀x∈bw,ae.fy x):
 ∀k,k<=rs.length->ap.ar (ix rs bw t s k).1/\(ix rs bw t s k).2.1.length=k/\0<=(ix rs bw t s k).2.2/\ ∀x∈(ix rs bw t s k).2.1,ae.ar x/\ae.fy x
 |0,_=>⟨d,by unfold ix;rw[b];rfl,c,by unfold ix;rw[b];intro x a;cases a⟩
 |k+1,h=>by
  have ih:=JM rs bw t s d b c f k oy;unfold ix;rw[getElem?_eq_getElem (show k<rs.length by omega)];simp only;unfold uP;have g:ae.fy ((bw[k]?).getD ae.zero):=by grind[xz]
  have e:=Yf (ix rs bw t s k).1 (ae.step ((bw[k]?).getD ae.zero) (oO (ix rs bw t s k).1 rs[k] t) t rs[k].fo rs[k].ke) t;refine⟨e.1,by simp[ih.2.1],Int.add_nonneg ih.2.2.1 e.2,λx a=>?_⟩;obtain a|a:=eQ.1 a;{exact ih.2.2.2 x a};rw[fS]at a;subst a;exact⟨ae.xa _ _ _ _ _,acv g (adO _ _ _) _ _ _⟩
def Lk (es rs bw t) (a: ∀x∈bw,ae.fy x):
 ap.ar (group es rs bw t).1/\(group es rs bw t).2.1.length=rs.length/\0<=(group es rs bw t).2.2/\ ∀x∈(group es rs bw t).2.1,ae.ar x/\ae.fy x:=
 JM rs bw t (ap.aD es,[],0) (ap.ek es) rfl (Int.le_refl 0) a rs.length ny
end Ev
namespace cG
def JR {g:Gr} {last now:Int} {d:Nat×Nat} (a:jT g last now=some d):((d.1:Nat):Int)<=now:=by unfold jT at a;split at a;{rename_i b;unfold due at a;split at a;{cases a};rename_i e;cases a;(have c:Good g.iv.toNat g.off.toNat:=by unfold eS lI iL at b;simp only[cm,dP]at b;refine⟨oy,oy,by unfold cj;omega⟩);exact(Lf c oy).1};cases a
end cG
namespace Mg
theorem iH:bS t=true↔0<=t/\t<=cj:=by unfold bS;simp
structure uZ (m:Mn):Prop where
 last:m.last.length=m.f.length
 bw:m.bw.length=m.f.length
 ok: ∀ (i:Nat) (g:Gr) (t:Int) (x:List Tb),m.f[i]?=some g->m.last[i]?=some t->m.bw[i]?=some x-> -1<=t/\t<=m.clock/\x.length=g.rs.length/\ ∀y∈x,ae.ar y
theorem Kf {m:Mn}:DC m=true↔uZ m:=by unfold DC;simp only[cm,dP,fa];constructor;{rintro⟨⟨f,j⟩,h⟩;refine⟨f,j,λi g t x c d e=>?_⟩;have:=h i (bZ.1 c).1;simp_all[cm,dP,Fz]};intro a;refine⟨⟨a.last,a.bw⟩,λi b=>?_⟩;have c:=br b;have d:m.last[i]?=some (m.last[i]'(by rw[a.last];exact b)):=br _;have e:m.bw[i]?=some (m.bw[i]'(by rw[a.bw];exact b)):=br _;have:=a.ok i _ _ _ c d e;unfold Fz;grind
structure oQ (m:Mn):Prop where
 f:dl m.f
 clock:bS m.clock
 st:ap.ar m.st
 g:uZ m
 fN:bS m.fN
 off:bS m.off
 q:aB.ar m.q
 told:aF.ar m.told
 out:m.out.length<=1000
theorem eo {m:Mn}:ar m=true↔oQ m:=by unfold ar;simp only[cm,dP,Kf];constructor;{rintro⟨⟨⟨⟨⟨⟨⟨⟨b,g⟩,f⟩,c⟩,e⟩,j⟩,d⟩,h⟩,i⟩;exact⟨b,g,f,c,e,j,d,h,i⟩};intro a;exact⟨⟨⟨⟨⟨⟨⟨⟨a.f,a.clock⟩,a.st⟩,a.g⟩,a.fN⟩,a.off⟩,a.q⟩,a.told⟩,a.out⟩
def aaO:ar zero:=dy
def fp {m:Mn} (a:ar m):aD m=m:=by unfold aD;rw[aK a]
def fy (m:Mn):Prop:= ∀x∈m.bw,∀y∈x,ae.fy y
def acI {P:Tb->Prop} (a:P ae.zero) {bw:List (List Tb)} (c: ∀x∈bw,∀y∈x,P y) (p):P (mN bw p):=by unfold mN;rcases b:bw[p.1]? with _|x;{exact a};simp only[Option.bind_some];rcases hy:x[p.2]? with _|y;{exact a};exact c x (cz b) y (cz hy)
def uZ.tab {m:Mn} (a:uZ m) {x:List Tb} (c:x∈m.bw): ∀y∈x,ae.ar y:=by let⟨i,b⟩:=fF c;have d:=(bZ.1 b).1;have:=a.bw;have:=a.last;exact(a.ok i _ _ x (br oy) (br oy) b).2.2.2
theorem Gk {f:List Gr} {tab:Pr->Tb} {m:Mn} (a:bS m.clock) (c: ∀k,ae.ar (tab k)):uZ (start f tab m):=by have a:=iH.1 a;refine⟨by simp[start],by simp[start],λi g t x e b d=>?_⟩;grind[start]
theorem Jl {f:List Gr} {tab:Pr->Tb} {m:Mn} (b: ∀k,ae.fy (tab k)):fy (start f tab m):=by intro x a y hy;grind[start]
theorem KE {f:List Gr} (a:parse s=some f):dl f/\f.map aZ.bare=f:=by grind[parse,abL]
def Ge:ae.ar ae.zero:=dy
def Io {P:Tb->Prop} (a:P ae.zero) {m:Mn} (b: ∀x∈m.bw,∀y∈x,P y) (st k):P (pC m st k):=by unfold pC;split;{exact a};split;{exact acI a b _};exact a
def Inv (m:Mn):Prop:=oQ m/\fy m
theorem aeC {m:Mn} {x:Mn×Rp} (c:Inv m) (b:load m s=some x):Inv x.1:=by unfold load at b;split at b;{cases b};rename_i f d;cases b;have a:=c.1;exact⟨⟨(KE d).1,a.clock,a.st,Gk a.clock (Io Ge (λx b=>a.g.tab b) _),a.fN,a.off,a.q,a.told,a.out⟩,Jl (Io xz c.2 _)⟩
theorem afv {m:Mn} {l:List Pr} {y:Int×Int} {x:Mn×Rp} (c:Inv m) (b:add m l y=some x):Inv x.1:=by unfold add at b;split at b;{cases b};split at b;{cases b};rename_i d;cases b;have a:=c.1;exact⟨⟨a.f,a.clock,Ji _ _ _ (by simpa using d),⟨a.g.last,a.g.bw,a.g.ok⟩,a.fN,a.off,a.q,a.told,a.out⟩,c.2⟩
def Cq {a b:Int} (c:bS a) (d:0<=b):bS (min (a+b) cj):=by rw[iH]at c⊢;unfold cj at*;omega
theorem acK {m:Mn} (b:Inv m) (u: -1<=t) (s:t<=m.clock):Inv (look i t m)/\(look i t m).clock=m.clock:=by unfold look;split;{rename_i g x v o;have a:=b.1;have r:=b.2 x (cz o);have e:=Lk m.st g.rs x t r;have h:=aF.CT m.told m.q (m.bw.set i (Ev.group m.st g.rs x t).2.1).flatten t 3600000;refine⟨⟨⟨a.f,a.clock,e.1,⟨?_,?_,?_⟩,a.fN,Cq a.off e.2.2.1,h.2,h.1,a.out⟩,?_⟩,rfl⟩;{simp only[length_set];exact a.g.last};{simp only[length_set];exact a.g.bw};{intro j n l p k c d;simp only at k c d;rw[getElem?_set]at c d;by_cases q:i=j;{grind};rw[aG q]at c d;exact a.g.ok j n l p k c d};intro y hy z f;obtain hy|rfl:=mem_or_eq_of_mem_set hy;{exact b.2 y hy z f};exact(e.2.2.2 z f).2};exact⟨b,rfl⟩
theorem Yg {n:Int} {s:Mn×Int} (b:Inv s.1) (c:s.1.clock=n) (i):Inv (fC n s i).1/\(fC n s i).1.clock=n:=by unfold fC;split;{split;{exact⟨b,c⟩};rename_i d e;have a:=b.1;have f:=JR e;have:=acK (m:={s.1 with fN:=min (s.1.fN+(d.2:Int)) cj}) (i:=i) (t:=(d.1:Int)) ⟨⟨a.f,a.clock,a.st,⟨a.g.last,a.g.bw,a.g.ok⟩,Cq a.fN oy,a.off,a.q,a.told,a.out⟩,b.2⟩ oy dO;grind};exact⟨b,c⟩
theorem Hd {m:Mn} {n:Int} (e:Inv m) (f:bS n) (o:m.clock<=n) (k):Inv (fK n m k).1/\(fK n m k).1.clock=n:=by
 unfold fK;have: ∀ (b:List Nat) (s:Mn×Int),Inv s.1->s.1.clock=n->Inv (b.foldl (fC n) s).1/\(b.foldl (fC n) s).1.clock=n:=by intro b;induction b with|nil=>(intro s c d;exact⟨c,d⟩)|cons i b ih=>(intro s c d;have:=Yg c d i;exact ih _ this.1 this.2)
 have a:=e.1;refine this _ _ ⟨⟨a.f,f,a.st,⟨a.g.last,a.g.bw,λi g t x l h j=>?_⟩,a.fN,a.off,a.q,a.told,a.out⟩,e.2⟩ rfl;have:=a.g.ok i g t x l h j;exact⟨this.1,by simp only;omega,this.2.2⟩
theorem abb {m:Mn} {n:Int} {x:Mn×Rp} (b:Inv m) (a:clock m n=some x):Inv x.1:=by grind[clock,Hd]
theorem aeo {m:Mn} {ok:Bool} {x:Mn×Rp} (c:Inv m) (b:send m ok=some x):Inv x.1:=by have a:=c.1;unfold send at b;split at b;{cases b};rename_i f d;split at b;{cases b;refine⟨⟨a.f,a.clock,a.st,⟨a.g.last,a.g.bw,a.g.ok⟩,a.fN,a.off,Jr _ _ _,a.told,?_⟩,c.2⟩;have:=a.out;grind};cases b;exact⟨⟨a.f,a.clock,a.st,⟨a.g.last,a.g.bw,a.g.ok⟩,a.fN,a.off,Jr _ _ _,a.told,a.out⟩,c.2⟩
theorem aeF {m:Mn} {n:Int} {x:Mn×Rp} (c:Inv m) (b:pT m n=some x):Inv x.1:=by have a:=c.1;unfold pT at b;cases b;exact⟨⟨a.f,a.clock,a.st,⟨a.g.last,a.g.bw,a.g.ok⟩,a.fN,a.off,a.q,a.told,a.out⟩,c.2⟩
theorem abU {m:Mn} {k:Pr} {x:Mn×Rp} (b:Inv m) (a:query m k=some x):Inv x.1:=by grind[query]
end Mg
namespace aC
theorem aeE {v:Int} {r:Bs} (a:iV b=some (v,r)):eP v:=by unfold iV at a;split at a;{cases a};rename_i e d c;have:=Ct c;grind[top,eP]
end aC
namespace aw
theorem aeR {a:Al} {r:Bs} (c:oN b=some (a,r)):eP a.v:=by unfold oN at c;split at c;{cases c};grind[aeE]
def JX: ∀ (n:Nat) {b:Bs} {l:List Al} {r:Bs},lh n b=some (l,r)-> ∀a∈l,eP a.v
 |0,_,_,_,c,a,d=>by
  unfold lh at c
  injection c with c
  injection c with e f
  subst e
  cases d
 |n+1,_,_,_,c,a,d=>by
  unfold lh at c
  split at c
  ·cases c
  ·rename_i e
   split at c
   ·cases c
   ·rename_i f
    injection c with c
    injection c with g h
    subst g
    obtain rfl|d:=fI.1 d
    ·exact aeR e
    ·exact JX n f a d
def aeb {s:Sv} {r:Bs} (a:oV b=some (s,r)):ae.fy s.x:=by unfold oV at a;split at a;{cases a};split at a;{cases a};split at a;{cases a};split at a;{cases a};split at a;{cases a};split at a;{cases a};rename_i d;injection a with a;injection a with c e;subst c;exact JX _ d
theorem JZ: ∀ (n:Nat) {b:Bs} {l:List Sv} {r:Bs},lf n b=some (l,r)-> ∀s∈l,ae.fy s.x
 |0,_,_,_,c,a,d=>by
  unfold lf at c
  injection c with c
  injection c with e f
  subst e
  cases d
 |n+1,_,_,_,c,a,d=>by
  unfold lf at c
  split at c
  ·cases c
  ·rename_i e
   split at c
   ·cases c
   ·rename_i f
    injection c with c
    injection c with g h
    subst g
    obtain rfl|d:=fI.1 d
    ·exact aeb e
    ·exact JZ n f a d
theorem aff {l:List Sv} (a:get b=some l): ∀s∈l,ae.fy s.x:=by grind[get,JZ]
theorem Mk {P:Tb->Prop} (a:P ae.zero) {l:List Sv} (b:ar l-> ∀s∈l,P s.x) (g r):P (find l g r):=by grind[find]
end aw
namespace Mg
def Yy (m): ∀s∈(mI m).getD [],ae.fy s.x:=by unfold mI;obtain _|x:=aW.read m.da m.db;{intro s a;cases a};simp only[Option.bind_some];rcases b:aw.get x.2 with _|l;{intro s a;cases a};exact aff b
theorem aaE {m:Mn} {x:Mn×Rp} (d:Inv m) (b:lg m=some x):Inv x.1:=by have a:=d.1;unfold lg at b;cases b;show Inv (start m.f (λk=>aw.find ((mI m).getD []) k.1 k.2) (fresh m));refine⟨⟨a.f,a.clock,rfl,Gk (m:=fresh m) a.clock (λk=>Mk (P:=λx=>ae.ar x=true) Ge (λa s c=>(rY a c).2.2) _ _),rfl,rfl,rfl,rfl,by simp[start,fresh]⟩,Jl (λk=>Mk (P:=ae.fy) xz (λ_=>Yy m) _ _)⟩
theorem afY {m:Mn} {c:Cm} {x:Mn×Rp} (b:Inv m) (a:eF m c=some x):Inv x.1:=by grind[eF,aeC,afv,abb,aeo,aeF,aaE,abU]
def sa:Inv zero:=⟨eo.1 aaO,λx a=>absurd a (by simp[zero])⟩
def pq {m:Mn} (a:Inv m) (c):Inv (step m c).1:=by refine EM ?_;split;{exact a};rename_i x b;exact afY a b
end Mg
end Go.Proofs.YteagjoghhfngoaaGreatDoor
