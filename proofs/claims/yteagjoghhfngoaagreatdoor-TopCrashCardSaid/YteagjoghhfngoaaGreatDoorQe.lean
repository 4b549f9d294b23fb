import Derived.Test.YteagjoghhfngoaaGreatDoorQd
import Derived.Shelf.SlSortCmp.Insertion
set_option maxRecDepth 100000
set_option maxHeartbeats 32000000
set_option linter.all false
namespace Go.Proofs.YteagjoghhfngoaaGreatDoor
namespace Om
end Om
namespace aP
end aP
namespace bF
end bF
namespace cG
end cG
open Go.RowKit Tryz Value List Lex Mem Om aP aa aj bF cG
variable{nm s t:au} {B S i j n r v:Nat} {e:Int} {c:aU} {l:Bs} {b:Bool} {W W' w w':Wd} {G1:List aj.Mt}
def MY (r:Nat) (g:ah ak) (n c i:Nat) (ts:List Tk) (nm:au) (a9:List aj.Mt) (j:Nat) (F:Int) (o:aj.lN ts i=(nm,a9,j,F)) (w:Wd) (b9:bP w r g n c ts) (b5:Rd w r g n c i):
 Calls prog 304 #[pointer (some (r 0))] w λe w'=> ∃A' n' c',e= .returned (tuple #[agg #[nm,slice A' n' c'],F])/\jL w' w A' n' c' a9/\Rd w' r g n c j/\ax r w w':=by have q:=b5.lt;have f1:=b9.len;obtain⟨e4,e6⟩:=aq b5 b9;clear b5 b9;unfold aj.lN at o;by_cases y:gZ ts i≠0;{rw[aK y]at o;refine yU λA z o t C=>?_;subst A z t C;obtain⟨F,b8⟩:=xR (gZ ts i);rw[b8]at y⊢;have a3:=hJ b8;clear b8;go_enter func304,ntmps304;(go_wp2_with fail);refine yV λG a=>?_;refine QZ ?_;rintro D ⟨d,b⟩;have a:=hJ (a.o.step q d b);clear d b;obtain⟨S,O⟩:=qh a.o.aX;obtain⟨N,R⟩:=fR a.o.aX;go_wp2;have b4:=hJ ((a.o.aI q 0 "s").aI q 1 ());obtain⟨I,H⟩:=fR b4.o.aX;refine bodyPost_ret (v:=tuple #[agg #["s",()],F]) (by simp[results,results304,go_sem,I,H]) rfl ⟨none,0,0,rfl,jL.none_ _ _,b4.o.rd,b4.o.but⟩};rw[aG y]at o;have a3:=hJ (show gZ ts i=0 by omega);obtain⟨x,c8⟩:=xR (dz ts i);rw[c8]at o;have d0:=hJ c8;clear c8 y;rcases V:cY ts (i+1) aj.iZ with _|_;{rw[aK V]at o;refine yU λA z o t C=>?_;subst A z t C;have a7:=hJ V;clear V;go_enter func304,ntmps304;(go_wp2_with fail);refine yV λG a=>?_;refine tj ?_;rintro D ⟨d,b⟩;have a:=hJ (a.o.step q d b);clear d b;(go_wp2_with fail);have u:=a.o.aX.lt;have t:SS w r g n c ts D x () [] (D.alloc (.cells #[x,()] 88)) (i+1):=⟨a.o.rd.alloc _,a.o.aX.alloc _,af.new D _ _,⟨rfl,.inl ⟨rfl,rfl⟩⟩,a.o.but.alloc _,a.o.ct.alloc (dH a.o.rd.lt) _,λp J=>absurd J iy⟩;obtain⟨gs,M⟩:=xS D;rw[<-M]at u t⊢;generalize World.alloc _ _=e0 at t⊢;have a:=hJ t;clear t M;(go_wp2_with fail);refine mB (kS r g n c _ ts aj.iZ false a7.o _ rfl _ a.o.ct a.o.rd) ?_;rintro a4 ⟨d,b⟩;have a:=hJ (a.o.step q u d b);clear d b;simp only[if_true,if_false,Bool.false_eq_true]at a;obtain⟨S,O⟩:=qh a.o.dL;obtain⟨N,R⟩:=fR a.o.dL;obtain⟨U,c1⟩:=fR a.o.bI;go_wp2;obtain⟨y,L,K⟩:=a.o.aI q u x ();obtain⟨d',d8,d7,a2,a6⟩:=a.o.nN q u x ();cases a2;obtain⟨I,H⟩:=fR L;refine bodyPost_ret (v:=tuple #[agg #[x,()],""]) (by simp[results,results304,go_sem,I,H]) rfl ⟨_,_,_,rfl,a6,y,K⟩};rw[aG (by rw[V];simp)]at o;have a7:=hJ V;clear V;rcases b:cY ts (i+2) aj.eY with _|_;{rw[aG (by rw[b];simp)]at o;have b2:=hJ b;clear b;have Z:=hJ o;clear o;go_enter func304,ntmps304;(go_wp2_with fail);refine yV λG a=>?_;refine tj ?_;rintro D ⟨d,b⟩;have a:=hJ (a.o.step q d b);clear d b;(go_wp2_with fail);have u:=a.o.aX.lt;have t:SS w r g n c ts D x () [] (D.alloc (.cells #[x,()] 88)) (i+1):=⟨a.o.rd.alloc _,a.o.aX.alloc _,af.new D _ _,⟨rfl,.inl ⟨rfl,rfl⟩⟩,a.o.but.alloc _,a.o.ct.alloc (dH a.o.rd.lt) _,λp J=>absurd J iy⟩;obtain⟨gs,M⟩:=xS D;rw[<-M]at u t⊢;generalize World.alloc _ _=e0 at t⊢;have a:=hJ t;clear t M;(go_wp2_with fail);refine mB (kS r g n c _ ts aj.iZ true a7.o _ rfl _ a.o.ct a.o.rd) ?_;rintro a4 ⟨d,b⟩;have a:=hJ (a.o.step q u d b);clear d b;simp only[if_true,if_false,Bool.false_eq_true]at a;(go_wp2_with fail);refine mB (kS r g n c _ ts aj.eY false b2.o _ rfl _ a.o.ct a.o.rd) ?_;rintro e' ⟨d,b⟩;have a:=hJ (a.o.step q u d b);clear d b;simp only[if_true,if_false,Bool.false_eq_true]at a;obtain⟨e5,f6,e7,e2,f9⟩:=info_parts agR;have Z:=hJ (show uX x (oe ts 10 (i+2) [])=(nm,a9,j,F)from Z.o);go_wp2;go_loopw[8] (λg6 wr=> ∃ (Y f:Nat) (B:List aj.Mt) (d1:ai),SS w r g n c ts gs x d1 B wr Y/\f+B.length=10/\B.length<=8/\uX x (oe ts f Y B)=(nm,a9,j,F)) (λ_ wr=>10-lenOf (wr.cell? ⟨gs,1,none⟩));(case atStart=>exact⟨i+2,10,[],_,a.o,rfl,iy,Z.o⟩);case round=>obtain⟨Y,f,B,d1,z,g5,g2,l⟩:=hrel;obtain⟨f,rfl⟩: ∃e3,f=e3+1:=⟨f-1,oy⟩;obtain⟨g0,c2,rfl,-⟩:=aA.dV wM dy z.own;rcases c0:mG ts Y B.length with⟨m,E,a8⟩;rw[HJ c0]at l;obtain⟨a,c9⟩:=aq z c0;have cM:=bL z.bI;have f':=hJ cM;clear z c0;by_cases a':a8≠0;{rw[aK a']at l;unfold uX at l;rw[aK a']at l;injection l with A l;injection l with z l;injection l with t C;subst A z t C;(go_wp2_with fail);refine mB (Lo r g n c Y B.length ts m E a8 c9.o _ a.o.ct a.o.rd) ?_;rintro a4 ⟨d,b⟩;have a:=hJ (a.o.step q u d b);clear d b;have a:=hJ (a.o.keep q u (aN.alloc ny (.cells #[m.1,m.2.1,m.2.2] 287)));clear cM;refine Fj λS O N R U c1=>?_;go_wp2;obtain⟨y,L,K⟩:=a.o.aI q u ⟨#[]⟩ ();obtain⟨I,H⟩:=fR L;refine bodyPost_ret (v:=tuple #[agg #[string ⟨#[]⟩,slice none 0 0],int .i64 (a8)]) (by simp[results,results304,go_sem,I,H]) rfl ⟨none,0,0,rfl,jL.none_ _ _,y,K⟩};obtain rfl:a8=0:=oy;rw[aG a']at l;have Z:=hJ l;clear l a';obtain⟨f7,f8,g4,-⟩:=Hz c9.o;have f5:=kj f7;(go_wp2_with fail);refine mB (Lo r g n c Y B.length ts m E 0 c9.o _ a.o.ct a.o.rd) ?_;rintro a4 ⟨d,b⟩;have a:=hJ (a.o.step q u d b);clear d b;have d9:=hJ (a.o.keep q u (aN.alloc ny (.cells #[m.1,m.2.1,m.2.2] 287)));have a5:=hJ (d9.o.keep q u (aN.alloc ny (.cells #[m.1,m.2.1,m.2.2] 287)));have cM:=bL d9.o.bI;(go_wp2_with(at_builtin;refine wpList_append_own _ rfl _ _ 86 rfl (gs+1) 287 e5 _ 3 40 underlying86 f6 e7 e2 f9 rfl dy _ _ _ rfl a5.o.own (an (a4+1) 0) 1 1 [m.1,m.2.1,m.2.2] rfl rfl ?c1 ?c2 ?c3 ?c4 ?c5 ?_));(case c1=>exact vq);(case c2=>intro a1 d4;simp at d4;obtain rfl|rfl|rfl:=d4<;>rfl);(case c3=>unfold maxLen;omega);(case c4=>omega);(case c5=>have:=a.o.bI.lt;simp;omega);intro f4 b1 d3 b7 _;(have b3:b1.ownsRow (gs+1) 287 3 f4 (B++[m]).length ((B++[m]).flatMap qE):=by rw[bu,eX];exact d3);obtain⟨b6,c6,rfl,-⟩:=aA.dV wM dy b3;(have e9: ∀p∈B++[m],p.1.size<=64/\p.2.1.size<=64:=by intro p J;rw[eQ,fS]at J;obtain J|rfl:=J;{exact a.o.nB p J};exact⟨f5.2,f8⟩);have b':=(b7.block gs a5.o.bI.lt (λe=>aR (a5.o.own.lt gs e.symm).1)).trans a5.o.bI;have d2:=af.cell (w:=b1) b' 1;have e8:=af.frozen (w:=b1) b' 1;simp at d2;have d6:=a5.o.grown q u b7 b3 e9;have a:=hJ d6;clear d6 d3 b3 b7 b';rw[show(B++[m]).length=B.length+1 by simp]at a;(go_wp2_with fail);generalize World.setCell _ _ _=g1 at a⊢;clear e8 d2 cM;rcases W:cY ts E aj.eY with _|_;{have l:=Z.o;rw[aG (by rw[W];simp)]at l;have c7:=hJ W;clear W;refine mB (kS r g n c E ts aj.eY false c7.o E rfl _ a.o.ct a.o.rd) ?_;rintro e1 ⟨d,b⟩;have a:=hJ (a.o.step q u d b);clear d b;rcases X:cY ts E aj.jD with _|_;{rw[aG (by rw[X];simp)]at l;unfold uX at l;rw[aK (ni ts E)]at l;injection l with A l;injection l with z l;injection l with t C;subst A z t C;have b0:=hJ X;clear X;(go_wp2_with fail);refine mB (kS r g n c E ts aj.jD false b0.o E rfl _ a.o.ct a.o.rd) ?_;rintro f2 ⟨d,b⟩;have a:=hJ (a.o.step q u d b);clear d b;(go_wp2_with fail);refine mB (wZ r g n c _ ts _ f1 a.o.rd) λg3 d5=>?_;have a:=hJ (a.o.keep q u d5);clear d5;refine Fj λS O N R U c1=>?_;go_wp2;obtain⟨y,L,K⟩:=a.o.aI q u ⟨#[]⟩ ();obtain⟨I,H⟩:=fR L;refine bodyPost_ret (v:=tuple #[agg #[string ⟨#[]⟩,slice none 0 0],int .i64 (fg ts (E))]) (by simp[results,results304,go_sem,I,H]) rfl ⟨none,0,0,rfl,jL.none_ _ _,y,K⟩};rw[aK X]at l;obtain⟨f0,b0⟩:=aq l X;clear X l;(go_wp2_with fail);refine mB (kS r g n c E ts aj.jD true b0.o (E+1) rfl _ a.o.ct a.o.rd) ?_;rintro f2 ⟨d,b⟩;have a:=hJ (a.o.step q u d b);clear d b;go_wp2;go_roundw;(case rel=>exact⟨E+1,f,B++[m],_,a.o,by simp;omega,by simp;omega,f0.o⟩);case measure=>have f3:=bL a.o.bI;rw[f3,f'.o];simp[lenOf];omega};have l:=Z.o;rw[aK W]at l;unfold uX at l;rw[aG iy]at l;injection l with A l;injection l with z l;injection l with t C;subst A z t C;have c7:=hJ W;clear W;refine mB (kS r g n c E ts aj.eY true c7.o (E+1) rfl _ a.o.ct a.o.rd) ?_;rintro e1 ⟨d,b⟩;have a:=hJ (a.o.step q u d b);clear d b;refine Fj λS O N R U c1=>?_;go_wp2;obtain⟨y,L,K⟩:=a.o.aI q u x (slice b6 (B.length+1) c6);obtain⟨d',d8,d7,a2,a6⟩:=a.o.nN q u x (slice b6 (B.length+1) c6);cases a2;obtain⟨I,H⟩:=fR L;refine bodyPost_ret (v:=tuple #[agg #[x,(slice b6 (B.length+1) c6)],""]) (by simp[results,results304,go_sem,I,H]) rfl ⟨_,_,_,rfl,a6,y,K⟩};rw[aK b]at o;refine yU λA z o t C=>?_;subst A z t C;have b2:=hJ b;clear b;go_enter func304,ntmps304;(go_wp2_with fail);refine yV λG a=>?_;refine tj ?_;rintro D ⟨d,b⟩;have a:=hJ (a.o.step q d b);clear d b;(go_wp2_with fail);have u:=a.o.aX.lt;have t:SS w r g n c ts D x () [] (D.alloc (.cells #[x,()] 88)) (i+1):=⟨a.o.rd.alloc _,a.o.aX.alloc _,af.new D _ _,⟨rfl,.inl ⟨rfl,rfl⟩⟩,a.o.but.alloc _,a.o.ct.alloc (dH a.o.rd.lt) _,λp J=>absurd J iy⟩;obtain⟨gs,M⟩:=xS D;rw[<-M]at u t⊢;generalize World.alloc _ _=e0 at t⊢;have a:=hJ t;clear t M;(go_wp2_with fail);refine mB (kS r g n c _ ts aj.iZ true a7.o _ rfl _ a.o.ct a.o.rd) ?_;rintro a4 ⟨d,b⟩;have a:=hJ (a.o.step q u d b);clear d b;simp only[if_true,if_false,Bool.false_eq_true]at a;(go_wp2_with fail);refine mB (kS r g n c _ ts aj.eY true b2.o _ rfl _ a.o.ct a.o.rd) ?_;rintro e' ⟨d,b⟩;exact aiL
def LF (a:ah ak) (n c:Nat) (x:Int) (ts:List Tk) (nm:au) (u:List aj.Mt) (j:Nat) (l:Int) (o:aj.parse ts x=(nm,u,j,l)) (w:Wd) (D:bP w w a n c ts):
 Calls prog 279 #[slice a n c,x] w λe w'=> ∃A' n' c',e= .returned (tuple #[agg #[nm,slice A' n' c'],j,l])/\cQ w' w' A' n' c' u/\(∀p:ak,A'=some p->w<=p.block)/\az w w':=by have H:=D.len;have F:=hJ D;clear D;unfold aj.parse at o;by_cases f:x<0;{rw[aK f]at o;refine yU λA z o t C=>?_;subst A z t C;have G:=bG f;clear f;go_enter func279,ntmps279;go_wp2;refine bodyPost_ret (v:=tuple #[agg #["s",()],"","3"]) (by simp[results,results279,go_sem]) rfl ⟨none,0,0,rfl,⟨aA.none_ _ _,λp J=>absurd J iy⟩,vzg,ly⟩};rw[aG f]at o;obtain⟨X,I⟩: ∃X:Nat,x=X:=⟨x.toNat,oy⟩;subst I;rw[show(X:Int).toNat=X from rfl,H]at o;have G:=bj f;clear f;by_cases K:n<X;{rw[Nat.min_eq_right oy]at o;have E:=hJ o;clear o;go_enter func279,ntmps279;(go_wp2_with fail);rw[show min (X:Int) n=n by omega];have i:=(af.new w 88 #["s",()]).alloc (.cells #[slice a n c,n] 415);(have b:Rd ((w.alloc (.cells #["s",()] 88)).alloc (.cells #[slice a n c,n] 415)) (w+1) a n c n:=by have:=af.new (w.alloc (.cells #["s",()] 88)) 415 #[slice a n c,n];simpa using this);have d:az w ((w.alloc (.cells #["s",()] 88)).alloc (.cells #[slice a n c,n] 415)):=(aN.alloc ny _).alloc iy _;obtain⟨g,m⟩:=xS ((w.alloc (.cells #["s",()] 88)).alloc (.cells #[slice a n c,n] 415));rw[<-m]at i b d⊢;clear m;obtain⟨r,y⟩:=xS (w.heap.size+1);rw[<-y]at b⊢;have q:bP g r a n c ts:=(F.below d).more oy;refine(MY r a n c n ts nm u j l E g q b).mono ?_;exact SQ};rw[Nat.min_eq_left oy]at o;have E:=hJ o;clear o;go_enter func279,ntmps279;(go_wp2_with fail);rw[show min (X:Int) n=X by omega];have i:=(af.new w 88 #["s",()]).alloc (.cells #[slice a n c,X] 415);(have b:Rd ((w.alloc (.cells #["s",()] 88)).alloc (.cells #[slice a n c,X] 415)) (w+1) a n c X:=by have:=af.new (w.alloc (.cells #["s",()] 88)) 415 #[slice a n c,X];simpa using this);have d:az w ((w.alloc (.cells #["s",()] 88)).alloc (.cells #[slice a n c,X] 415)):=(aN.alloc ny _).alloc iy _;obtain⟨g,m⟩:=xS ((w.alloc (.cells #["s",()] 88)).alloc (.cells #[slice a n c,X] 415));rw[<-m]at i b d⊢;clear m;obtain⟨r,y⟩:=xS (w.heap.size+1);rw[<-y]at b⊢;have q:bP g r a n c ts:=(F.below d).more oy;refine(MY r a n c X ts nm u j l E g q b).mono ?_;exact SQ
namespace Lex
def size_mk (l:Bs):(⟨l.toArray⟩:au).size=l.length:=by simp[ByteArray.size]
def afJ (s:au):s.size=(bl s).length:=by rfl
end Lex
namespace aj
def qB (v:au):au:=⟨(Lex.quote (Lex.bl v)).toArray⟩
def rD (k:Nat):au:=if k=0 then iZ else jD
def Tu (b:Bool):au:=if b=true then ql else kK
def part (k:Nat) (m:Mt):au:=rD k++m.1++Tu m.2.2++qB m.2.1
def kX (nm:au) (a:List Mt):Nat->au
 |0=>nm
 |k+1=>match a[k]? with
  |none=>kX nm a k
  |some m=>kX nm a k++part k m
def print (nm:au) (a:List Mt):au:=if eR nm a=true then(if a.length=0 then nm else kX nm a a.length++eY)else⟨#[]⟩
def Xh {G2:List Mt} {k:Nat} {m:Mt} (a:G2[k]?=some m):kX nm G2 (k+1)=kX nm G2 k++part k m:=by rw[kX,a]
theorem uL {G2:List Mt} (a:eR nm G2) {k:Nat} {m:Mt} (b:G2[k]?=some m):1<=m.1.size/\m.1.size<=64/\m.2.1.size<=64/\aa.name m.1:=by unfold eR at a;rw[cm]at a;have:=fa.1 a.2 k (bZ.1 b).1;rw[CH b,cm,dP]at this;grind[aa.name]
theorem xF {G2:List Mt} (a:eR nm G2):1<=nm.size/\nm.size<=64/\G2.length<=8/\aa.name nm:=by grind[eR,aa.name]
theorem xU (v:au):(qB v).size<=2*v.size+2:=by unfold qB;rw[Lex.size_mk,afJ v];exact abg _
theorem aeq (b:Bool):(Tu b).size<=2:=by cases b<;>decide
theorem acM (k:Nat):(rD k).size=1:=by unfold rD;split<;>rfl
theorem ack {k:Nat} {m:Mt} (a:m.1.size<=64) (b:m.2.1.size<=64):(part k m).size<=200:=by grind[ByteArray.size_append,acM,part,aeq,xU]
theorem GN {G2:List Mt} (a:eR nm G2) (k:Nat):(kX nm G2 k).size<=64+k*200:=by induction k with|zero=>(unfold kX;have:=xF a;omega)|succ k ih=>grind[kX,ByteArray.size_append,uL,ack]
end aj
def KX (v q:au) (b:qB v=q) (a:v.size<=60000000000000) (w:Wd):Calls prog 202 #[v] w (bO w (string q)):=by subst b;exact abC v a w
def Ci (nm:au) (A:ah ak) (n c:Nat) (ms:List aa.Mt) (w:Wd) (a3:cQ w w A n c ms):
 Calls prog 229 #[agg #[nm,slice A n c]] w (bO w (aj.print nm ms)):=by have a8:=hJ a3;have c4:=cK a3.1.2.1 a3.1.2.2.1;have z:=hJ a3.len;clear a3;rcases B:eR nm ms with _|_;{obtain⟨U,D⟩:=aq B (show aj.print nm ms=⟨#[]⟩by unfold aj.print;rw[B];rfl);clear B;go_enter func229,ntmps229;(go_wp2_with fail);refine oM λF p a J j d f=>?_;have r:=hJ ((a8.below a).more j);refine pV λg E e G=>?_;clear e;exact Ea};have U:=hJ B;by_cases a5:n=0;{have D:=hJ (show aj.print nm ms=nm by unfold aj.print;rw[B,z.o,aK a5];rfl);have b1:((n:Int)==0):=tG;clear B a5;go_enter func229,ntmps229;(go_wp2_with fail);refine oM λF p a J j d f=>?_;have r:=hJ ((a8.below a).more j);refine pV λg E e G=>?_;have d:=bC e d;have f:=bC e f;clear e;exact Ea};have D:=hJ (show aj.print nm ms=kX nm ms n++aj.eY by unfold aj.print;rw[B,z.o,aG a5];rfl);have b1:((n:Int)==0)=false:=mu;have c0:=(xF B).2.2.1;rw[z.o]at c0;clear B a5;go_enter func229,ntmps229;(go_wp2_with fail);refine oM λF p a J j d f=>?_;have r:=hJ ((a8.below a).more j);refine pV λg E e G=>?_;have d:=bC e d;have f:=bC e f;have b5:=hJ (r.later e);clear e;go_wp2;clear d f b1;go_loopw[3,22] (λv i wr=> ∃k:Nat,k<=n/\v=(kX nm ms k)/\i=k/\az E wr) (λ_ i _=>n- (intOf i).toNat);(case atStart=>exact⟨0,dR _,rfl,rfl,aN⟩);case round=>obtain⟨k,c5,rfl,rfl,H⟩:=hrel;have b8:=bU G H;have b3:=H.size;have b0:=GN U k;by_cases u:k<n;{refine oD λC=>?_;obtain⟨b,c3,rfl,c1,a1⟩:=b5.at_ u;refine SD λm I R O N=>?_;obtain⟨b7,b9,b',-⟩:=aj.uL U I;have a':=hJ (Xh (nm:=nm) I);have b2:=xU m.2.1;obtain⟨l,o,b6⟩:=m;simp only at R O N b7 b9 b' b2;obtain⟨t,Y⟩:=xR (kX nm ms k);rw[Y]at b0 a'⊢;obtain⟨q,a6⟩:=xR (qB o);rw[a6]at b2;have b4:=hJ a6;clear a1 I Y a6;obtain _|_:=b6;{by_cases L:k=0;{have a7:((k:Int)==0):=tG;have a2:=hJ (show aj.part k (l,o,false)=⟨#[123]⟩++l++⟨#[61]⟩++qB o by unfold aj.part rD;rw[aK L];rfl);clear L;refine RQ λy x=>?_;go_wp2;generalize a4:World.alloc _ _=a9 at y x⊢;refine yS λZ V=>?_;clear R O N;refine NW λW M X S=>?_;exact zh};have a7:((k:Int)==0)=false:=mu;have a2:=hJ (show aj.part k (l,o,false)=⟨#[44]⟩++l++⟨#[61]⟩++qB o by unfold aj.part rD;rw[aG L];rfl);clear L;refine RQ λy x=>?_;go_wp2;generalize a4:World.alloc _ _=a9 at y x⊢;refine yS λZ V=>?_;clear R O N;refine NW λW M X S=>?_;exact zh};by_cases L:k=0;{have a7:((k:Int)==0):=tG;have a2:=hJ (show aj.part k (l,o,true)=⟨#[123]⟩++l++⟨#[33,61]⟩++qB o by unfold aj.part rD;rw[aK L];rfl);clear L;refine Qa λy x=>?_;go_wp2;generalize a4:World.alloc _ _=a9 at y x⊢;refine yS λZ V=>?_;clear R O N;refine OO λW M X S=>?_;exact zh};have a7:((k:Int)==0)=false:=mu;have a2:=hJ (show aj.part k (l,o,true)=⟨#[44]⟩++l++⟨#[33,61]⟩++qB o by unfold aj.part rD;rw[aG L];rfl);clear L;refine Qa λy x=>?_;go_wp2;generalize a4:World.alloc _ _=a9 at y x⊢;refine yS λZ V=>?_;clear R O N;refine OO λW M X S=>?_;exact zh};obtain rfl:k=n:=oy;obtain⟨t,Y⟩:=xR (kX nm ms k);rw[Y]at b0 D⊢;(have c2: ¬ ""<t.size+1:=by omega);clear Y;go_wp2;go_ret;exact⟨by rw[D.o];rfl,b8⟩
def qA (W:Wd):cQ W W none 0 0 []:=⟨aA.none_ _ _,λp a=>absurd a iy⟩
namespace aj
def we (m:Mt):Prop:=aa.name m.1=true/\m.2.1.size<=64
def GJ {ts:List Tk} (b:i<=ts.length):gZ ts i=3↔i=ts.length:=by rcases a:ts[i]? with _|t;{have:=List.getElem?_eq_none_iff.1 a;rw[tW a];omega};have:=(List.getElem?_eq_some_iff.1 a).1;rw[uc a];omega
theorem tV {ts:List Tk} (a:i<=ts.length):fg ts i=3↔i=ts.length:=by grind[fg]
def Zr {ts:List Tk} (b:i<=ts.length):lY ts i n=3↔i=ts.length:=by rcases a:ts[i]? with _|t;{have:=List.getElem?_eq_none_iff.1 a;rw[uh a];omega};have:=(List.getElem?_eq_some_iff.1 a).1;rw[ue a];omega
theorem UF {ts:List Tk} {k:Nat} {m:Mt} (d:i<=ts.length) (a:mG ts i k=(m,j,e)):(e=0->we m/\k<8/\i<j/\j<=ts.length)/\(e≠0->i<=j/\j<=ts.length/\(e=3↔j=ts.length)):=by constructor;{rintro rfl;obtain⟨b,c,f,h⟩:=Hz a;refine⟨⟨b,c⟩,f,oy,?_⟩;unfold mG at a;split at a;{grind};split at a;{grind};split at a;{grind};rename_i s;have:=agq (ts:=ts) (i:=i+2) (n:=k) oy;omega};intro r;unfold mG at a;split at a;{injection a with _ a;injection a with b c;subst b c;exact⟨ny,d,GJ d⟩};rename_i l;have q:=KO (ts:=ts) (i:=i) oy;split at a;{injection a with _ a;injection a with b c;subst b c;exact⟨oy,oy,tV oy⟩};rename_i o;(have g:cY ts (i+1) ql\/cY ts (i+1) kK:=by grind);have p:=g.elim kW kW;split at a;{injection a with _ a;injection a with b c;subst b c;exact⟨oy,oy,Zr oy⟩};grind
theorem FY {ts:List Tk}: ∀ (f i:Nat) (b c:List Mt) (j:Nat) (e:Int),i<=ts.length->(∀m∈b,we m)->b.length<=8->f+b.length=10->oe ts f i b=(c,j,e)->
 (e=0->(∀m∈c,we m)/\c.length<=8/\i<j/\j<=ts.length)/\(e≠0->i<=j/\j<=ts.length/\(e=3↔j=ts.length))
 |0,i,b,c,j,e,_,_,t,l,_=>absurd l oy
 |f+1,i,b,c,j,e,s,z,t,l,a=>by
  rcases n:mG ts i b.length with⟨m,q,v⟩;have o:=UF s n;rw[HJ n]at a;split at a;{rename_i k;injection a with _ a;injection a with h g;subst h g;exact⟨λd=>absurd d k,λ_=>o.2 k⟩};rename_i k;obtain⟨w,A,u,y⟩:=o.1 oy;(have r: ∀x∈b++[m],we x:=by grind);split at a;{grind[kW]};split at a;{rename_i p;have:=kW p;have ih:=FY f (q+1) (b++[m]) c j e oy r uy uy a;grind};injection a with _ a;injection a with h g;subst h g;exact⟨λd=>absurd d (ni _ _),λ_=>⟨oy,oy,tV oy⟩⟩
def xO {G2:List Mt} (c:aa.name nm) (e:G2.length<=8) (b: ∀m∈G2,we m):eR nm G2:=by unfold eR;rw[c,decide_eq_true e,Bool.true_and,Bool.true_and,fa];intro k a;have d:=getElem?_eq_getElem a;have:=b G2[k] (getElem_mem a);rw[CH d,this.1,decide_eq_true this.2];rfl
theorem Yx {ts:List Tk} (b:gZ ts i=0):aa.name (dz ts i):=by rcases a:ts[i]? with _|t;{rw[tW a]at b;cases b};rw[uc a]at b;rw[ji a];grind
theorem GW {ts:List Tk} {G2:List Mt} (n:i<=ts.length) (a:lN ts i=(nm,G2,j,e)):
 (e=0->eR nm G2/\i<ts.length/\i<j/\j<=ts.length)/\(e≠0->nm=⟨#[]⟩/\G2=[]/\i<=j/\j<=ts.length/\(e=3↔j=ts.length)):=by unfold lN at a;split at a;{rename_i h;injection a with c a;injection a with f a;injection a with d b;subst c f d b;exact⟨λa=>absurd a h,λ_=>⟨rfl,rfl,ny,n,GJ n⟩⟩};rename_i h;have o:gZ ts i=0:=oy;have k:=Yx o;have v:=KO o;split at a;{exact RZ};rename_i s;have x:=kW (show cY ts (i+1) iZ=true by simpa using s);split at a;{rename_i u;have:=kW u;exact RZ};rcases l:oe ts 10 (i+2) []with⟨r,p,q⟩;have t:=FY 10 (i+2) [] r p q oy (λm g=>absurd g iy) iy rfl l;rw[l]at a;simp only at a;split at a;{grind};rename_i w;injection a with c a;injection a with f a;injection a with d b;subst c f d b;have:=t.1 oy;exact⟨λ_=>⟨xO k this.2.1 this.1,oy,oy,this.2.2.2⟩,λa=>absurd rfl a⟩
end aj
namespace aP
open Go.Lib (decDigits)
def digit (c:aU):Bool:=decide (48<=c)&&decide (c<=57)
def step (v:Nat) (c:aU):Nat:=v*10+(c.toNat-48)
def val (v:Nat) (l:Bs):Nat:=l.foldl step v
theorem kQ (v):val v []=v:=foldl_nil
theorem kn (v c l):val v (c::l)=val (step v c) l:=foldl_cons
theorem pz {a:Nat} (b:c.toNat=48+a):step v c=v*10+a:=by grind[step]
def fin (v w p:Nat) (a:Bool):ah Nat:=if w=0\/3<p\/(a/\p=0)then none else some (v*10^ (3-p))
def scan:Bs->Nat->Nat->Nat->Bool->ah Nat
 |[],v,w,p,a=>fin v w p a
 |c::l,v,w,p,a=>
  if c=46/\a=false/\0<w then scan l v w p true
  else if digit c=true then(if a=true then scan l (step v c) w (p+1) a else scan l (step v c) (w+1) p a)
  else none
def neg:Bs->Bool
 |45::_=>true
 |_=>false
def jO:Bs->Bs
 |45::l=>l
 |l=>l
def cj:Nat:=9007199254740992
def Ak (s:Bs):ah Nat:=scan (jO s) 0 0 0 false
def done (b:Bool):ah Nat->Int×Int
 |none=>(0,1)
 |some n=>if n<=cj then((if b=true then-(n:Int)else(n:Int)),0)else(0,2)
def parse (s:Bs):Int×Int:=done (neg s) (Ak s)
def ar (v:Int):Bool:=decide (-()<=v)&&decide (v<=())
def eh (d:Nat):aU:=UInt8.ofNat (48+d)
def places (r:Nat):Bs:=
 if r=0 then[]else
 46::eh (r/100)::(if r%100=0 then[]else eh (r/10%10)::(if r%10=0 then[]else[eh (r%10)]))
def pos (n:Nat):Bs:=decDigits (n/1000)++places (n%1000)
def print (v:Int):Bs:=if ar v=true then(if v<0 then 45::pos v.natAbs else pos v.natAbs)else[]
def xi (k) (a:k<10):digit (eh k)/\(eh k).toNat=48+k:=by have: ∀k:Fin 10,digit (eh k.val)/\(eh k.val).toNat=48+k.val:=dy;exact this ⟨k,a⟩
def Jp (a:digit c):c≠46/\c≠45:=by constructor<;>(rintro rfl;exact absurd a dy)
theorem Hp (a r) (b:a.all digit): ∀v w p,scan (a++r) v w p false=scan r (val v a) (w+a.length) p false:=by induction a with|nil=>(intro v w p;rw[kQ];rfl)|cons c a ih=>(intro v w p;simp only[all_cons,cm]at b;(conv=>lhs;rw[lu];unfold scan);rw[aG (λd=>(Jp b.1).1 d.1),aK b.1,aG dy,ih b.2];grind[cH,kn])
theorem WG (a r) (b:a.all digit): ∀v w p,scan (a++r) v w p true=scan r (val v a) w (p+a.length) true:=by induction a with|nil=>(intro v w p;rw[kQ];rfl)|cons c a ih=>(intro v w p;simp only[all_cons,cm]at b;(conv=>lhs;rw[lu];unfold scan);grind[cH,kn])
def Ix (r v w p) (a:0<w):scan (46::r) v w p false=scan r v w p true:=by
 conv=>lhs;unfold scan
 rw[aK ⟨rfl,rfl,a⟩]
theorem TZ (l): ∀v w p n,scan l v w p true=some n->l.all digit/\w≠0/\p+l.length<=3/\p+l.length≠0/\n=val v l*10^ (3- (p+l.length)):=by induction l with|nil=>grind[kQ,scan,fin,Nat.le_of_not_lt]|cons c l ih=>grind[cH,kn,scan]
theorem KP (l): ∀v w n,scan l v w 0 false=some n-> ∃b E:Bs,b.all digit/\E.all digit/\w+b.length≠0/\E.length<=3/\n=val (val v b) E*10^ (3-E.length)/\
 ((E=[]/\l=b)\/(E≠ []/\l=b++46::E)):=by induction l with|nil=>(intro v w n a;unfold scan fin at a;split at a;{cases a};rename_i f;injection a with a;exact⟨[],[],rfl,rfl,λa=>f (.inl a),dy,by rw[<-a,kQ,kQ];rfl,.inl ⟨rfl,rfl⟩⟩)|cons c l ih=>(intro v w n a;unfold scan at a;split at a;{rename_i f;obtain⟨rfl,_,k⟩:=f;let⟨g,e,i,h,d⟩:=TZ l _ _ _ _ a;refine⟨[],l,rfl,g,by simpa using e,oy,?_,.inr ⟨?_,rfl⟩⟩;{rw[d,Nat.zero_add,kQ]};grind};split at a;{rename_i j;rw[aG dy]at a;let⟨b,E,g,e,i,h,d,m⟩:=ih _ _ _ a;refine⟨c::b,E,by grind,e,by rw[cH];omega,h,by rw[d,kn],?_⟩;grind};cases a)
def tail (r:Nat):Bs:=if r=0 then[]else eh (r/100)::(if r%100=0 then[]else eh (r/10%10)::(if r%10=0 then[]else[eh (r%10)]))
theorem AR (r):places r=if r=0 then[]else 46::tail r:=by grind[places,tail]
def ahP:tail 0=[]:=rfl
theorem Np (b:r≠0) (a:r%100=0):tail r=[eh (r/100)]:=by grind[tail]
theorem Nu (a:r%100≠0) (b:r%10=0):tail r=[eh (r/100),eh (r/10%10)]:=by grind[tail]
theorem NG (a:r%10≠0):tail r=[eh (r/100),eh (r/10%10),eh (r%10)]:=by grind[tail]
def aje (q a c) (b:c.toNat=48+a):val q [c]*10^ (3-1)=(q*10+a)*100:=by rw[kn,kQ,pz b]
def aiQ (q a b c d) (f:c.toNat=48+a) (e:d.toNat=48+b):val q [c,d]*10^ (3-2)=((q*10+a)*10+b)*10:=by rw[kn,kn,kQ,pz f,pz e]
def ajf (q a b x c d e) (h:c.toNat=48+a) (f:d.toNat=48+b) (g:e.toNat=48+x):val q [c,d,e]*10^ (3-3)=((q*10+a)*10+b)*10+x:=by rw[kn,kn,kn,kQ,pz h,pz f,pz g,Nat.sub_self,Nat.pow_zero,Nat.mul_one]
theorem XO (r) (j:r<1000):(tail r).all digit/\(tail r).length<=3/\(r≠0->(tail r).length≠0)/\ ∀q,val q (tail r)*10^ (3- (tail r).length)=q*1000+r:=by have a:=xi (r/100) oy;have b:=xi (r/10%10) oy;have f:=xi (r%10) oy;by_cases i:r=0;{simp_all[ahP,fQ,kQ,Nat.add_zero]};by_cases h:r%100=0;{rw[Np i h];generalize eh (r/100)=c at a⊢;refine⟨by grind,iy,iy,λq=>?_⟩;rw[show([c]:Bs).length=1 by rfl,aje q _ c a.2];omega};by_cases g:r%10=0;{rw[Nu h g];generalize eh (r/100)=c at a⊢;generalize eh (r/10%10)=d at b⊢;refine⟨by grind,iy,iy,λq=>?_⟩;rw[show([c,d]:Bs).length=2 by rfl,aiQ q _ _ c d a.2 b.2];omega};rw[NG g];generalize eh (r/100)=c at a⊢;generalize eh (r/10%10)=d at b⊢;generalize eh (r%10)=e at f⊢;refine⟨by grind,iy,iy,λq=>?_⟩;rw[show([c,d,e]:Bs).length=3 by rfl,ajf q _ _ _ c d e a.2 b.2 f.2];omega
theorem ads (D) (a:D.all digit) (b:D.length≠0):scan D 0 0 0 false=some (val 0 D*1000):=by have:=Hp D [] a 0 0 0;grind[scan,fin]
theorem ZC (D E) (b:D.all digit) (c:D.length≠0) (a:E.all digit):scan (D++46::E) 0 0 0 false=if E.length=0\/3<E.length then none else some (val (val 0 D) E*10^ (3-E.length)):=by rw[Hp D _ b,Ix _ _ _ _ oy];have:=WG E [] a (val 0 D) (0+D.length) 0;grind[scan,fin]
theorem eo (v):ar v=true↔ -()<=v/\v<=():=by simp[ar]
def BJ (v) (a:ar v=false):print v=[]/\parse []=(0,1):=by refine⟨?_,bq⟩;unfold print;rw[a];rfl
theorem AW (s):((parse s).2=0/\ar (parse s).1)\/((parse s).1=0/\((parse s).2=1\/(parse s).2=2)):=by unfold parse done;split;{simp};split;{rename_i n a;refine .inl ⟨rfl,(eo _).2 ?_⟩;grind[cj]};simp
theorem acY (a:digit c):c.toNat-48<=9:=by simp_all[cm,dP,UInt8.le_iff_toNat_le,digit]
def Ww (v d m k) (a:m<(v*10+d+1)*k) (b:d<=9):m<(v+1)*(k*10):=by refine dS a ?_;rw[Nat.mul_comm k 10,<-Nat.mul_assoc];exact Nat.mul_le_mul_right _ oy
def Nj (a) (b:a.all digit): ∀v,val v a<(v+1)*10^a.length:=by induction a with|nil=>(intro v;rw[kQ,fQ,Nat.pow_zero];omega)|cons c a ih=>(intro v;simp only[all_cons,cm]at b;have e:=ih b.2 (step v c);have f:=acY b.1;rw[cH,Nat.pow_succ,kn];unfold step at e⊢;generalize c.toNat-48=d at*;generalize val (v*10+d) a=m at*;generalize 10^a.length=k at*;exact Ww v d m k e f)
theorem abj (E): ∀v,val v E=v*10^E.length+val 0 E:=by induction E with|nil=>(intro v;rw[kQ,kQ,fQ,Nat.pow_zero];omega)|cons c E ih=>(intro v;rw[kn,kn,ih (step v c),ih (step 0 c),cH,Nat.pow_succ];grind[step])
theorem afd (k): ∀n,n<10^k->0<k->(decDigits n).length<=k:=by induction k with|zero=>(intro n _ a;omega)|succ k ih=>grind[decDigits]
theorem aeD (b):(tail (b*100)).length<=1:=by grind[tail]
theorem aeg (b):(tail (b*10)).length<=2:=by grind[tail]
theorem ahr (c:scan l 0 0 0 false=some n):(pos n).length<=l.length:=by let⟨e,E,j,o,s,r,f,q⟩:=KP l _ _ _ c;have m:0<e.length:=oy;have i:=Nj e j 0;rw[Nat.zero_add,Nat.one_mul]at i;have t:=afd e.length (val 0 e) i m;have g:=Nj E o 0;rw[Nat.zero_add,Nat.one_mul]at g;rw[abj]at f;generalize ha:val 0 e=a at*;generalize hb:val 0 E=b at*;unfold pos;rw[AR];obtain⟨rfl,rfl⟩|⟨d,rfl⟩:=q;{grind};rw[bu,bu,cH];have p:E.length≠0:=λc=>d (length_eq_zero_iff.1 c);(have key:n/1000=a/\(tail (n%1000)).length<=E.length:=by rcases c:E.length with _|_|_|_|k;{exact absurd c p};{rw[c]at f g;have d:n/1000=a:=oy;have h:n%1000=b*100:=oy;exact⟨d,by rw[h];exact aeD b⟩};{rw[c]at f g;have d:n/1000=a:=oy;have h:n%1000=b*10:=oy;exact⟨d,by rw[h];exact aeg b⟩};{rw[c]at f g;have d:n/1000=a:=oy;exact⟨d,(XO (n%1000) (Nat.mod_lt _ dy)).2.1⟩};omega);grind
def zero:Bs->Bs
 |45::l=>45::48::l
 |l=>48::l
theorem adP (s):neg (zero s)=neg s/\jO (zero s)=48::jO s:=by by_cases a: ∃l,s=45::l;{obtain⟨l,rfl⟩:=a;exact⟨rfl,rfl⟩};simp_all[zero,jO,neg]
def acr (a:scan l 0 0 0 false=some n):scan (48::l) 0 0 0 false=some n:=by
 let⟨b,E,f,g,k,j,d,h⟩:=KP l _ _ _ a;have c:(48::b:Bs).all digit:=by rw[all_cons,f];rfl
 have e:val 0 (48::b)=val 0 b:=by rw[kn];rfl
 obtain⟨rfl,rfl⟩|⟨i,rfl⟩:=h;{rw[ads _ c iy,e,d];rfl};have m:E.length≠0:=λa=>i (length_eq_zero_iff.1 a);rw[<-lu,ZC _ _ c iy g,aG oy,e,d]
theorem aip {s:Bs} {v:Int} (a:parse s=(v,0)):parse (zero s)=(v,0)/\(print v).length<=s.length/\ar v/\s≠ []:=by
 have h:=AW s;rw[a]at h;have e:ar v:=by grind
 have d:=adP s;unfold parse Ak done at a;rcases b:scan (jO s) 0 0 0 false with _|n;{rw[b]at a;cases a};rw[b]at a;simp only at a;split at a;{rename_i j;injection a with i _;refine⟨?_,?_,e,?_⟩;{unfold parse Ak;rw[d.1,d.2,acr b];grind[done]};{have l:=ahr b;(have g:v.natAbs=n:=by omega);unfold print;rw[aK e,g];split;{rename_i k;(have c:neg s:=by grind);(have f:s.length=(jO s).length+1:=by unfold neg at c;split at c;{rfl};cases c);rw[cH,f];omega};(have f:(jO s).length<=s.length:=by unfold jO;grind);omega};rintro rfl;rw[show scan (jO []) 0 0 0 false=none by rfl]at b;cases b};grind
def cap (v:Nat):Nat:=min v 9007199254740993
def Kq (v d):cap (cap v*10+d)=cap (v*10+d):=by unfold cap;omega
def sH (v):cap v<=9007199254740993:=Nat.min_le_right _ _
def adD (v):()<cap v↔()<v:=by unfold cap;omega
def ZD (a:v<=()):cap v=v:=by unfold cap;omega
theorem JD (b n):done b (some n)=if ()<n then(0,2)else((if b=true then-(n:Int)else(n:Int)),0):=by grind[done,cj]
end aP
def VE {a:Bool} (c:a=b):Ending.returned (bool a)= .returned (bool b):=by rw[c]
def Xu {k:IntKind} {a b:Int} (c:a=b):Ending.returned (.int k a)= .returned (.int k b):=by rw[c]
def acT (c n) (a:n<256):(c<=UInt8.ofNat n)↔c.toNat<=(n:Int):=by exact pX
def aeO (c n) (a:n<256):(UInt8.ofNat n<=c)↔n<=(c.toNat:Int):=by exact pX
def adZ (c n) (a:n<256):(c=UInt8.ofNat n)↔c.toNat=(n:Int):=by exact ER
theorem AI (c):(aP.digit c)↔(48<=(c.toNat:Int)/\(c.toNat:Int)<=57):=by have a:=aeO c 48 dy;have b:=acT c 57 dy;simp_all[aP.digit,cm,dP]
namespace aP
abbrev bl (s:au):Bs:=s.data.toList
theorem gp (s):(bl s).length=s.size:=by simp[bl]
def drop_cons (s i) (a:i<s.size):(bl s).drop i=s[i]::(bl s).drop (i+1):=by rw[jE (by rw[gp];exact a)];rfl
theorem lC (s i) (a:s.size<=i):(bl s).drop i=[]:=drop_eq_nil_of_le (by rw[gp];exact a)
theorem wT (s a b):bl (s.extract a b)=((bl s).drop a).take (b-a):=by simp[bl]
def sw (s k):bl (s.extract k s.size)=(bl s).drop k:=by exact Ff
theorem sy (a:bl s=bl t):s=t:=by cases s;cases t;simp_all
def xe (a b):bl (a++b)=bl a++bl b:=by simp[bl]
def lO (l):bl ⟨l.toArray⟩=l:=by simp[bl]
def sh (l:Bs):(⟨l.toArray⟩:au).size=l.length:=by simp[ByteArray.size]
end aP
def mD (d w):Calls prog 101 #[int .i64 d] w λe w'=>e= .returned (bool (aP.ar d))/\w=w':=by
 go_enter func101,ntmps101;go_wp2;all_goals go_ret
 all_goals exact⟨VE (by simp[aP.ar];try omega),rfl⟩
def adR (v d:Nat) (a:v<=9007199254740993) (b:d<=9) (w):Calls prog 306 #[v,d] w λe w'=>e= .returned (aP.cap (v*10+d))/\w=w':=by
 go_enter func306,ntmps306;go_wp2;all_goals go_ret
 all_goals exact⟨Xu (by unfold aP.cap;omega),rfl⟩
def BY (a: ¬n<10):Lib.decDigits n=Lib.decDigits (n/10)++[UInt8.ofNat (48+n%10)]:=by rw[Lib.decDigits,dif_neg a]
def ada (a:n<10):Lib.decDigits n=[UInt8.ofNat (48+n)]:=Lib.decDigits_one a
namespace aP
theorem pu (n) (a:n<=9223372036854775807):(Lib.decDigits n).length<=21:=by grind[Lib.itoa_nonneg,Lib.itoa_length_le]
end aP
def afU (s w):
 Calls prog 305 #[string s,string ⟨#[45]⟩] w λe w'=>e= .returned (tuple #[string ⟨(jO (aP.bl s)).toArray⟩,bool (aP.neg (aP.bl s))])/\w=w':=by
 refine(strings_CutPrefix s ⟨#[45]⟩ w).mono ?_;rintro e w' ⟨rfl,rfl⟩;refine⟨?_,rfl⟩;have b: ∀l:Bs,Lib.trimPrefix l [45]=jO l/\Lib.hasPrefix l [45]=aP.neg l:=by intro l;cases l with|nil=>exact⟨rfl,rfl⟩|cons c l=>(by_cases a:c=45;{subst a;exact⟨rfl,rfl⟩};(have h:Lib.hasPrefix (c::l) [45]=false:=by simp[Lib.hasPrefix,isPrefixOf];exact λb=>a b.symm);unfold Lib.trimPrefix;rw[h];refine⟨?_,?_⟩;{rw[aG dy];unfold jO;split;{rename_i d;injection d with f i;exact absurd f a};rfl};unfold aP.neg;split;{rename_i d;injection d with f i;exact absurd f a};rfl)
 have g:=b (aP.bl s);rw[<-g.1,<-g.2]
namespace aP
def aeJ (l v w p pt) (a:digit c):scan (c::l) v w p pt=if pt=true then scan l (step v c) w (p+1) pt else scan l (step v c) (w+1) p pt:=by
 conv=>lhs;unfold scan
 rw[aG (λb=>(Jp a).1 b.1),aK a]
theorem BX (l v w p pt) (b:digit c=false) (a: ¬(c=46/\pt=false/\0<w)):scan (c::l) v w p pt=none:=by grind[scan]
def afG (v c):cap (cap v*10+(c.toNat-48))=cap (step v c):=Kq _ _
end aP
def LR (v:Nat) (x:Int) (d:Nat) (c:x=(d:Int)) (a:Nat) (b:aP.cap (v*10+d)=a) (g:v<=9007199254740993) (f:d<=9) (w):Calls prog 306 #[v,x] w λe w'=>e= .returned a/\w=w':=by subst c b;exact adR v d g f w
def IA (w s p):Below w.heap.size w (w.iter s p):=by unfold World.iter;exact(Below.refl _ _).alloc ny _
def Cb (s) (c9:s.size<=4611686018427387904) (w):
 Calls prog 281 #[string s] w (bO w (tuple #[int .i64 (aP.parse (aP.bl s)).1,int .i64 (aP.parse (aP.bl s)).2])):=by
 obtain⟨a,D⟩: ∃a:au,a=⟨(jO (aP.bl s)).toArray⟩:=⟨_,rfl⟩;let⟨b,V⟩:=xS (aP.neg (aP.bl s));have C:=hJ (show aP.parse (aP.bl s)=aP.done b (aP.scan (aP.bl a) 0 0 0 false)by unfold aP.parse Ak;rw[D,lO,V]);have hcut:=afU s w;rw[<-D,<-V]at hcut;have d1:a.size<=4611686018427387904:=by rw[D,sh];(have:(jO (aP.bl s)).length<=(aP.bl s).length:=by unfold jO;split;{rename_i b6;rw[b6];exact Nat.le_succ _};exact ny);rw[aP.gp]at this;omega
 have c0:=hJ hcut;clear hcut D V;go_enter func281,ntmps281;go_wp2_with fail
 refine mE c0.o ?_;go_wp2_with fail
 go_loopw[6,7,8,9] (λS b8 c2 c3 wr=> ∃ (pos v j p:Nat) (l:Bool),pos<=a.size/\wr=w.iter a pos/\S=int .i64 (aP.cap v:Nat)/\b8=int .i64 (j:Nat)/\c2=int .i64 (p:Nat)/\c3=bool l/\j<=pos/\p<=pos/\aP.scan (aP.bl a) 0 0 0 false=aP.scan ((aP.bl a).drop pos) v j p l) (λ_ _ _ _ wr=>a.size-wr.iterPos w);case atStart=>exact⟨0,0,0,0,false,dR _,rfl,rfl,rfl,rfl,rfl,ny,ny,rfl⟩
 case round=>obtain⟨pos,v,j,p,l,d5,rfl,rfl,rfl,rfl,rfl,d2,d6,f⟩:=hrel;have a3:=sH v;let⟨m,M⟩:=xS (aP.cap v);rw[<-M]at a3⊢;have T:=hJ M;clear M;by_cases z:pos<a.size;{have a6:=aP.drop_cons a pos z;rw[a6]at f;clear a6;by_cases B:(a[pos]'(z)).toNat<128;{have H: ∀o,(Instr.next (bK w) true o).run prog (w.iter a pos)=_:=λo=>run_next_ascii w a pos o z B;let⟨c,L⟩:=xR (a[pos]);rw[L]at f B H;clear L;cases q:aP.digit c;{(have I: ¬(48<=(c.toNat:Int)/\(c.toNat:Int)<=57):=λg=>by rw[(AI c).2 g]at q;cases q);by_cases A:c=46;{(have c6:(c.toNat:Int)=46:=by rw[A];rfl);by_cases J:l=false/\0<j;{obtain⟨rfl,Q⟩:=J;have b2:decide (0<j):=uy;(have y:=hJ (show aP.scan (aP.bl a) 0 0 0 false=aP.scan ((aP.bl a).drop (pos+1)) v j p true by rw[f,A,Ix _ _ _ _ Q]));clear f I q A;go_wp2;go_roundw;(case rel=>exact⟨pos+1,v,j,p,true,oy,rfl,by rw[T.o],rfl,rfl,rfl,oy,oy,y.o⟩);case measure=>simp;omega};(have t:=hJ (show aP.parse (aP.bl s)=(0,1)by rw[C.o,f,BX _ _ _ _ _ q (λg=>J g.2)];rfl));(have R:l\/(l=false/\decide (0<j)=false):=by cases l;{refine .inr ⟨rfl,?_⟩;have: ¬0<j:=λg=>J ⟨rfl,g⟩;simp;omega};exact .inl rfl);clear f I q A J;obtain rfl|⟨rfl,b2⟩:=R;all_goals(exact zG)};(have t:=hJ (show aP.parse (aP.bl s)=(0,1)by rw[C.o,f,BX _ _ _ _ _ q (λg=>A g.1)];rfl));(have a4:((c.toNat:Int)==46)=false:=by rw[re];exact λe=>A ((adZ c 46 dy).2 e));clear f q A;by_cases d8:(c.toNat:Int)<48;{clear I;exact zG};have a1:decide ((57:Int)<c.toNat):=uy;clear I;exact zG};let⟨c5,c'⟩:=(AI c).1 q;(have a4:((c.toNat:Int)==46)=false:=by rw[re];omega);have c1:decide ((c.toNat:Int)<48)=false:=uy;have a1:decide ((57:Int)<c.toNat)=false:=uy;rw[aeJ _ _ _ _ _ q]at f;(have c7:IntKind.i32.wrap ((c.toNat:Int)-48)=(c.toNat:Int)-48:=by rw[IntKind.wrap_i32];omega);let⟨d,U⟩:=xS (c.toNat-48);have b5:d<=9:=oy;let⟨Z,O⟩:=xR (aP.cap (m*10+d));let⟨a7,a5⟩:=aq (show Z=aP.cap (aP.step v c)by rw[<-O,T.o,U];exact afG v c) (λw=>LR m ((c.toNat:Int)-48) d oy Z O a3 b5 w);clear O q;cases l;{have y:=hJ f;clear f U;(go_wp2_with fail);refine mE (a5.o _) ?_;go_wp2;go_roundw;(case rel=>exact⟨pos+1,aP.step v c,j+1,p,false,oy,rfl,by rw[a7.o],bh,rfl,rfl,oy,oy,y.o⟩);case measure=>simp;omega};have y:=hJ f;clear f U;(go_wp2_with fail);refine mE (a5.o _) ?_;go_wp2;go_roundw;(case rel=>exact⟨pos+1,aP.step v c,j,p+1,true,oy,rfl,by rw[a7.o],rfl,bh,rfl,oy,oy,y.o⟩);case measure=>simp;omega};have H: ∀o,(Instr.next (bK w) true o).run prog (w.iter a pos)=_:=λo=>run_next_any w a pos o z;have b7:=(decode_high a pos z oy).1;have b1:=decode_le a pos;(have t:=hJ (show aP.parse (aP.bl s)=(0,1)by (have L:aP.digit (a[pos]'(z))=false:=by cases b3:aP.digit (a[pos]'(z));{rfl};have:=(AI _).1 b3;omega);rw[C.o,f,BX _ _ _ _ _ L (λg=>by rw[g.1]at B;exact B dy)];rfl));let⟨r,a2⟩:=xS (Utf8.decode a pos).1;rw[<-a2]at b7 b1 H;(have a4:((r:Int)==46)=false:=by rw[re];omega);have c1:decide ((r:Int)<48)=false:=uy;have a1:decide ((57:Int)<r):=uy;clear a2 f B;exact zG};have H: ∀o,(Instr.next (bK w) true o).run prog (w.iter a pos)=_:=λo=>run_next_end w a pos o z;rw[aP.lC a pos oy]at f;have G:=IA w a pos;by_cases x:j=0\/3<p\/(l/\p=0);{(have t:=hJ (show aP.parse (aP.bl s)=(0,1)by rw[C.o,f];unfold aP.scan aP.fin;rw[aK x];rfl));have W:=hJ G;clear f G;by_cases F:j=0;{subst F;clear x;exact Fl};have Q:((j:Int)==0)=false:=mu;by_cases b4:3<p;{clear x F;exact Fl};have b9:decide (3<p)=false:=uy;(have b':l/\p=0:=by obtain g|g|g:=x;{exact absurd g F};{exact absurd g b4};exact g);obtain⟨rfl,rfl⟩:=b';clear x F;exact Fl};(have t:=hJ (show aP.parse (aP.bl s)=aP.done b (some (v*10^ (3-p)))by rw[C.o,f];unfold aP.scan aP.fin;rw[aG x]));have W:=hJ G;have Q:((j:Int)==0)=false:=mu;have b9:decide ((3:Int)<p)=false:=uy;have d7:p<=3:=oy;(have R:l=false\/(l/\((p:Int)==0)=false):=by cases l;{exact .inl rfl};refine .inr ⟨rfl,?_⟩;have:p≠0:=λg=>x (.inr (.inr ⟨rfl,g⟩));rw[re];omega);let⟨k,a9⟩:=xS (3-p);have d3:k<=3:=oy;have c4:(3:Int)- (p:Int)=(k:Int):=oy;rw[<-a9]at t;have d0:IntKind.i64.wrap (k:Int)=(k:Int):=fA _ oy;clear a9 f G x;obtain rfl|⟨rfl,d4⟩:=R;all_goals(go_wp2;go_loopw[6,65] (λS Y wr=> ∃i:Nat,i<=k/\wr=w.iter a pos/\Y=i/\S=(aP.cap (v*10^i))) (λ_ Y _=>k- (intOf Y).toNat);(case atStart=>exact⟨0,dR _,rfl,rfl,by rw[T.o,Nat.pow_zero,Nat.mul_one]⟩);case round=>obtain⟨i,d9,rfl,rfl,rfl⟩:=hrel;have K:=sH (v*10^i);by_cases c8:i<k;{(have y:=hJ (show aP.cap (aP.cap (v*10^i)*10+0)=aP.cap (v*10^ (i+1))by rw[Kq,Nat.add_zero,Nat.mul_assoc,Nat.pow_succ]));let⟨n,u⟩:=xS (aP.cap (v*10^i));rw[<-u]at K y⊢;clear u;(go_wp2_with fail);refine mE (LR n 0 0 rfl _ y.o K dy _) ?_;go_wp2;go_roundw;(case rel=>exact⟨i+1,oy,by first|trivial|rfl,by first|trivial|go_num,by first|trivial|rfl⟩);case measure=>simp[intOf];omega};obtain rfl:i=k:=oy;let⟨N,X⟩:=xS (v*10^i);rw[<-X]at t K⊢;let⟨n,u⟩:=xS (aP.cap N);rw[<-u]at K⊢;have E:=adD N;rw[<-u]at E;by_cases b0:()<n;{(have a':aP.ar (n:Int)=false:=by unfold aP.ar;simp;omega);have a0:=hJ (show aP.parse (aP.bl s)=(0,2)by rw[t.o,JD,aK (E.1 b0)]);clear X u E b0;exact Fa};(have a':aP.ar (n:Int):=by unfold aP.ar;simp;omega);(have a8:n=N:=by rw[u];exact ZD oy);have a0:=hJ (show aP.parse (aP.bl s)=((if b=true then-(n:Int)else(n:Int)),0)by rw[t.o,JD,aG oy,a8]);clear X u E a8;cases b;{exact Fa};exact Fa)
def dW (w:Wd):Prop:=Lib.TabIs prog w "internal/strconv.uint64pow10" .u64 Lib.pow10Tab
def dW.below (a:dW w) (c:az w w'):dW w':=by unfold dW Lib.TabIs World.var? at*;cases b:prog.globalNamed "internal/strconv.uint64pow10" with|none=>(rw[b]at a;cases a)|some g=>exact OV
def Hs (k os):az w (Go.Sort.grow (w.drewN k) os):=
 ⟨rfl,rfl,rfl,by simp[Go.Sort.grow],λi a=>by
  exact Py⟩
def uz (q:Nat) (a:q<= "") (w) (hG:dW w):
 Calls prog 231 #[q] w (bO w (string ⟨(Lib.decDigits q).toArray⟩)):=by refine(strconv_Itoa (q:Int) oy oy w hG).mono ?_;exact OL
def Mx (x:Int) (q:Nat) (b:x=(q:Int)) (Y) (a:(⟨(Lib.decDigits q).toArray⟩:au)=Y) (c:q<= "") (w) (hG:dW w):
 Calls prog 231 #[x] w (bO w (string Y)):=by subst b a;exact uz q c w hG
def age (s t) (a:(⟨(Lib.trimRightB s.data.toList 48).toArray⟩:au)=t) (b:s.size<=9223372036854775807) (w):
 Calls prog 262 #[string s,string ⟨#[48]⟩] w λe w'=>e= .returned (string t)/\w=w':=by subst a;refine(strings_TrimRight_one s 48 dy w b).mono ?_;rintro e w' ⟨rfl,rfl⟩;exact⟨rfl,rfl⟩
namespace aP
def ahN (r) (a:r<1000):Lib.decDigits (1000+r)=[49,eh (r/100),eh (r/10%10),eh (r%10)]:=by rw[BY oy,BY oy,BY oy,ada oy];unfold eh;rw[show(1000+r)/10/10/10=1 by omega,show(1000+r)/10/10%10=r/100 by omega,show(1000+r)/10%10=r/10%10 by omega,show(1000+r)%10=r%10 by omega];rfl
def Cs {d:Nat} (b:d<10):(eh d==48)=decide (d=0):=by have:=(xi d b).2;have a:(48:aU).toNat=48:=rfl;rw[Bool.eq_iff_iff,beq_iff_eq,<-UInt8.toNat_inj,this,a,dP];omega
def ZJ (r) (h:r<1000) (e:r≠0):Lib.trimRightB [eh (r/100),eh (r/10%10),eh (r%10)] 48=tail r:=by have g:=Cs (d:=r/100) oy;have f:=Cs (d:=r/10%10) oy;have c:=Cs (d:=r%10) oy;unfold Lib.trimRightB;simp only[reverse_cons,reverse_nil,jb,lu,dropWhile_cons,g,f,c];by_cases a:r%10=0;{rw[aK (by simpa using a)];by_cases b:r/10%10=0;{rw[aK (by simpa using b),aG uy,Np e oy];rfl};rw[aG (by simpa using b),Nu oy a];rfl};rw[aG (by simpa using a),NG a];rfl
def ZK (a:r≠0):places r=46::tail r:=by rw[AR,aG a]
def agn (a b c):(⟨(bl a++(bl b++46::bl c)).toArray⟩:au)=a++b++⟨#[46]⟩++c:=by apply sy;simp
theorem Lw (r):(tail r).length<=3:=by grind[tail]
end aP
def XN (v) (l:aP.ar v=false) (w):
 Calls prog 230 #[int .i64 v] w (bO w (string ⟨(aP.print v).toArray⟩)):=by have s:=hJ (BJ v l).1;go_enter func230,ntmps230;exact OC
def Ih (v:Int) (n:Nat) (b:Bool) (Sg) (B:(b/\v= -(n:Int)/\0<n/\Sg=⟨#[45]⟩)\/(b=false/\v=(n:Int)/\Sg=⟨#[]⟩)) (u:aP.ar v) (R:n<=()) (w) (hG:dW w):
 Calls prog 230 #[v] w (bO w (string ⟨(aP.bl Sg++aP.pos n).toArray⟩)):=by
 have y:=hJ hG;have a2:Sg.size<=1:=by obtain⟨_,_,_,rfl⟩|⟨_,_,rfl⟩:=B<;>decide
 let⟨q,j⟩:=xS (n/1000);let⟨r,k⟩:=xS (n%1000);have W:Int.tdiv (n:Int) 1000=(q:Int):=by rw[j];rfl
 have U:Int.tmod (n:Int) 1000=(r:Int):=by rw[k];rfl
 have T:(n:Int)/1000=(q:Int):=by rw[j];rfl
 have Y:(n:Int)%1000=(r:Int):=by rw[k];rfl
 have z:r<1000:=oy;have O:q<=():=oy;obtain⟨c,f⟩: ∃c:au,(⟨(Lib.decDigits q).toArray⟩:au)=c:=⟨_,rfl⟩;have a1:c.size<=21:=by rw[<-f,sh];exact pu q oy
 obtain⟨t,F,C⟩:=aM (show aP.pos n=aP.bl c++aP.places r by unfold aP.pos;rw[<-j,<-k,<-f,lO]) (λw (hG:dW w)=>Mx (q:Int) q rfl c f oy w hG) u;obtain⟨a,p⟩: ∃a:au,(⟨(Lib.decDigits (1000+r)).toArray⟩:au)=a:=⟨_,rfl⟩;have s:aP.bl a=[49,eh (r/100),eh (r/10%10),eh (r%10)]:=by rw[<-p,lO,ahN r z]
 have H:a.size=4:=by rw[<-aP.gp,s];rfl
 have i:aP.bl (a.extract 1 a.size)=[eh (r/100),eh (r/10%10),eh (r%10)]:=by rw[aP.sw,s];rfl
 let⟨X,o⟩:=xS (a.extract 1 a.size);rw[<-o]at i;have K:X.size=3:=by rw[<-aP.gp,i];rfl
 have x:=hJ (show ∀w,r≠0->Calls prog 262 #[X,string ⟨#[48]⟩] w λe w'=>e= .returned (string ⟨(aP.tail r).toArray⟩)/\w=w' from λw d=>by refine age X _ ?_ oy w;rw[show X.data.toList=_ from i,ZJ r z d]);have I:=hJ (λw (hG:dW w)=>Mx (1000+(r:Int)) (1000+r) oy a p oy w hG);obtain⟨E,g⟩: ∃E:au,(⟨(aP.tail r).toArray⟩:au)=E:=⟨_,rfl⟩;rw[g]at x;have S:E.size<=3:=by rw[<-g,sh];exact Lw r
 obtain⟨M,J⟩:=aq (show aP.bl E=aP.tail r by rw[<-g,lO]) o.symm;have V:a.size<=4:=oy;have N:1<=a.size:=oy;clear p s i o g H K;have Q: ¬ ""<Sg.size+c.size:=by omega
 clear hG j k f u;obtain⟨rfl,rfl,a3,A⟩|⟨rfl,rfl,A⟩:=B;all_goals(subst A;go_enter func230,ntmps230;(go_wp2_with fail);refine mE (mD _ _) ?_;rw[C.o];(go_wp2_with fail);refine mB (F.o _ y.o) λa0 m=>?_;by_cases d:r=0;{have l:=hJ d;have L:((r:Int)==0):=tG;subst d;go_wp2;go_ret;refine⟨?_,m⟩;rw[t.o,show aP.places 0=[]from rfl,na,<-xe];rfl};have L:((r:Int)==0)=false:=mu;have l:=hJ d;(go_wp2_with fail);refine mB (I.o _ (y.below m)) λZ G=>?_;have D:=bU m G;(go_wp2_with fail);rw[J.o];refine mE (x.o _ l.o) ?_;go_wp2;go_ret;refine⟨?_,D⟩;rw[t.o,ZK l.o,<-M.o,agn];rfl)
def Uw (v w) (hG:dW w):
 Calls prog 230 #[int .i64 v] w (bO w (string ⟨(aP.print v).toArray⟩)):=by cases a:aP.ar v;{exact XN v a w};have c:=(aP.eo v).1 a;unfold aP.print;rw[aK a];by_cases b:v<0;{rw[aK b];exact Ih v v.natAbs true ⟨#[45]⟩ (.inl ⟨rfl,oy,oy,rfl⟩) a oy w hG};rw[aG b];exact Ih v v.natAbs false ⟨#[]⟩ (.inr ⟨rfl,oy,rfl⟩) a oy w hG
namespace di.aT
open Go.Lib (decDigits)
def digit (c:aU):Bool:=decide (48<=c)&&decide (c<=57)
def num:Nat->Bs->Nat×Bs
 |v,[]=>(v,[])
 |v,c::l=>if digit c then num (v*10+(c.toNat-48)) l else(v,c::l)
def ov:Bs->Bool
 |[]=>false
 |c::_=>digit c
def lets:Nat->Bs
 |0=>[100]
 |1=>[104]
 |2=>[109]
 |3=>[115]
 |_=>[109,115]
def size:Nat->Nat
 |0=>86400000
 |1=>3600000
 |2=>60000
 |3=>1000
 |_=>1
def iM:Bs->ah Nat
 |109::115::_=>some 4
 |c::_=>if c=100 then some 0 else if c=104 then some 1 else if c=109 then some 2 else if c=115 then some 3 else none
 |[]=>none
def sumOf:Nat->Bs->Nat->ah Nat
 |0,_,_=>none
 |f+1,s,a=>
  if ov s then
   match iM (num 0 s).2 with
   |none=>none
   |some k=>if k<a then none else
    if(num 0 s).2.drop (lets k).length=[]then some ((num 0 s).1*size k)
    else(sumOf f ((num 0 s).2.drop (lets k).length) (k+1)).map (λv=>(num 0 s).1*size k+v)
  else none
def cj:Nat:=9007199254740992
def parse (s:Bs):Int×Int:=
 match sumOf 6 s 0 with
 |none=>(0,1)
 |some v=>if v<=cj then((v:Int),0)else(0,2)
def parts:Nat->Nat->Bs
 |0,_=>[]
 |m+1,d=>(if 0<d/size (4-m)then decDigits (d/size (4-m))++lets (4-m)else[])++parts m (d%size (4-m))
def ar (d:Int):Bool:=decide (0<=d)&&decide (d<=())
def print (d:Int):Bs:=if ar d then(if d=0 then[48,115]else parts 5 d.toNat)else[]
def size_pos (k:Nat):0<size k:=by unfold size;split<;>decide
def BJ (d:Int) (a:ar d=false):print d=[]/\parse []=(0,1):=by refine⟨?_,bq⟩;unfold print;rw[a];rfl
theorem AW (s:Bs):((parse s).2=0/\ar (parse s).1)\/((parse s).1=0/\((parse s).2=1\/(parse s).2=2)):=by grind[ar,parse,cj]
theorem Dg {k:Nat} (a:iM l=some k):k<5:=by unfold iM at a;grind
theorem acO (f:Nat): ∀ (g:Nat) (l:Bs) (a:Nat),6-a<=f->6-a<=g->a<=5->sumOf f l a=sumOf g l a:=by induction f with|zero=>(intro g l a b e d;omega)|succ f ih=>(intro g l a b e d;obtain⟨g,rfl⟩: ∃c,g=c+1:=⟨g-1,oy⟩;unfold sumOf;grind[Dg])
def kB (l:Bs) (a:Nat):ah Nat:=sumOf 6 l a
theorem ZB {a:Nat} (b:ov l=false):kB l a=none:=by grind[kB,sumOf]
theorem aaU {a:Nat} (b:ov l) (c: ∀k,iM (num 0 l).2=some k->k<a):kB l a=none:=by grind[kB,sumOf]
def aci {a k:Nat} (c:ov l) (b:iM (num 0 l).2=some k) (e:a<=k):
 kB l a=if(num 0 l).2.drop (lets k).length=[]then some ((num 0 l).1*size k)else(kB ((num 0 l).2.drop (lets k).length) (k+1)).map (λv=>(num 0 l).1*size k+v):=by
 have d:=Dg b;conv=>lhs;unfold kB sumOf
 rw[if_pos c,b];simp only;rw[if_neg oy];unfold kB;rw[acO 5 6 _ (k+1) oy oy oy]
theorem YM (l:Bs) (v:Nat):(num v l).2.length=l.length↔ov l=false:=by cases l with|nil=>simp[num,ov]|cons c l=>(unfold num ov;rcases a:digit c with _|_;{simp[a]};(have: ∀ (l:Bs) v,(num v l).2.length<=l.length:=by exact Sw);grind)
def agj (l:Bs): ∀v,l.drop (l.length- (num v l).2.length)=(num v l).2:=by induction l with|nil=>(intro v;rfl)|cons c l ih=>(intro v;unfold num;split;{(have a:(num (v*10+(c.toNat-48)) l).2.length<=l.length:=by (have: ∀ (l:Bs) v,(num v l).2.length<=l.length:=by exact Sw);exact this l _);rw[length_cons,show l.length+1- (num (v*10+(c.toNat-48)) l).2.length=(l.length- (num (v*10+(c.toNat-48)) l).2.length)+1 by omega,drop_succ_cons];exact ih _};simp)
theorem ady (j:Nat) (f:j<5) (l:Bs):iM l=some j↔(isPrefixOf (lets j) l/\ ¬(j=2/\isPrefixOf [109,115] l)):=by cases l with|nil=>grind[iM,lets]|cons c l=>(by_cases a:c=109;{subst a;cases l with|nil=>(obtain _|_|_|_|_|j:=j<;>simp[iM,lets,isPrefixOf])|cons d l=>(unfold iM lets;grind)};(have:iM (c::l)=if c=100 then some 0 else if c=104 then some 1 else if c=109 then some 2 else if c=115 then some 3 else none:=by simp_all[iM]);rw[this];have b: ¬(109:aU)=c:=λe=>a e.symm;obtain _|_|_|_|_|j:=j;(all_goals simp only[lets,isPrefixOf,Bool.and_true,beq_iff_eq,a,b,if_false]);{grind};{grind};{grind};{grind};{grind};omega)
end di.aT
namespace di
def gw {a:Bool} (c:a=b):Ending.returned (bool a)= .returned (bool b):=by rw[c]
def qD {k:IntKind} {a b:Int} (c:a=b):Ending.returned (.int k a)= .returned (.int k b):=by rw[c]
def vV (c:aU) (n:Nat) (a:n<256):(c<=UInt8.ofNat n)↔c.toNat<=(n:Int):=by exact pX
def vQ (c:aU) (n:Nat) (a:n<256):(UInt8.ofNat n<=c)↔n<=(c.toNat:Int):=by exact pX
theorem qz (c:aU):(aT.digit c)↔(48<=(c.toNat:Int)/\(c.toNat:Int)<=57):=by have a:=vQ c 48 dy;have b:=vV c 57 dy;simp_all[aT.digit,cm,dP]
namespace aT
abbrev bl (s:au):Bs:=s.data.toList
theorem gp (s:au):(bl s).length=s.size:=by simp[bl]
def drop_cons (s:au) (i:Nat) (a:i<s.size):(bl s).drop i=s[i]::(bl s).drop (i+1):=by rw[jE (by rw[gp];exact a)];rfl
theorem lC (s:au) (i:Nat) (a:s.size<=i):(bl s).drop i=[]:=drop_eq_nil_of_le (by rw[gp];exact a)
theorem wT (s:au) (a b:Nat):bl (s.extract a b)=((bl s).drop a).take (b-a):=by simp[bl]
def sw (s:au) (k:Nat):bl (s.extract k s.size)=(bl s).drop k:=by exact Ff
theorem sy (a:bl s=bl t):s=t:=by cases s;cases t;simp_all
def xe (a b:au):bl (a++b)=bl a++bl b:=by simp[bl]
def lO (l:Bs):bl ⟨l.toArray⟩=l:=by simp[bl]
def cap (v:Nat):Nat:=min v 9007199254740993
def sH (v:Nat):cap v<=9007199254740993:=Nat.min_le_right _ _
theorem agJ (l:Bs): ∀v,(num v l).2.length<=l.length:=by induction l with|nil=>(intro v;exact ny)|cons c l ih=>grind[num]
end aT
def mD (d:Int) (w:Wd):Calls prog 97 #[d] w λe w'=>e= .returned (aT.ar d)/\w=w':=by
 go_enter func97,ntmps97;go_wp2;all_goals go_ret
 all_goals exact⟨gw (by simp[aT.ar];try omega),rfl⟩
def aaC (s:au) (z:s.size<=4611686018427387904) (w:Wd):
 Calls prog 225 #[s] w λe w'=>e= .returned (tuple #[(aT.cap (aT.num 0 (aT.bl s)).1),(s.size- (aT.num 0 (aT.bl s)).2.length:Nat)])/\w=w':=by
 go_enter func225,ntmps225;go_wp2;go_loop[4,5] (λn j=> ∃ (k v:Nat),k<=s.size/\j=k/\n=(aT.cap v)/\aT.num 0 (aT.bl s)=aT.num v ((aT.bl s).drop k)) (λ_ j=>s.size- (intOf j).toNat);case atStart=>exact⟨0,0,dR _,rfl,rfl,rfl⟩
 case round=>obtain⟨k,v,D,rfl,rfl,b⟩:=hrel;have u:=aT.sH v;by_cases p:k<s.size;{have d:=aT.drop_cons s k p;obtain⟨c,x⟩:=xR (s[k]);rw[x]at d;rcases a:aT.digit c with _|_;{(have f:aT.num 0 (aT.bl s)=(v,(aT.bl s).drop k):=by rw[b,d];simp[aT.num,a]);(have B: ¬(48<=(c.toNat:Int)/\(c.toNat:Int)<=57):=λl=>by rw[(qz c).2 l]at a;cases a);have g:=hJ f;(have i:s.size- ((aT.bl s).drop k).length=k:=by rw[gJ,aT.gp];omega);have o:=hJ i;clear f i b d a;go_wp2;all_goals(go_ret2;exact⟨by rw[g.o,o.o];rfl,rfl⟩)};have q:=(qz c).1 a;(have y:=hJ (show aT.num 0 (aT.bl s)=aT.num (v*10+(c.toNat-48)) ((aT.bl s).drop (k+1))by rw[b,d];(conv=>lhs;unfold aT.num);rw[aK a]));obtain⟨C,A⟩:=q;obtain⟨m,h⟩:=xS (aT.cap v);have t:=hJ h;rw[<-h]at u⊢;clear b d a h;go_wp2;go_round;(case rel=>(have r:min ((m:Int)*10+((c.toNat:Int)-48)) 9007199254740993=((aT.cap (v*10+(c.toNat-48)):Nat):Int):=by have:=t.o;unfold aT.cap at this⊢;omega);exact⟨k+1,v*10+(c.toNat-48),oy,bh,by rw[r],y.o⟩);case measure=>exact cn};(have f:aT.num 0 (aT.bl s)=(v,[]):=by rw[b,aT.lC s k oy];rfl);have g:=hJ f;clear f b;go_wp2;go_ret2;exact⟨by rw[g.o];simp;omega,rfl⟩
namespace aT
theorem afS (S n z:Nat) (d:0<z):(if ()<cap S\/(9007199254740992-cap S)/z<cap n then 9007199254740993 else cap S+cap n*z)=cap (S+n*z):=by
 have key: ∀a:Nat,a<=()->((9007199254740992-a)/z<cap n↔()<a+n*z):=by intro a i;rw[Nat.div_lt_iff_lt_mul d];unfold cap;obtain b|b:=Nat.lt_or_ge n 9007199254740993;{grind};rw[Nat.min_eq_right b];have k:9007199254740993*z<=n*z:=Nat.mul_le_mul_right _ b;omega
 by_cases c:()<cap S;{grind[cap]};(have f:cap S=S:=by unfold cap at c⊢;omega);rw[f]at c⊢;have g:=key S oy;by_cases e:(9007199254740992-S)/z<cap n;{grind[cap]};rw[aG (λb=>b.elim c e)];have j: ¬()<S+n*z:=λb=>e (g.2 b);(have h:cap n=n:=by unfold cap;have:n*1<=n*z:=Nat.mul_le_mul_left _ d;omega);grind[cap]
end aT
def xN (S n z:Nat) (p:0<z) (B:z<=86400000) (w:Wd):
 Calls prog 227 #[(aT.cap S),(aT.cap n),z] w λe w'=>e= .returned (aT.cap (S+n*z))/\w=w':=by have j:=aT.afS S n z p;have t:=aT.sH S;rw[<-j];generalize aT.cap S=a at*;generalize aT.cap n=b at*;clear j;by_cases d:()<a;{have l:decide ((9007199254740992:Int)<a):=uy;rw[aK (.inl d)];clear d;exact Oa};have l:decide ((9007199254740992:Int)<a)=false:=uy;obtain⟨q,c⟩:=xS ((9007199254740992-a)/z);(have u:Int.tdiv ((9007199254740992:Int)- (a:Int)) (z:Int)=(q:Int):=by rw[c,show(9007199254740992:Int)- (a:Int)=((9007199254740992-a:Nat):Int)by omega];rfl);(have v:q<=():=by rw[c];exact cK (Nat.div_le_self _ _) oy);have y:IntKind.i64.wrap ((9007199254740992:Int)- (a:Int))=(9007199254740992:Int)- (a:Int):=fA _ oy;have f:=c.symm;by_cases g:q<b;{rw[f,aK (.inr g)];have r:decide (q<b):=uy;clear d g c f;exact Oa};rw[f,aG (λk=>k.elim d g)];have r:decide (q<b)=false:=uy;(have o:b*z<=():=by have s:b*z<=q*z:=Nat.mul_le_mul_right _ oy;(have x:q*z<=()-a:=by rw[c];exact Nat.div_mul_le_self _ _);omega);obtain⟨m,i⟩:=xS (b*z);rw[<-i]at o⊢;(have A:b*z=(m:Int):=by rw[i];exact(Int.natCast_mul b z).symm);clear d g c f i;go_enter func227,ntmps227;go_wp2;go_ret;exact⟨qD oy,rfl⟩
def rS:Array ai:= #[string ⟨#[100]⟩,(86400000:Int),string ⟨#[104]⟩,(3600000:Int),string ⟨#[109]⟩,(60000:Int),string ⟨#[115]⟩,(1000:Int),string ⟨#[109,115]⟩,"1"]
def dW (w:Wd):Prop:=(∃t fr,w.heap[1]?=some (.cells rS t fr))/\Lib.TabIs prog w "internal/strconv.uint64pow10" .u64 Lib.pow10Tab
def dW.below (e:dW w) (c:Below w w w'):dW w':=by obtain⟨⟨t,fr,d⟩,a⟩:=e;have f:=(Array.getElem?_eq_some_iff.1 d).1;refine⟨⟨t,fr,(c.block 1 f).trans d⟩,?_⟩;unfold Lib.TabIs World.var? at*;cases b:prog.globalNamed "internal/strconv.uint64pow10" with|none=>(rw[b]at a;cases a)|some g=>exact OV
def fw (j:Nat):au:=⟨(aT.lets j).toArray⟩
def KH (j:Nat) (a:j<5) (w:Wd):(Instr.index 329 (agg rS) (int .i64 (j:Int))).run prog w= .ok (agg #[string (fw j),int .i64 (aT.size j:Nat)]) w:=by obtain _|_|_|_|_|j:=j;{kernel_rfl};{kernel_rfl};{kernel_rfl};{kernel_rfl};{kernel_rfl};omega
def sr (s p:au) (b:Bool) (w:Wd) (a:isPrefixOf (aT.bl p) (aT.bl s)=b):
 Calls prog 226 #[s,p] w λe w'=>e= .returned b/\w=w':=by refine(strings_HasPrefix s p w).mono ?_;rintro e w' ⟨rfl,rfl⟩;refine⟨?_,rfl⟩;rw[<-a];rfl
namespace aT
def PI (s t:au) (S a:Nat) (first:Bool):Prop:=
 t.size<=s.size/\kB (bl s) 0=if first=false/\bl t=[]then some S else(kB (bl t) a).map (λv=>S+v)
theorem PI.start (s:au):PI s s 0 0 true:=by refine⟨ny,?_⟩;simp
theorem PI.done {a:Nat} (c:PI s t S a false) (b:bl t=[]):kB (bl s) 0=some S:=by rw[c.2,aK ⟨rfl,b⟩]
theorem PI.bad {a:Nat} (d:PI s t S a b) (f:b\/bl t≠ []) (e:kB (bl t) a=none):parse (bl s)=(0,1):=by have c:=d.2;rw[aG (λd=>by grind),e]at c;unfold parse;rw[show sumOf 6 (bl s) 0=none from c]
theorem PI.step {H3:au} {a k:Nat} (c:PI s t S a b) (l:b\/bl t≠ []) (h:ov (bl t)) (g:iM (num 0 (bl t)).2=some k) (j:a<=k)
 (f:bl H3=(num 0 (bl t)).2.drop (lets k).length) (i:H3.size<=s.size):PI s H3 (S+(num 0 (bl t)).1*size k) (k+1) false:=by have d:=c.2;rw[aG (λc=>by grind),aci h g j,<-f]at d;refine⟨i,?_⟩;rw[d];by_cases e:bl H3=[];{grind};rw[aG e,aG (λc=>e c.2)];cases kB (bl H3) (k+1)with|none=>rfl|some v=>simp[Nat.add_assoc]
def Yr (a:kB l 0=some S):parse l=if S<=() then((S:Int),0)else(0,2):=by unfold parse;rw[show sumOf 6 l 0=some S from a];rfl
end aT
def Cb (s:au) (e5:s.size<=4611686018427387904) (w:Wd) (hG:dW w):
 Calls prog 197 #[s] w λe w'=>e= .returned (tuple #[(aT.parse (aT.bl s)).1,(aT.parse (aT.bl s)).2])/\Below w w w':=by
 have d9:=hJ hG;clear hG;go_enter func197,ntmps197;go_wp2;go_step3;go_wp2;go_step3;go_wp2;go_loopg[0,4,5,6] 6 (λg V Z a3 c7 wr=> ∃ (t:au) (S a:Nat) (b:Bool),g+a=6/\a<=5/\V=string t/\Z=int .i64 (aT.cap S:Nat)/\a3=int .i64 a/\c7=bool b/\aT.PI s t S a b/\Below w w wr);case atStart=>exact⟨s,0,0,true,oy,oy,rfl,rfl,rfl,rfl,aT.PI.start s,aN⟩
 case round=>obtain⟨t,S,a,b,e1,f1,rfl,rfl,rfl,rfl,a0,A⟩:=hrel;have F:=hJ a0;have e2:=a0.1;have d0:=aT.sH S;clear a0;obtain⟨⟨c6,fr,b'⟩,_⟩:=d9.o.below A;have d1:=hJ b';clear b';by_cases N:b=false/\aT.bl t=[];{obtain⟨rfl,H⟩:=N;(have a1:(t.toList==[]):=by rw[Lib.toList_data];rw[show t.data.toList=[]from H];rfl);have b8:=hJ (aT.Yr (F.o.done H));obtain⟨m,y⟩:=xS (aT.cap S);have c9:=hJ y;rw[<-y]at d0⊢;have d6:t=⟨#[]⟩:=aT.sy H;subst d6;clear H y a1;(go_wp2_with fail);refine mE (mD _ _) ?_;rcases d8:aT.ar (m:Int)with _|_;{go_wp2;rw[Exit.noGoto_ret];go_ret2;(have M: ¬S<=():=by exact Ol);rw[b8.o,aG M];exact⟨rfl,A⟩};go_wp2;rw[Exit.noGoto_ret];go_ret2;(have M:S<=()/\m=S:=by exact Ol);rw[b8.o,aK M.1,M.2];exact⟨rfl,A⟩};(have b0:b\/aT.bl t≠ []:=by obtain _|_:=b;{exact .inr λc=>N ⟨rfl,c⟩};exact .inl rfl);have a2:=hJ b0;(have a7:b\/(b=false/\t.toList.isEmpty=false):=by obtain _|_:=b;{refine .inr ⟨rfl,?_⟩;rw[Lib.toList_data];rcases c3:t.data.toList with _|⟨x,l⟩;{exact absurd ⟨rfl,c3⟩ N};rfl};exact .inl rfl);clear N b0;obtain⟨E,a6⟩:=xS (aT.num 0 (aT.bl t)).1;obtain⟨R,I⟩:=xS (aT.num 0 (aT.bl t)).2;have W:=aaC t oy wr;rw[<-a6,<-I]at W;obtain⟨b4,d4,a9⟩:=aM W a6 I;obtain⟨q,G⟩:=xS (t.size-R.length);have C:=aT.YM (aT.bl t) 0;have L:=aT.agj (aT.bl t) 0;have a4:=aT.agJ (aT.bl t) 0;rw[<-I,aT.gp]at C L a4;rw[<-G]at L;obtain⟨b7,d2⟩:=aq G.symm ((aT.sw t q).trans L);have e4:q<=t.size:=oy;clear W a6 I L;rcases n:aT.ov (aT.bl t)with _|_;{have c5:q=0:=aR (C.2 n);have U:=hJ (F.o.bad a2.o (aT.ZB n));clear G C a4 n;obtain rfl|⟨rfl,a1⟩:=a7;all_goals((go_wp2_with fail);refine mE b4.o ?_;rw[b7.o,c5];go_wp2;rw[Exit.noGoto_ret];go_ret2;rw[U.o];exact⟨rfl,A⟩)};(have e3:((q:Int)==0)=false:=by (have:R.length≠t.size:=λc=>by rw[C.1 c]at n;cases n);simp;omega);(have c0:=hJ (show ∀k D,aT.iM R=some k->a<=k->aT.bl D=R.drop (aT.lets k).length->D.size<=s.size->aT.PI s D (S+E*aT.size k) (k+1) false by intro k D b9 c8 a8 c4;rw[d4.o];rw[a9.o]at b9 a8;exact F.o.step a2.o n b9 c8 a8 c4));(have d':=hJ (show(∀i,i<5->aT.iM R=some i->i<a)->aT.parse (aT.bl s)=(0,1)by intro c;rw[a9.o]at c;exact F.o.bad a2.o (aT.aaU n (λk b2=>c k (aT.Dg b2) b2))));clear G C a4 n;obtain rfl|⟨rfl,a1⟩:=a7;all_goals((go_wp2_with fail);refine mE b4.o ?_;rw[b7.o];(go_wp2_with(refine wpList_load_row rfl 329 _ rfl 1 rfl c6 rS fr _ d1.o underlying329 rfl ry ?_));obtain⟨X,J⟩:=xS (t.extract q t.size);have f:=hJ (show aT.bl X=R by rw[J];exact d2.o);(have e9:X.size<=t.size:=by rw[J];simp);rw[<-J];clear J;obtain⟨e7,hG⟩:=xS gk;have d7:=hJ hG;rw[<-hG]at e1;clear hG;go_loopg[0,4,5,28] 5 (λc1 V Z a3 d5 c2=> ∃j:Nat,j+c1=5/\d5=int .i64 j/\V=string t/\Z=int .i64 (aT.cap S:Nat)/\a3=int .i64 a/\(∀i,i<j->aT.iM R=some i->i<a)/\Below w w c2);(case atStart=>exact⟨0,oy,rfl,rfl,rfl,rfl,λi Q=>absurd Q oy,A⟩);case round=>obtain⟨j,e8,rfl,rfl,rfl,rfl,b3,a'⟩:=hrel;have O:=hJ b3;have e':=a'.size;clear b3;by_cases b6:j<5;{(have e0:decide (j<5):=by simp;omega);have e6:=KH j b6;by_cases f0:j<a;{(have d3:decide (j<a):=by simp;omega);(have K:=hJ (show ∀i,i<j+1->aT.iM R=some i->i<a by intro i Q o;obtain c|c:=Nat.lt_or_ge i j;{exact O.o i c o};omega));exact Sj};(have d3:decide (j<a)=false:=by simp;omega);have p:=aT.ady j b6 R;rcases d:isPrefixOf (aT.lets j) R with _|_;{have B:=hJ d;(have K:=hJ (show ∀i,i<j+1->aT.iM R=some i->i<a by intro i Q o;obtain c|c:=Nat.lt_or_ge i j;{exact O.o i c o};obtain rfl:i=j:=oy;have:=(p.1 o).1;rw[d]at this;cases this));clear p d;(go_wp2_with(go_at_call 226;refine(sr X (fw j) false _ (by rw[f.o,fw,aT.lO];exact B.o)).mono ?_;rintro e a5 ⟨rfl,rfl⟩));go_roundg (gk-1);(case rel=>exact⟨j+1,oy,bh,rfl,rfl,rfl,K.o,ly⟩);case measure=>omega};have B:=hJ d;(have f2:(fw j).size<=X.size:=by rw[<-aT.gp X,f.o];obtain⟨r,c'⟩:=isPrefixOf_iff_prefix.1 d;rw[<-c',bu];(have:(fw j).size=(aT.lets j).length:=by unfold fw;simp[ByteArray.size]);omega);(have z: ¬(j=2/\isPrefixOf [109,115] R)->aT.PI s (X.extract (fw j).size X.size) (S+E*aT.size j) (j+1) false:=λc=>by refine c0.o j _ (p.2 ⟨d,c⟩) oy ?_ uy;rw[aT.sw,f.o];(have:(fw j).size=(aT.lets j).length:=by unfold fw;simp[ByteArray.size]);rw[this]);(have T:(j=2/\isPrefixOf [109,115] R)-> ∀i,i<j+1->aT.iM R=some i->i<a:=λc i Q o=>by obtain b5|b5:=Nat.lt_or_ge i j;{exact O.o i b5 o};obtain rfl:i=j:=oy;exact absurd c (p.1 o).2);by_cases v:j=2;{(have y:((fw j).toList==[109]):=by rw[v,Lib.toList_data];rfl);rcases u:isPrefixOf [109,115] R with _|_;{obtain⟨Y,b1⟩:=aq u (z (λc=>by rw[c.2]at u;cases u));clear p d u z T v;(go_wp2_with(go_at_call 226;refine(sr X (fw j) true _ (by rw[f.o,fw,aT.lO];exact B.o)).mono ?_;rintro e a5 ⟨rfl,rfl⟩));(go_wp2_with fail);refine mE (sr X ⟨#[109,115]⟩ false _ (by rw[f.o];exact Y.o)) ?_;exact PD};obtain⟨Y,K⟩:=aq u (T ⟨v,u⟩);clear p d u z T v;(go_wp2_with(go_at_call 226;refine(sr X (fw j) true _ (by rw[f.o,fw,aT.lO];exact B.o)).mono ?_;rintro e a5 ⟨rfl,rfl⟩));(go_wp2_with fail);refine mE (sr X ⟨#[109,115]⟩ true _ (by rw[f.o];exact Y.o)) ?_;exact Sj};(have y:((fw j).toList==[109])=false:=by rw[Lib.toList_data];obtain _|_|_|_|_|j:=j;{rfl};{rfl};{omega};{rfl};{rfl};omega);have b1:=hJ (z (λc=>v c.1));clear p d z T v;(go_wp2_with(go_at_call 226;refine(sr X (fw j) true _ (by rw[f.o,fw,aT.lO];exact B.o)).mono ?_;rintro e a5 ⟨rfl,rfl⟩));exact PD};obtain rfl:j=5:=oy;have e0:decide ((5:Nat)<5)=false:=dy;have U:=hJ (d'.o O.o);go_wp2;rw[Exit.noGoto_ret];go_ret2;rw[U.o];exact⟨rfl,a'⟩)
def Hs (k os):az w (Go.Sort.grow (w.drewN k) os):=
 ⟨rfl,rfl,rfl,by simp[Go.Sort.grow],λi a=>by
  exact Py⟩
def uz (q:Nat) (a:q<=9223372036854775807) (w) (hG:dW w):
 Calls prog 231 #[q] w (bO w (string ⟨(Lib.decDigits q).toArray⟩)):=by refine(strconv_Itoa (q:Int) oy oy w hG.2).mono ?_;exact OL
namespace aT
theorem XW (j D) (a:j<5):parts (5-j) D=(if 0<D/size j then Lib.decDigits (D/size j)++lets j else[])++parts (5- (j+1)) (D%size j):=by obtain⟨m,b⟩: ∃m,5-j=m+1:=⟨4-j,oy⟩;grind[parts]
theorem pu (n) (a:n<=9223372036854775807):(Lib.decDigits n).length<=21:=by grind[Lib.itoa_nonneg,Lib.itoa_length_le]
theorem Lh (j):(lets j).length<=2:=by unfold lets;split<;>decide
theorem JC (m): ∀d,d<=9223372036854775807->(parts m d).length<=m*23:=by induction m with|zero=>(intro d _;exact dR _)|succ m ih=>(intro d a;unfold parts;have b:=ih (d%size (4-m)) (cK (Nat.mod_le _ _) a);have c:=pu (d/size (4-m)) (cK (Nat.div_le_self _ _) a);grind[bu,fQ,Lh])
end aT
def Ci (d w) (hG:dW w):
 Calls prog 201 #[int .i64 d] w (bO w (string ⟨(aT.print d).toArray⟩)):=by have C:=hJ hG;cases l:aT.ar d;{have s:=hJ (aT.BJ d l).1;go_enter func201,ntmps201;exact OC};by_cases B:d=0;{subst B;go_enter func201,ntmps201;(go_wp2_with fail);refine mE (mD _ _) ?_;rw[l];go_wp2;go_ret;exact⟨rfl,aN⟩};(have b0:0<=d/\d<=():=by simpa[aT.ar]using l);obtain⟨e,rfl⟩: ∃e:Nat,d=(e:Int):=⟨d.toNat,oy⟩;(have s:=hJ (show aT.print (e:Int)=aT.parts 5 e by unfold aT.print;rw[aK l,aG B];rfl));have x:((e:Int)==0)=false:=uy;have M:e<=():=oy;have G:=hJ l;have b3:=aT.JC 5 e oy;go_enter func201,ntmps201;(go_wp2_with fail);refine mE (mD _ _) ?_;rw[G.o];let⟨⟨L,fr,Z⟩,_⟩:=C.o;(go_wp2_with(refine wpList_load_row rfl 329 _ rfl 1 rfl L rS fr _ Z underlying329 rfl ry ?_));go_loopw[0,3,13] (λN X R wr=> ∃ (j c:Nat) (b:au),j<=5/\R=j/\N=c/\X=b/\c<=()/\aT.parts 5 e=aT.bl b++aT.parts (5-j) c/\az w wr) (λ_ _ i _=>5- (intOf i).toNat);(case atStart=>exact⟨0,e,⟨#[]⟩,oy,rfl,rfl,rfl,M,rfl,aN⟩);case round=>obtain⟨j,c,b,a5,rfl,rfl,rfl,a3,f,t⟩:=hrel;have Q:=t.size;(have b1:b.size<=115:=by have:=congrArg length f;rw[bu,aT.gp]at this;omega);by_cases D:j<5;{have H:=KH j D;have Y:=aT.size_pos j;rw[aT.XW j c D]at f;let⟨q,p⟩:=xS (c/aT.size j);let⟨r,o⟩:=xS (c%aT.size j);(have W:Int.tdiv (c:Int) (aT.size j:Int)=(q:Int):=by rw[p];rfl);(have S:Int.tmod (c:Int) (aT.size j:Int)=(r:Int):=by rw[o];rfl);(have a7:q<=c:=by rw[p];exact Nat.div_le_self _ _);(have a9:r<=c:=by rw[o];exact Nat.mod_le _ _);(have O: ¬aT.size j=0:=by omega);rw[<-p,<-o]at f;let⟨z,x⟩:=xS (aT.size j);rw[<-x]at H W S O;clear p o Y x;(have a':(fw j).size<=2:=by unfold fw;have:=aT.Lh j;simpa[ByteArray.size]using this);by_cases E:0<q;{rw[aK E]at f;obtain⟨m,n⟩: ∃m:au,m=⟨(Lib.decDigits q).toArray⟩:=⟨_,rfl⟩;(have b2:m.size<=21:=by rw[n];have:=aT.pu q oy;simpa[ByteArray.size]using this);have U:=hJ n.symm;(have y:=hJ (show aT.parts 5 e=aT.bl (b++(m++fw j))++aT.parts (5- (j+1)) r by rw[f,aT.xe,aT.xe,n,aT.lO,fw,aT.lO];simp only[ed]));(have a1: ¬ ""<m.size+(fw j).size:=by omega);(have a2: ¬ ""<b.size+(m.size+(fw j).size):=by omega);clear f n;(have F:(wr.alloc (.cells #[(fw j),z] 328)).cell? (an wr 0)=(fw j:ai):=by rw[Lib.cell_of_heap (heap_alloc_new wr _)];rfl);(have A:(wr.alloc (.cells #[(fw j),z] 328)).cell? (an wr 1)=(z:ai):=by rw[Lib.cell_of_heap (heap_alloc_new wr _)];rfl);have u:az w (wr.alloc (.cells #[(fw j),z] 328)):=t.alloc Q _;have a0:wr<(wr.alloc (.cells #[(fw j),z] 328)).heap.size:=iy;go_wp2;generalize World.alloc _ _=a4 at F A u a0⊢;have I:=C.below u;refine cO λhH=>?_;refine wpAnyH_take (i:=0) (v:=?_) gy ry ry ry rm (Or.inl ⟨bq,?_⟩) hH ?_;rotate_left;{intro wq hSw;exact bM};(try simp only[Act.put,gS]);refine wpAnyH_take (i:=1) (v:=?_) gy ry ry ry rm (Or.inl ⟨bq,?_⟩) hH ?_;rotate_left;{intro wq hSw;exact bM};(try simp only[Act.put,gS]);refine wpAnyH_take (i:=3) (v:=?_) gy ry ry ry rm (Or.inl ⟨bq,?_⟩) hH ?_;rotate_left;{intro wq hSw;exact bM};(try simp only[Act.put,gS]);refine wpAnyH_take (i:=4) (v:=?_) gy ry ry ry rm (Or.inl ⟨bq,?_⟩) hH ?_;rotate_left;{intro wq hSw;have a6:=bC hSw F;exact bM};(try simp only[Act.put,gS]);refine wpAnyH_ready (rs:=[2]) ry iy ?_;refine AllReadyH.cons gy (λK a=>?_) ?_;{go_simp;refine mB (uz q oy _ (I.below hH)) λb4 g=>?_;rw[U.o];refine yP λhH=>?_;(try simp only[Act.put,gS]);refine wpAnyH_take (i:=5) (v:=?_) gy ry ry ry rm (Or.inl ⟨bq,?_⟩) hH ?_;rotate_left;{intro wq hSw;exact bM};(try simp only[Act.put,gS]);refine wpAnyH_take (i:=6) (v:=?_) gy ry ry ry rm (Or.inl ⟨bq,?_⟩) hH ?_;rotate_left;{intro wq hSw;exact bM};(try simp only[Act.put,gS]);refine wpAnyH_take (i:=7) (v:=?_) gy ry ry ry rm (Or.inl ⟨bq,?_⟩) hH ?_;rotate_left;{intro wq hSw;exact bM};(try simp only[Act.put,gS]);refine wpAnyH_done ry ?_ _;have a8:=bC hH A;have J:=bU u hH;go_wp2;go_roundw;(case rel=>exact⟨j+1,r,b++(m++fw j),oy,bh,rfl,rfl,oy,y,J⟩);case measure=>exact cn};exact AllReadyH.nil};rw[aG E,jb]at f;have y:=hJ f;go_wp2;go_roundw;(case rel=>exact⟨j+1,r,b,oy,bh,rfl,rfl,oy,y,ly⟩);case measure=>exact cn};obtain rfl:j=5:=oy;(have V:=hJ (show aT.bl b=aT.print (e:Int)by rw[s.o,f];simp[aT.parts]));go_wp2;go_ret;refine⟨?_,t⟩;rw[<-V.o];rw[show(⟨(aT.bl b).toArray⟩:au)=b from aT.sy (aT.lO _)];rfl
end di
namespace bF
def iX (op:Int):Bool:=decide (1<=op)&&decide (op<=6)
def holds (op v t:Int):Bool:=
 if op=1 then decide (t<v)else if op=2 then decide (t<=v)else if op=3 then decide (v<t)else if op=4 then decide (v<=t)else if op=5 then(v==t)else if op=6 then(v !=t)else false
end bF
def Jn (op v t:Int) (w:Wd):Calls prog 211 #[op,v,t] w λe w'=>e= .returned (bF.holds op v t)/\w=w':=by unfold bF.holds;go_enter func211,ntmps211;exact Ou
def VL (op:Int) (w:Wd):Calls prog 190 #[op] w λe w'=>e= .returned (bF.iX op)/\w=w':=by unfold bF.iX;go_enter func190,ntmps190;exact Ou
namespace bF
abbrev Ex:=au×List aj.Mt×Int×Int
abbrev qk:=Ex×Nat×Int
def none_:Ex:=(⟨#[]⟩,[],0,0)
def mR:au:=⟨#[40]⟩
def rB:au:=⟨#[41]⟩
def Nv:Nat->Bs
 |1=>[62]
 |2=>[62,61]
 |3=>[60]
 |4=>[60,61]
 |5=>[61,61]
 |6=>[33,61]
 |_=>[]
def gB (k:Nat):au:=⟨(Nv k).toArray⟩
def ar (nm:au) (a:List aj.Mt) (op v:Int):Bool:=eR nm a&&iX op&&aP.ar v
def vJ (v:Int):au:=⟨(aP.print v).toArray⟩
def text (nm:au) (a:List aj.Mt) (k:Nat) (v:Int):au:=aj.print nm a++⟨#[32]⟩++gB k++⟨#[32]⟩++vJ v
def print (nm:au) (a:List aj.Mt) (op v:Int):au:=if ar nm a op v=true then text nm a op.toNat v else⟨#[]⟩
def opAt (ts:List Tk) (i:Nat):Nat:=
 if cY ts i (gB 1)=true then 1 else if cY ts i (gB 2)=true then 2 else if cY ts i (gB 3)=true then 3
 else if cY ts i (gB 4)=true then 4 else if cY ts i (gB 5)=true then 5 else if cY ts i (gB 6)=true then 6 else 0
def rest (ts:List Tk) (nm:au) (a:List aj.Mt) (j:Nat):qk:=
 if opAt ts j=0 then(none_,j,fg ts j)
 else if cX ts (j+1) 2=false then(none_,j+1,fg ts (j+1))
 else if(aP.parse (aP.bl (dz ts (j+1)))).2≠0 then(none_,j+1,(aP.parse (aP.bl (dz ts (j+1)))).2)
 else((nm,a,(opAt ts j:Int),(aP.parse (aP.bl (dz ts (j+1)))).1),j+2,0)
def plain (ts:List Tk) (i:Nat):qk:=
 match aj.parse ts (i:Int)with
 |(nm,a,j,e)=>if e≠0 then(none_,j,e)else rest ts nm a j
def close (ts:List Tk) (r:qk):qk:=
 if r.2.2≠0 then(none_,r.2.1,r.2.2)else if cY ts r.2.1 rB=true then(r.1,r.2.1+1,0)else(none_,r.2.1,fg ts r.2.1)
def within (ts:List Tk):Nat->Nat->qk
 |0,i=>if cY ts i mR=true then(none_,i,8)else plain ts i
 |f+1,i=>if cY ts i mR=true then close ts (within ts f (i+1))else plain ts i
def finish (ts:List Tk):Nat->qk->qk
 |0,r=>r
 |d+1,r=>finish ts d (close ts r)
def parse (ts:List Tk) (i:Int):qk:=if i<0 then(none_,0,3)else within ts 32 i.toNat
theorem JK {ts:List Tk} (b:aj.parse ts (i:Int)=(nm,G1,j,e)) (a:e≠0):plain ts i=(none_,j,e):=by grind[plain]
theorem IF {ts:List Tk} (a:aj.parse ts (i:Int)=(nm,G1,j,0)):plain ts i=rest ts nm G1 j:=by grind[plain]
def JV {ts:List Tk} {x:Ex} (a:e≠0):close ts (x,j,e)=(none_,j,e):=by unfold close;exact aK a
theorem KM {ts:List Tk} {x:Ex} (a:cY ts j rB):close ts (x,j,0)=(x,j+1,0):=by grind[close]
theorem Ll {ts:List Tk} {x:Ex} (a:cY ts j rB=false):close ts (x,j,0)=(none_,j,fg ts j):=by grind[close]
def rL {ts:List Tk} (d) (a:e≠0):finish ts d (none_,j,e)=(none_,j,e):=by induction d with|zero=>rfl|succ d ih=>(unfold finish;rw[JV a,ih])
def Hh {ts:List Tk} {f:Nat} (a:cY ts i mR):within ts (f+1) i=close ts (within ts f (i+1)):=by
 conv=>lhs;unfold within
 exact aK a
def GY {ts:List Tk} (a:cY ts i mR):within ts 0 i=(none_,i,8):=by unfold within;exact aK a
theorem AO {ts:List Tk} {f:Nat} (a:cY ts i mR=false):within ts f i=plain ts i:=by unfold within;grind
theorem aaH {a b:Nat} (f:1<=a) (c:a<=6) (h:1<=b) (d:b<=6) (e:gB a=gB b):a=b:=by have: ∀x:Fin 6,∀y:Fin 6,gB (x.val+1)=gB (y.val+1)->x=y:=dy;have g:=this ⟨a-1,oy⟩ ⟨b-1,oy⟩ (by grind);grind
theorem afp {ts:List Tk} (a:cY ts i s) (g:cY ts i t):s=t:=by rcases b:ts[i]? with _|x;{rw[xx b]at a;cases a};rw[xq b]at a g;grind
theorem De (ts i):opAt ts i<=6:=by grind[opAt]
theorem xY (ts i) (a:opAt ts i≠0):cY ts i (gB (opAt ts i)):=by grind[opAt]
theorem Nb {ts:List Tk} {k:Nat} (c:1<=k) (e:k<=6):cY ts i (gB k)=decide (opAt ts i=k):=by cases b:cY ts i (gB k);{grind[decide_eq_false_iff_not,xY]};symm;rw[dP];(have a:opAt ts i≠0:=by intro a;unfold opAt at a;have d:k=1\/k=2\/k=3\/k=4\/k=5\/k=6:=oy;obtain rfl|rfl|rfl|rfl|rfl|rfl:=d<;>simp[b]at a<;>(repeat' split at a)<;>omega);exact aaH oy (De ts i) c e (afp (xY ts i a) b)
theorem XX {ts:List Tk} {k:Nat} {x:Ex} (i:eR nm G1) (g:j<=ts.length) (a:rest ts nm G1 j=(x,k,e)):
 (e=0->ar x.1 x.2.1 x.2.2.1 x.2.2.2/\k=j+2/\k<=ts.length)/\(e≠0->x=none_/\j<=k/\k<=ts.length/\(e=3↔k=ts.length)):=by unfold rest at a;split at a;{injection a with c a;injection a with b d;subst c b d;exact⟨λa=>absurd a (ni _ _),λ_=>⟨rfl,ny,g,tV g⟩⟩};rename_i h;have o:=kW (xY ts j h);split at a;{injection a with c a;injection a with b d;subst c b d;exact⟨λa=>absurd a (ni _ _),λ_=>⟨rfl,oy,oy,tV oy⟩⟩};rename_i m;have n:=jm (show cX ts (j+1) 2=true by simpa using m);split at a;{rename_i f;injection a with c a;injection a with b d;subst c b d;refine⟨λa=>absurd a f,λ_=>⟨rfl,oy,oy,?_⟩⟩;unfold aP.parse aP.done;grind};rename_i f;injection a with c a;injection a with b d;subst c b d;refine⟨λ_=>⟨?_,rfl,oy⟩,λa=>absurd rfl a⟩;have l:aP.parse (aP.bl (dz ts (j+1)))=((aP.parse (aP.bl (dz ts (j+1)))).1,0):=Prod.ext rfl (by simpa using f);unfold ar iX;rw[i,(aip l).2.2.1];have:=De ts j;simp;omega
theorem Hf {ts:List Tk} {k:Nat} {x:Ex} (a:plain ts i=(x,k,e)):
 (e=0->ar x.1 x.2.1 x.2.2.1 x.2.2.2/\i+2<k/\k<=ts.length)/\(e≠0->x=none_/\min i ts.length<=k/\k<=ts.length/\(e=3↔k=ts.length)):=by rcases b:aj.parse ts (i:Int)with⟨nm,n,j,h⟩;have c:=b;unfold aj.parse at c;rw[aG oy,show((i:Int)).toNat=i from rfl]at c;have f:=GW (Nat.min_le_right _ _) c;by_cases d:h=0;{subst d;let⟨l,p,o,g⟩:=f.1 rfl;rw[IF b]at a;have m:=XX l g a;grind};rw[JK b d]at a;grind
theorem Vd {ts:List Tk} (f): ∀ {i k:Nat} {x:Ex} {e:Int},within ts f i=(x,k,e)->
 (e=0->ar x.1 x.2.1 x.2.2.1 x.2.2.2/\i+2<k/\k<=ts.length)/\(e≠0->x=none_/\min i ts.length<=k/\k<=ts.length/\(e=3↔k=ts.length)):=by induction f with|zero=>(intro i k x e a;cases b:cY ts i mR;{rw[AO b]at a;exact Hf a};rw[GY b]at a;injection a with d a;injection a with c g;subst d c g;grind[kW])|succ f ih=>(intro i k x e a;cases b:cY ts i mR;{rw[AO b]at a;exact Hf a};rw[Hh b]at a;have q:=kW b;rcases o:within ts f (i+1)with⟨y,j,p⟩;have m:=ih o;rw[o]at a;by_cases h:p=0;{subst h;let⟨s,r,n⟩:=m.1 rfl;cases l:cY ts j rB;{rw[Ll l]at a;injection a with d a;injection a with c g;subst d c g;exact⟨λa=>absurd a (ni _ _),λ_=>⟨rfl,oy,n,tV n⟩⟩};rw[KM l]at a;have:=kW l;grind};rw[JV h]at a;have:=m.2 h;injection a with d a;injection a with c g;subst d c g;simp_all;omega)
end bF
namespace aP
theorem afl (n:Nat) (a:n<=()):(pos n).length<=25:=by grind[length_append,AR,length_nil,length_cons,pos,pu,Lw]
theorem xm (d:Int):(print d).length<=26:=by grind[length_cons,print,eo,afl]
end aP
namespace bF
theorem Bm {op v:Int} (a:ar nm G1 op v):eR nm G1/\1<=op/\op<=6/\aP.ar v:=by simp_all[decide_eq_true_eq,ar,iX]
def JW (v:Int):(vJ v).size<=26:=by unfold vJ;rw[show(⟨(aP.print v).toArray⟩:au).size=(aP.print v).length by simp[ByteArray.size]];exact xm v
def Hv (k:Nat):(gB k).size<=2:=by unfold gB Nv;split<;>decide
def Gg (a:eR nm G1):(aj.print nm G1).size<=1700:=by unfold aj.print;rw[if_pos a];have b:=GN a G1.length;have d:=(xF a).2.2.1;have c:=(xF a).2.1;split;{omega};rw[ByteArray.size_append,show aj.eY.size=1 from rfl];omega
def Yl (nm:au) (b:List aj.Mt) (op v:Int):(print nm b op v).size<=1800:=by unfold print;split;{rename_i a;have c:=Gg (Bm a).1;have e:=JW v;have d:=Hv op.toNat;unfold text;simp only[ByteArray.size_append,show(⟨#[32]⟩:au).size=1 from rfl];omega};decide
end bF
def wL (op b) (a:bF.iX op=b) (w):Calls prog 190 #[int .i64 op] w λe w'=>e= .returned (bool b)/\w=w':=by subst a;exact VL op w
def Uu (d b) (a:aP.ar d=b) (w):Calls prog 101 #[int .i64 d] w λe w'=>e= .returned (bool b)/\w=w':=by subst a;exact mD d w
def Uq (nm A n c ms b) (a:eR nm ms=b) (w) (d:cQ w w A n c ms):
 Calls prog 189 #[agg #[string nm,slice A n c]] w (bO w (bool b)):=by subst a;exact Bb nm A n c ms w d
def GM (s) (b:s.size<=4611686018427387904) (w d e) (c:aP.parse (aP.bl s)=(d,e)):
 Calls prog 281 #[string s] w λa w'=>a= .returned (tuple #[int .i64 d,int .i64 e])/\az w w':=by have:=Cb s b w;rw[c]at this;exact this
def qK (A n c i ts s bo) (d:cY ts i s=bo) (w) (f:bP w w A n c ts):
 Calls prog 278 #[slice A n c,int .i64 (i:Nat),string s] w λe w'=>e= .returned (bool bo)/\w=w':=by have m:=f.len;by_cases p:i<n;{obtain⟨b,z,t,rfl,y,j,-,q,-,r⟩:=f.at_ p;rw[xq j]at d;let⟨k,a,u⟩:=t;simp only at d q r;cases o:(k==4);{rw[o]at d;have g:=d;clear d m j f;subst g;exact zd};rw[o]at d;(obtain rfl:k=4:=by simpa using o);clear o;by_cases l:u=s;{(have g:bo:=by rw[<-d,bG l];rfl);clear d m j f;subst g l;exact zd};(have g:bo=false:=by rw[<-d,bj l];rfl);have x:=ym l;clear d m j f;subst g;exact zd};have v:decide (i<n)=false:=bj oy;rw[xx (getElem?_eq_none oy)]at d;clear m f p;subst d;exact zd
def wS (A n c i ts) (d:ts.length=n) (e0) (b:fg ts i=e0) (w):
 Calls prog 280 #[slice A n c,int .i64 (i:Nat)] w λe w'=>e= .returned (int .i64 e0)/\w=w':=by subst b;unfold fg;rw[d];by_cases a:n<=i;{rw[aK a];exact Ss};rw[aG a];exact Ss
def JN (nm A n c ms op v b) (t:bF.ar nm ms op v=b) (w) (k:cQ w w A n c ms):
 Calls prog 143 #[agg #[string nm,slice A n c,int .i64 op,int .i64 v]] w (bO w (bool b)):=by
 subst t;have u:=hJ k;clear k;unfold bF.ar;let⟨o,g⟩:=xR (eR nm ms);let⟨h,f⟩:=xR (bF.iX op);let⟨y,a⟩:=xR (aP.ar v);rw[g,f,a];let⟨x,q,z⟩:=aM g f a;clear g f a;go_enter func143,ntmps143;go_wp2_with fail
 refine yA λr j m B s=>?_;have l:=j.o.cell 2;have i:=j.o.cell 3;refine mB (Uq nm A n c ms o x.o r ((u.o.below m).more s)) λp d=>?_;have l:=bC d l;have i:=bC d i;have e:=bU m d;cases o;{go_wp2;go_ret;exact⟨rfl,e⟩};(go_wp2_with fail);refine mE (wL op h q.o p) ?_;cases h;{go_wp2;go_ret;exact⟨rfl,e⟩};(go_wp2_with fail);refine mE (Uu v y z.o p) ?_;go_wp2;go_ret;exact⟨rfl,e⟩
def uj:Array ai:= #["s",string ⟨#[62]⟩,string ⟨#[62,61]⟩,string ⟨#[60]⟩,string ⟨#[60,61]⟩,string ⟨#[61,61]⟩,string ⟨#[33,61]⟩]
def kx (w:Wd):Prop:= ∃t fr,w.heap[2]?=some (.cells uj t fr)
def kx.below (d:kx w) (c:Below w w w'):kx w':=by obtain⟨t,fr,a⟩:=d;have b:=(Array.getElem?_eq_some_iff.1 a).1;exact⟨t,fr,(c.block 2 b).trans a⟩
def aey (j:Nat) (a:j<7) (w:Wd):(Instr.index 337 (agg uj) j).run prog w= .ok (gB j) w:=by obtain _|_|_|_|_|_|_|j:=j;{kernel_rfl};{kernel_rfl};{kernel_rfl};{kernel_rfl};{kernel_rfl};{kernel_rfl};{kernel_rfl};omega
abbrev rj:Array ai:= #["s",(),"",""]
theorem afk {g c:Nat} {F0 s:ah ak} {k:Nat} {G3:List aa.Mt} {d:ch} {a:au} {x y:Int} (f:cQ W B F0 n c G3) (q:af W g d #[a,slice s k i,x,y])
 (u: ∀b m,b≠g->W'.cell? (b m)=W.cell? (b m)):cQ W' B F0 n c G3:=by
 refine⟨⟨f.1.1,f.1.2.1,f.1.2.2.1,λh=>?_⟩,f.2⟩;obtain⟨b,t,e,r,l⟩:=f.1.2.2.2 h;have v:b≠g:=by rintro rfl;have j:G3[0]?=some (G3[0]'(by rw[f.1.1];exact h)):=getElem?_eq_getElem _;have p:=l 0 _ j 0 _ rfl;have o:=l 0 _ j 1 _ rfl;rw[q.cell]at p o;grind
 grind
def bF.seen (a k:Nat):Nat:=if a<k then a else 0
def WB {ts:List Tk} {p:Nat} (a:aj.parse ts (p:Int)=(nm,G1,j,0)):j<=ts.length:=by unfold aj.parse at a;rw[if_neg oy,show((p:Int)).toNat=p from rfl]at a;exact((GW (Nat.min_le_right _ _) a).1 rfl).2.2.2
def aaX (O:ah ak) (n c:Nat) (x:Int) (ts:List Tk) (nm:au) (c6:List aj.Mt) (op v:Int) (j:Nat) (c4:Int) (r:bF.parse ts x=((nm,c6,op,v),j,c4)) (m0: ∀t∈ts,t.2.2.size<=4611686018427387904) (w:Wd) (hG:kx w) (f2:bP w w O n c ts):
 Calls prog 257 #[slice O n c,x] w λe w'=> ∃A' n' c',e= .returned (tuple #[agg #[nm,slice A' n' c',op,v],j,c4])/\cQ w' w' A' n' c' c6/\(∀p:ak,A'=some p->w<=p.block)/\Below w w w':=by have j6:=f2.len;have o9:=f2.cap;obtain⟨g4,W⟩:=aq f2 j6;clear f2 j6;unfold bF.parse at r;by_cases b5:x<0;{rw[if_pos b5]at r;injection r with a r;injection r with D C;injection a with F a;injection a with B a;injection a with G A;subst F B G A D C;have l':decide (x<0):=decide_eq_true b5;clear b5;go_enter func257,ntmps257;go_wp2;refine bodyPost_ret (v:=tuple #[agg #["s",(),"",""],"","3"]) (by simp[results,results257,go_sem]) rfl ⟨none,0,0,rfl,qA _,(λp e=>by cases e),(by repeat(first|assumption|exact Below.refl _ _|apply Mem.below_drewN|apply Below.drew|refine Below.alloc ?_ (by first|assumption|omega|(simp;done)|(simp;omega)) _|refine Below.setCell ?_ (by first|assumption|omega|(simp;done)|(simp;omega)) _))⟩};rw[if_neg b5]at r;obtain⟨X,m4⟩: ∃X:Nat,x=X:=⟨x.toNat,oy⟩;subst m4;rw[show(X:Int).toNat=X from rfl]at r;have l':decide ((X:Int)<0)=false:=decide_eq_false b5;have n3:=hJ r;clear b5 r;obtain⟨l3,fr,i1⟩:=hG;have m3:=(Array.getElem?_eq_some_iff.1 i1).1;have l8:=hJ i1;clear i1;go_enter func257,ntmps257;go_wp2;have U:=(Below.refl w w).alloc ny (.cells rj 90);have g2:=(af.new w 90 rj);have e6:w<(w.alloc (.cells rj 90)).heap.size:=iy;have i9:w<=(w.alloc (.cells rj 90)).heap.size:=iy;obtain⟨f9,i7⟩: ∃f9,f9=w.alloc (.cells rj 90):=⟨_,rfl⟩;rw[<-i7]at U g2 e6 i9⊢;clear i7;have c5:=hJ g2;clear g2;have d2:=hJ ((g4.below U).more i9);go_loopw[1,7] (λg0 g8 wr=> ∃m p:Nat,p=X+m/\m<=32/\g0=p/\g8=m/\f9=wr/\bF.finish ts m (bF.within ts (32-m) p)=((nm,c6,op,v),j,c4)) (λ_ g8 _=>33- (intOf g8).toNat);(case atStart=>exact⟨0,X,rfl,oy,rfl,rfl,rfl,n3⟩);case round=>obtain⟨m,p,j7,o3,rfl,rfl,rfl,f⟩:=hrel;have n1:=hJ j7;clear j7;rcases I:cY ts p mR with _|_;{rw[AO I]at f;have e5:=hJ I;clear I;rcases d0:aj.parse ts (p:Int)with⟨o,c0,z,h8⟩;have f7:=hJ d0;(go_wp2_with fail);refine(qK O n c p ts mR false e5 _ d2).mono ?_;rintro e w' ⟨rfl,rfl⟩;by_cases i0:h8=0;{subst i0;rw[IF d0]at f;have a':=hJ f;clear d0 f;(go_wp2_with fail);refine(LF O n c p ts o c0 z 0 f7 _ d2).mono ?_;rintro e u ⟨i,l,c2,rfl,i',c7,a2⟩;have i4:=hJ (show ∀p:ak,i=some p->w<=p.block from λp e=>Nat.le_trans U.size (c7 p e));clear c7;(have p0:z<=n:=by have:=WB f7;rw[W.o]at this;exact this);have d5:=U.trans (a2.mono U.size);have g1:af ((u.alloc (.cells #[o,slice i l c2] 88)).alloc (.cells #[o,slice i l c2,"",""] 90)) w 90 rj:=((c5.below a2 e6).alloc _).alloc _;(have f3:af ((u.alloc (.cells #[o,slice i l c2] 88)).alloc (.cells #[o,slice i l c2,"",""] 90)) (u+1) 90 #[o,slice i l c2,"",""]:=by simpa using af.new (u.alloc (.cells #[o,slice i l c2] 88)) 90 #[o,slice i l c2,"",""]);have e8:Below w w ((u.alloc (.cells #[o,slice i l c2] 88)).alloc (.cells #[o,slice i l c2,"",""] 90)):=(d5.alloc d5.size _).alloc (by have:=d5.size;simp;omega) _;have g5:cQ ((u.alloc (.cells #[o,slice i l c2] 88)).alloc (.cells #[o,slice i l c2,"",""] 90)) u i l c2 c0:=i'.below (((Below.refl _ u).alloc ny _).alloc iy _);have i6:((u.alloc (.cells #[o,slice i l c2] 88)).alloc (.cells #[o,slice i l c2,"",""] 90)).heap.size=u+2:=iy;have f8:=(e8.block 2 m3).trans l8;obtain⟨m6,l4⟩:=bE (af.new u 88 #[o,slice i l c2]).a;have n8:=d5.size;have f6:w<u.heap.size:=Nat.lt_of_lt_of_le e6 a2.size;(go_wp2_with(refine wpList_load_row rfl 337 _ rfl 2 rfl l3 uj fr _ f8 underlying337 rfl ry ?_));clear m6 l4;generalize(u.alloc (.cells #[o,slice i l c2] 88)).alloc (.cells #[o,slice i l c2,"",""] 90)=j9 at g1 f3 e8 g5 i6 f8⊢;obtain⟨g,g6⟩: ∃g,u.heap.size+1=g:=⟨_,rfl⟩;rw[g6]at f3⊢;have o6:=hJ g6;have e1:u<g:=oy;have m':g<j9:=oy;clear g6 i6 f8;obtain⟨ok,f'⟩: ∃ok,bF.opAt ts z=ok:=⟨_,rfl⟩;(have p5:ok<=6:=by rw[<-f'];exact De _ _);obtain⟨d3,j',m7,k7⟩:=bJ f' g5 g1 e8;clear f' g5 g1 e8 d5;go_loopw[42] (λh9 wr=> ∃k:Nat,k<=7/\h9=k/\af wr g 90 #[o,slice i l c2,(bF.seen ok k),""]/\Below g j9 wr) (λh9 _=>7- (intOf h9).toNat);(case atStart=>exact⟨0,oy,rfl,by unfold bF.seen;rw[if_neg oy];exact f3,aN⟩);case round=>obtain⟨k,R,rfl,k4,b0⟩:=hrel;have Y:=hJ k4;have b3:Below w w wr:=k7.trans (b0.mono oy);have d9:=hJ (show bP wr wr O n c ts from g4.later b3);clear k4;by_cases j0:k<7;{have m5:decide (k<7):=decide_eq_true j0;have n6:=aey k j0;obtain⟨E,S⟩: ∃q,q=k+1:=⟨_,rfl⟩;refine Ey λe'=>?_;have a6:=hJ S;clear S;by_cases c3:k=0;{obtain⟨f4,d6⟩:=aq (show bF.iX (k:Int)=false by rw[c3];rfl) (show bF.seen ok k=bF.seen ok E by rw[a6.o,c3];unfold bF.seen;split<;>(try split)<;>omega);clear c3;(go_wp2_with fail);refine(wL (k:Int) false f4 _).mono ?_;exact Od};have f4:=hJ (show bF.iX (k:Int)=true by unfold bF.iX;rw[decide_eq_true (oy:(1:Int)<=k),decide_eq_true (oy:(k:Int)<=6)];rfl);by_cases d4:ok=k;{obtain⟨h5,d6⟩:=aq (show cY ts z (gB k)=true by rw[Nb oy oy,d3.o];exact decide_eq_true d4) (show bF.seen ok E=k by rw[a6.o,d4];unfold bF.seen;rw[if_pos oy]);clear c3 d4;(go_wp2_with fail);refine(wL (k:Int) true f4 _).mono ?_;rintro e w' ⟨rfl,rfl⟩;(go_wp2_with fail);refine(qK O n c z ts (gB k) true h5 _ d9).mono ?_;rintro e w' ⟨rfl,rfl⟩;have a8:=Y.frozen 2;have k2:=dp Y;go_wp2;go_roundw;(case rel=>exact⟨E,aR a6.o,rfl,by rw[d6.o];simpa using Y.o.ay 2 k,b0.setCell ny _⟩);case measure=>have:=a6.o;simp[intOf];omega};obtain⟨h5,d6⟩:=aq (show cY ts z (gB k)=false by rw[Nb oy oy,d3.o];exact decide_eq_false d4) (show bF.seen ok k=bF.seen ok E by rw[a6.o];unfold bF.seen;split<;>split<;>omega);clear c3 d4;(go_wp2_with fail);refine(wL (k:Int) true f4 _).mono ?_;rintro e w' ⟨rfl,rfl⟩;(go_wp2_with fail);refine(qK O n c z ts (gB k) false h5 _ d9).mono ?_;exact Od};obtain rfl:k=7:=oy;have m5:decide (7<7)=false:=dy;rw[show bF.seen ok 7=ok by unfold bF.seen;split<;>omega]at Y;have a7:=hJ (m7.below b0 (Nat.lt_trans f6 e1));have h':g<wr:=Nat.lt_of_lt_of_le m' b0.size;obtain⟨o7,f0⟩:=aq ((j'.below (b0.mono oy)).more (oy:u<=wr.heap.size)) b3;have k2:=dp Y;clear b3;by_cases f1:ok=0;{have f:=a'.o;unfold bF.rest at f;rw[d3.o,if_pos f1,rL m (ni _ _)]at f;injection f with a r;injection r with D C;injection a with F a;injection a with B a;injection a with G A;subst F B G A D C;subst f1;(go_wp2_with fail);refine(wS O n c z ts W _ rfl _).mono ?_;rintro e w' ⟨rfl,rfl⟩;obtain⟨b',b8,a8,b6⟩:=cJ a7.f;obtain⟨b4,b9,b2,b7⟩:=cJ a7.a;go_wp2;have b3:=f0.o;have J:=(((a7.ay 0 "s").ay 1 ()).ay 2 "").ay 3 "";obtain⟨M,K,L,N⟩:=cJ J.a;refine bodyPost_ret (v:=tuple #[agg #["s",(),"",""],((z:Nat)),(fg ts z)]) (by simp[results,results257,go_sem,M,K,L,N]) rfl ⟨none,0,0,rfl,qA _,(λp e=>by cases e),(by repeat(first|assumption|exact Below.refl _ _|apply Mem.below_drewN|apply Below.drew|refine Below.alloc ?_ (by first|assumption|omega|(simp;done)|(simp;omega)) _|refine Below.setCell ?_ (by first|assumption|omega|(simp;done)|(simp;omega)) _))⟩};(have n5:z<n:=by have:=kW (xY ts z (by rw[d3.o];exact f1));rw[W.o]at this;exact this);(have o1:((ok:Int)==0)=false:=by rw[beq_eq_false_iff_ne];omega);obtain⟨H,e0⟩: ∃q,q=z+1:=⟨_,rfl⟩;obtain⟨Z,e4⟩: ∃q,q=z+2:=⟨_,rfl⟩;(have k9:IntKind.i64.wrap ((z:Int)+1)=((H:Nat):Int):=by rw[e0,show(z:Int)+1=((z+1:Nat):Int)by omega];exact IntWalk.i64_in _ oy);have o5:H<=n:=oy;have f:=a'.o;unfold bF.rest at f;rw[d3.o,if_neg f1,<-e0,<-e4]at f;obtain⟨h3,j8⟩:=aq e0 e4;clear e0 e4 a';rcases R:cX ts H 2 with _|_;{rw[R,if_pos rfl,rL m (ni _ _)]at f;injection f with a r;injection r with D C;injection a with F a;injection a with B a;injection a with G A;subst F B G A D C;by_cases d8:H<n;{obtain⟨b,l7,t,rfl,k6,a4,-,d',-,e3⟩:=d9.at_ d8;rw[kO a4]at R;have k1:decide (n<=H)=false:=decide_eq_false oy;obtain⟨tk,i5⟩: ∃q,t.1=q:=⟨_,rfl⟩;rw[i5]at R d';(have n9: ¬tk=2:=by simpa using R);clear a4 i5 e3 R;(go_wp2_with fail);refine(wS _ n c H ts W _ rfl _).mono ?_;exact SU};have k1:decide (n<=H):=decide_eq_true oy;clear R;(go_wp2_with fail);refine(wS O n c H ts W _ rfl _).mono ?_;exact SU};have d8:=jm R;rw[W.o]at d8;rw[R,if_neg dy]at f;obtain⟨b,l7,t,rfl,k6,a4,-,d',-,e3⟩:=d9.at_ d8;rw[kO a4]at R;have k1:decide (n<=H)=false:=decide_eq_false oy;(have S:t.1=2:=by simpa using R);rw[S]at d';rw[ji a4]at f;have h4:=m0 t (mem_of_getElem? a4);obtain⟨tx,j1⟩: ∃q,t.2.2=q:=⟨_,rfl⟩;rw[j1]at f e3 h4;rcases h7:aP.parse (aP.bl tx)with⟨Q,g'⟩;rw[h7]at f;simp only at f;have i3:=hJ h7;clear a4 j1 S R h7;have k5:=Y.frozen 3;by_cases g9:g'=0;{subst g9;rw[if_neg (λm9=>m9 rfl)]at f;have a':=hJ f;clear f;(go_wp2_with fail);refine(GM tx h4 _ Q 0 i3).mono ?_;rintro e c8 ⟨rfl,a1⟩;have h0:cQ (c8 ⟨g,3,none⟩ Q) g i l c2 c0:=(((j'.below (b0.mono oy)).more (oy:u<=g)).below (a1.mono (Nat.le_of_lt h'))).below ((Below.refl g c8).setCell ny _);refine Pb λa9 c1 V a0 a5 e7 f5=>?_;(have k':g<(c8 ⟨g,3,none⟩ Q).heap.size:=by have:=a1.size;simp;omega);(have l6:IntKind.i64.wrap ((H:Int)+1)=((Z:Nat):Int):=by rw[j8.o,show(H:Int)+1=((z+2:Nat):Int)by have:=h3.o;omega];exact IntWalk.i64_in _ (aR h3.o));(go_wp2_with fail);simp only[Array.setIfInBounds,setIfInBounds_toArray,set_cons_succ,set_cons_zero]at a0;generalize c8 ⟨g,3,none⟩ Q=i8 at V a0 a5 h0 k'⊢;obtain⟨l1,a3,n0,j4,j5⟩:=de a0 V h0 a5 (g4.later a5);(have m2:Z<=n:=by have:=h3.o;have:=j8.o;omega);clear e7 f5 a9 c1 a1 a0 V h0 a5 k2 k5 d' e3 f3;go_loopw[1,102] (λg0 h2 wq=> ∃d q:Nat,d<=m/\q=Z+d/\q<=n/\g0=q/\h2=d/\i8=wq/\bF.finish ts (m-d) ((o,c0,(ok:Int),Q),q,0)=((nm,c6,op,v),j,c4)) (λ_ h2 _=>m- (intOf h2).toNat);(case atStart=>exact⟨0,Z,oy,rfl,m2,rfl,rfl,rfl,a'⟩);case round=>obtain⟨d,q,o',j3,o4,rfl,rfl,rfl,f⟩:=hrel;have l5:=hJ j3;clear j3;by_cases m1:d<m;{have k8:decide (d<m):=decide_eq_true m1;obtain⟨g3,e2⟩: ∃y,y=d+1:=⟨_,rfl⟩;obtain⟨k3,c9⟩: ∃y,y=q+1:=⟨_,rfl⟩;rw[show m-d=(m-g3)+1 by omega]at f;unfold bF.finish at f;rcases b1:cY ts q rB with _|_;{rw[Ll b1,rL _ (ni _ _)]at f;injection f with a r;injection r with D C;injection a with F a;injection a with B a;injection a with G A;subst F B G A D C;have h1:=hJ b1;clear b1 e2 c9;(go_wp2_with fail);refine(qK _ n c q ts rB false h1 _ j5).mono ?_;rintro e w' ⟨rfl,rfl⟩;(go_wp2_with fail);refine(wS _ n c q ts W _ rfl _).mono ?_;rintro e w' ⟨rfl,rfl⟩;obtain⟨b',b8,a8,b6⟩:=cJ a3.f;obtain⟨b4,b9,b2,b7⟩:=cJ a3.a;go_wp2;have b3:=j4.o;have J:=(((a3.ay 0 "s").ay 1 ()).ay 2 "").ay 3 "";obtain⟨M,K,L,N⟩:=cJ J.a;refine bodyPost_ret (v:=tuple #[agg #["s",(),"",""],((q:Nat)),(fg ts q)]) (by simp[results,results257,go_sem,M,K,L,N]) rfl ⟨none,0,0,rfl,qA _,(λp e=>by cases e),(by repeat(first|assumption|exact Below.refl _ _|apply Mem.below_drewN|apply Below.drew|refine Below.alloc ?_ (by first|assumption|omega|(simp;done)|(simp;omega)) _|refine Below.setCell ?_ (by first|assumption|omega|(simp;done)|(simp;omega)) _))⟩};rw[KM b1,<-c9]at f;have l2:=kW b1;rw[W.o]at l2;(have p3:IntKind.i64.wrap ((q:Int)+1)=((k3:Nat):Int):=by rw[c9,show(q:Int)+1=((q+1:Nat):Int)by omega];exact IntWalk.i64_in _ oy);(have n7:IntKind.i64.wrap ((d:Int)+1)=((g3:Nat):Int):=by rw[e2,show(d:Int)+1=((d+1:Nat):Int)by omega];exact IntWalk.i64_in _ oy);obtain⟨h1,h6,j2,n2⟩:=bJ b1 e2 c9 f;clear b1 e2 c9 f;(go_wp2_with fail);refine(qK _ n c q ts rB true h1 _ j5).mono ?_;rintro e w' ⟨rfl,rfl⟩;go_wp2;go_roundw;(case rel=>exact⟨g3,k3,aR h6.o,by have:=h6.o;have:=j2.o;have:=l5.o;omega,aR j2.o,rfl,rfl,by first|rfl|trivial,n2⟩);case measure=>have:=h6.o;simp[intOf];omega};obtain rfl:d=m:=oy;have k8:decide (d<d)=false:=decide_eq_false oy;rw[Nat.sub_self]at f;unfold bF.finish at f;injection f with a r;injection r with D C;injection a with F a;injection a with B a;injection a with G A;subst F B G A D C;obtain⟨n4,p1,o8,o2⟩:=cJ l1.a;obtain⟨b',b8,a8,b6⟩:=cJ a3.f;obtain⟨b4,b9,b2,b7⟩:=cJ a3.a;go_wp2;have J:=(((a3.ay 0 o).ay 1 (slice i l c2)).ay 2 ok).ay 3 Q;obtain⟨M,K,L,N⟩:=cJ J.a;have m8:=afk (W':=i8 ⟨w,0,none⟩ o ⟨w,1,none⟩ (slice i l c2) ⟨w,2,none⟩ ok ⟨w,3,none⟩ Q) n0 a3 (λb m I=>by rw[World.cell?_setCell_other _ _ _ _ (by intro e;cases e;exact I rfl),World.cell?_setCell_other _ _ _ _ (by intro e;cases e;exact I rfl),World.cell?_setCell_other _ _ _ _ (by intro e;cases e;exact I rfl),World.cell?_setCell_other _ _ _ _ (by intro e;cases e;exact I rfl)]);have p4:=j4.o;refine bodyPost_ret (v:=tuple #[agg #[o,slice i l c2,ok,Q],q,""]) (by simp[results,results257,go_sem,M,K,L,N]) rfl ⟨i,l,c2,rfl,m8.more (by simp;omega),i4,(by repeat(first|assumption|exact Below.refl _ _|apply Mem.below_drewN|apply Below.drew|refine Below.alloc ?_ (by first|assumption|omega|(simp;done)|(simp;omega)) _|refine Below.setCell ?_ (by first|assumption|omega|(simp;done)|(simp;omega)) _))⟩};rw[if_pos g9,rL m g9]at f;injection f with a r;injection r with D C;injection a with F a;injection a with B a;injection a with G A;subst F B G A D C;(go_wp2_with fail);refine(GM tx h4 _ Q g' i3).mono ?_;rintro e c8 ⟨rfl,a1⟩;refine Pb λa9 c1 V a0 a5 e7 f5=>?_;obtain⟨b',b8,a8,b6⟩:=cJ V.f;obtain⟨b4,b9,b2,b7⟩:=cJ V.a;go_wp2;have J:=(((V.ay 0 "s").ay 1 ()).ay 2 "").ay 3 "";obtain⟨M,K,L,N⟩:=cJ J.a;refine bodyPost_ret (v:=tuple #[agg #["s",(),"",""],((H:Nat)),g']) (by simp[results,results257,go_sem,M,K,L,N]) rfl ⟨none,0,0,rfl,qA _,(λp e=>by cases e),(by repeat(first|assumption|exact Below.refl _ _|apply Mem.below_drewN|apply Below.drew|refine Below.alloc ?_ (by first|assumption|omega|(simp;done)|(simp;omega)) _|refine Below.setCell ?_ (by first|assumption|omega|(simp;done)|(simp;omega)) _))⟩};rw[JK d0 i0,rL m i0]at f;injection f with a r;injection r with D C;injection a with F a;injection a with B a;injection a with G A;subst F B G A D C;clear d0;(go_wp2_with fail);refine(LF O n c p ts o c0 z h8 f7 _ d2).mono ?_;rintro e u ⟨i,l,c2,rfl,i',c7,a2⟩;have i4:=hJ (show ∀p:ak,i=some p->w<=p.block from λp e=>Nat.le_trans U.size (c7 p e));clear c7;have i2:af (u.alloc (.cells #[o,slice i l c2] 88)) w 90 rj:=(c5.below a2 e6).alloc _;have o0:Below w w (u.alloc (.cells #[o,slice i l c2] 88)):=(U.trans (a2.mono U.size)).alloc ((U.trans (a2.mono U.size)).size) _;obtain⟨b',b8,a8,b6⟩:=cJ i2.f;obtain⟨b4,b9,b2,b7⟩:=cJ i2.a;go_wp2;have J:=(((i2.ay 0 "s").ay 1 ()).ay 2 "").ay 3 "";obtain⟨M,K,L,N⟩:=cJ J.a;refine bodyPost_ret (v:=tuple #[agg #["s",(),"",""],((z:Nat)),h8]) (by simp[results,results257,go_sem,M,K,L,N]) rfl ⟨none,0,0,rfl,qA _,(λp e=>by cases e),(by repeat(first|assumption|exact Below.refl _ _|apply Mem.below_drewN|apply Below.drew|refine Below.alloc ?_ (by first|assumption|omega|(simp;done)|(simp;omega)) _|refine Below.setCell ?_ (by first|assumption|omega|(simp;done)|(simp;omega)) _))⟩};have k0:=kW I;rw[W.o]at k0;have e5:=hJ I;by_cases l9:m=32;{subst l9;rw[GY I,rL 32 dy]at f;injection f with a r;injection r with D C;injection a with F a;injection a with B a;injection a with G A;subst F B G A D C;clear I;(go_wp2_with fail);refine(qK O n c p ts mR true e5 _ d2).mono ?_;rintro e w' ⟨rfl,rfl⟩;obtain⟨b',b8,a8,b6⟩:=cJ c5.f;obtain⟨b4,b9,b2,b7⟩:=cJ c5.a;go_wp2;have J:=(((c5.ay 0 "s").ay 1 ()).ay 2 "").ay 3 "";obtain⟨M,K,L,N⟩:=cJ J.a;refine bodyPost_ret (v:=tuple #[agg #["s",(),"",""],((p:Nat)),(8:Int)]) (by simp[results,results257,go_sem,M,K,L,N]) rfl ⟨none,0,0,rfl,qA _,(λp e=>by cases e),(by repeat(first|assumption|exact Below.refl _ _|apply Mem.below_drewN|apply Below.drew|refine Below.alloc ?_ (by first|assumption|omega|(simp;done)|(simp;omega)) _|refine Below.setCell ?_ (by first|assumption|omega|(simp;done)|(simp;omega)) _))⟩};have e4:(p:Nat)+1<=n:=k0;obtain⟨Z,d7⟩: ∃q,q=p+1:=⟨_,rfl⟩;obtain⟨d1,e9⟩: ∃q,q=m+1:=⟨_,rfl⟩;(have k9:IntKind.i64.wrap ((p:Int)+1)=((Z:Nat):Int):=by rw[d7,show(p:Int)+1=((p+1:Nat):Int)by omega];exact IntWalk.i64_in _ oy);(have l6:IntKind.i64.wrap ((m:Int)+1)=((d1:Nat):Int):=by rw[e9,show(m:Int)+1=((m+1:Nat):Int)by omega];exact IntWalk.i64_in _ oy);(have p2:((m:Int)==32)=false:=by rw[beq_eq_false_iff_ne];omega);rw[show 32-m=(32-d1)+1 by omega,Hh I,<-d7]at f;obtain⟨a',l0,g7⟩:=aM (show bF.finish ts d1 (bF.within ts (32-d1) Z)=((nm,c6,op,v),j,c4)by rw[e9]at f⊢;exact f) d7 e9;clear I f d7 e9;(go_wp2_with fail);refine(qK O n c p ts mR true e5 _ d2).mono ?_;rintro e w' ⟨rfl,rfl⟩;go_wp2;go_roundw;(case rel=>exact⟨d1,Z,by have:=l0.o;have:=g7.o;have:=n1.o;omega,aR g7.o,rfl,rfl,by first|rfl|trivial,a'⟩);case measure=>have:=g7.o;simp[intOf];omega
def vi (w:Wd):Prop:=kx w/\dW w
def vi.below (b:vi w) (a:az w w'):vi w':=⟨b.1.below a,b.2.below a⟩
def aez (nm A n c ms t) (a:aj.print nm ms=t) (w) (b:cQ w w A n c ms):
 Calls prog 229 #[agg #[string nm,slice A n c]] w (bO w (string t)):=by subst a;exact Ci nm A n c ms w b
def Wi (d w) (hG:dW w) (t) (a:vJ d=t):
 Calls prog 230 #[int .i64 d] w (bO w (string t)):=by subst a;exact Uw d w hG
def abm (nm A n c ms op v t) (J:bF.print nm ms op v=t) (w) (hG:vi w) (a0:cQ w w A n c ms):
 Calls prog 200 #[agg #[string nm,slice A n c,int .i64 op,int .i64 v]] w (bO w (string t)):=by let⟨F,Z⟩:=aq a0 hG;cases b:bF.ar nm ms op v;{have u:=hJ b;(have y:t=⟨#[]⟩:=by rw[<-J];unfold bF.print;rw[b];rfl);subst y;go_enter func200,ntmps200;(go_wp2_with fail);refine yA λz M i Q B=>?_;refine mB (JN nm A n c ms op v false u z ((F.below i).more B)) λO p=>?_;have m:=bU i p;go_wp2;go_ret;exact⟨rfl,m⟩};let⟨a5,a7,b2,c1⟩:=Bm b;obtain⟨k,a6⟩: ∃k:Nat,op=k:=⟨op.toNat,oy⟩;subst a6;let⟨sp,E⟩:=xR (aj.print nm ms);let⟨q,C⟩:=xR (vJ v);let⟨a,H⟩:=xR (gB k);(have y:t=sp++⟨#[32]⟩++a++⟨#[32]⟩++q:=by rw[<-J];unfold bF.print bF.text;rw[aK b,show((k:Int)).toNat=k from rfl,E,H,C]);(have b0:sp.size<=1700:=by rw[<-E];exact Gg a5);(have b1:q.size<=26:=by rw[<-C];exact JW v);(have b3:a.size<=2:=by rw[<-H];exact Hv k);have a4:k<7:=oy;(have a3:uj[k]?=(a:ai):=by rw[<-H];(have: ∀x:Fin 7,uj[x.val]?=(gB x.val:ai):=by intro⟨x,b'⟩;obtain _|_|_|_|_|_|_|x:=x;{rfl};{rfl};{rfl};{rfl};{rfl};{rfl};{rfl};omega);exact this ⟨k,a4⟩);(have b7: ¬ ""<sp.size+1:=by omega);(have a8: ¬ ""<sp.size+1+a.size:=by omega);(have c0: ¬ ""<sp.size+1+a.size+1:=by omega);(have b5: ¬ ""<sp.size+1+a.size+1+q.size:=by omega);let⟨u,Y,S,a1,W⟩:=de b E C y a3;have a9:(0:Int)<=k:=oy;have b8:(k:Int)<7:=oy;go_enter func200,ntmps200;(go_wp2_with fail);refine yA λz M i Q B=>?_;refine mB (JN nm A n c ms (k:Int) v true u z ((F.below i).more B)) λO p=>?_;have m:=bU i p;have N:=hJ m;have f:=M.below p Q;have b6:=f.lt;let⟨G,I,D,r⟩:=bJ (f.cell 0) (f.cell 1) (f.cell 2) (f.cell 3);have L:=Z.below m;let⟨b4,fr,R⟩:=L.1;have b9:=(gm.1 R).1;(have U:O.cell? (an 2 k)=(a:ai):=by rw[Lib.cell_of_heap R,W.o]);let⟨X,V⟩:=aq U L;(go_wp2_with fail);refine sP λhH=>?_;refine tk 1 ?_ (hy:=by intro wq hSw;have l:=bC hSw G;have e:=bC hSw I;have d:=bC hSw D;have g:=bC hSw r;simp at l e d g;exact bM);refine tk 4 ?_;refine tk 5 ?_ (hy:=by intro wq hSw;have l:=bC hSw G;have e:=bC hSw I;have d:=bC hSw D;have g:=bC hSw r;simp at l e d g;exact bM);refine tg [6,7,10] (λ_ s=>bC s X) ?_;refine tk 11 ?_ (hy:=by intro wq hSw;have l:=bC hSw G;have e:=bC hSw I;have d:=bC hSw D;have g:=bC hSw r;simp at l e d g;exact bM);refine aV 2 λK o=>?_;go_simp;refine mB (aez nm A n c ms sp Y _ ((F.later N).later hH)) λc2 j=>?_;refine qT λhH=>?_;refine ts [3,8,9] ?_;refine aV 12 λK o=>?_;go_simp;refine mB (Wi v _ (V.below hH).2 q S) λa' a2=>?_;show K _ _;refine be o (bU hH a2) λhH=>?_;refine te [13,14] ?_;go_wp2;go_ret;exact⟨by rw[a1.o];simp only[ByteArray.append_assoc];rfl,bU N hH⟩
namespace cG
def cj:Nat:=9007199254740992
def ez (b a:Nat) (n:Int):Nat:=if n<(a:Int)then 0 else(min n.toNat cj-a)/b+1
def tm (b a j:Nat):Nat:=a+j*b
structure Good (I O:Nat):Prop where
 pos:0<I
 lt:O<I
 le:I<=cj
theorem Nf {k:Nat} (a:Good i k) (j:Nat) (n:Int):j<ez i k n↔((tm i k j:Nat):Int)<=n/\tm i k j<=cj:=by have b:=a.pos;have e:=a.lt;have d:=a.le;unfold ez tm;by_cases c:n<(k:Int);{grind};rw[if_neg c,Nat.lt_succ_iff,Nat.le_div_iff_mul_le b];generalize j*i=m;omega
def Lf {k:Nat} (a:Good i k) {n:Int} (b:0<ez i k n):((tm i k (ez i k n-1):Nat):Int)<=n/\tm i k (ez i k n-1)<=cj:=(Nf a _ n).1 oy
def aay {k:Nat} (a:Good k i) (n:Int):ez k i n<=cj+1:=by obtain b|b:=Nat.eq_zero_or_pos (ez k i n);{omega};have:=(Lf a b).2;unfold tm at this;have c:ez k i n-1<=(ez k i n-1)*k:=Nat.le_mul_of_pos_right _ a.pos;omega
def due (b a:Nat) (last now:Int):ah (Nat×Nat):=
 if ez b a now<=ez b a last then none else some (tm b a (ez b a now-1),ez b a now-1-ez b a last)
theorem Dm {k:Nat} (b:n<=cj) (a:k<=n):ez i k (n:Int)=(n-k)/i+1:=by grind[ez]
theorem aeX {k:Nat} (n:Int) (a:k<cj):ez i k n=ez i k (min n (cj:Int)):=by grind[ez]
theorem agp {k:Nat} (n:Int) (a:k<cj) (b:(9007199254740992:Int)<n):ez i k n=ez i k (9007199254740992:Int):=by rw[aeX n a];grind[cj]
end cG
def Ys (g:Gr):dl [g]=eS g:=by unfold dl;rw[show([g]:List Gr).length=1 from rfl];unfold cI cI;rw[qI (k:=0) rfl];simp[aa.named,cI]
theorem adF {g:Gr} {b:Nat} (d:dK W W g) (f:Below W W W') (a:af W' b 85 #[g.nm,g.iv,g.off,slice g.RA g.Rn g.Rc]):
 cR W' W' (some (b 0)) 1 1 [g]:=by refine⟨⟨rfl,ny,dy,λ_=>⟨b,0,rfl,a.lt,λj x c i k h=>?_⟩⟩,λx e=>?_⟩;{obtain _|j:=j;{(obtain rfl:g=x:=by simpa using c);rw[a.cell];grind[jK]};simp at c};(obtain rfl:x=g:=by simpa using e);exact d.later f
def tX (g:Gr) (b:Bool) (d:eS g=b) (w:Wd) (f:dK w w g):
 Calls prog 119 #[agg #[string g.nm,int .i64 g.iv,int .i64 g.off,slice g.RA g.Rn g.Rc]] w λe w'=>e= .returned (bool b)/\Below w.heap.size w w':=by
 obtain⟨i,j⟩:=aq f (show dl [g]=b by rw[Ys,d]);clear f d;go_enter func119,ntmps119;go_wp2_with fail
 have c:=(Below.refl w.heap.size w).alloc ny (.cells #[string g.nm,int .i64 g.iv,int .i64 g.off,slice g.RA g.Rn g.Rc] 85);have a:=c.alloc c.size (.cells #[g.nm,g.iv,g.off,slice g.RA g.Rn g.Rc] 85);have h:=af.new (w.alloc (.cells #[g.nm,g.iv,g.off,slice g.RA g.Rn g.Rc] 85)) 85 #[g.nm,g.iv,g.off,slice g.RA g.Rn g.Rc];rw[World.size_alloc]at h;refine mB (BZ _ 1 1 [g] _ j.o _ (adF i.o a h)) λl k=>?_;go_wp2;go_ret;exact⟨rfl,a.trans (k.mono a.size)⟩
def uH {g:Gr} (a:eS g): ∃c b:Nat,g.iv=(c:Int)/\g.off=(b:Int)/\cG.Good c b:=by unfold eS lI iL at a;simp only[Bool.and_eq_true,decide_eq_true_eq]at a;obtain⟨⟨⟨⟨⟨⟨j,d,k⟩,i⟩,e⟩,h⟩,l⟩,f⟩:=a;exact⟨g.iv.toNat,g.off.toNat,oy,oy,oy,oy,by unfold cG.cj;omega⟩
namespace cG
def TF:ah (Nat×Nat)->Int
 |none=>0
 |some p=>(p.1:Nat)
def TO:ah (Nat×Nat)->Int
 |none=>0
 |some p=>(p.2:Nat)
def jT (g:Gr) (last now:Int):ah (Nat×Nat):=if eS g=true then due g.iv.toNat g.off.toNat last now else none
end cG
def Ee (w:Wd) (d:ah (Nat×Nat)) (e:Ending) (w':Wd):Prop:=e= .returned (tuple #[(TF d),(TO d),d.isSome])/\Below w w w'
def acD (g:Gr) (b:eS g=false) (last now:Int) (w:Wd) (a:dK w w g):
 Calls prog 69 #[agg #[g.nm,g.iv,g.off,slice g.RA g.Rn g.Rc],last,now] w (Ee w none):=by obtain⟨e,d⟩:=aq a b;clear a b;by_cases f:(9007199254740992:Int)<now;{have c:min now ()=():=oy;exact Sm};have c:min now ()=now:=oy;exact Sm
def adj (g:Gr) (K:eS g) (b a:Nat) (N:g.iv=(b:Int)) (O:g.off=(a:Int)) (z:cG.Good b a) (last now:Int) (L:ah (Nat×Nat)) (l:cG.due b a last now=L) (w:Wd) (j:dK w w g):
 Calls prog 69 #[agg #[g.nm,g.iv,g.off,slice g.RA g.Rn g.Rc],last,now] w (Ee w L):=by
 obtain⟨nm,Y,Z,RA,B,C,rs⟩:=g;simp only at N O;subst N O;obtain⟨A,y⟩:=aq j K;have a1:=z.pos;have X:=z.lt;have R:=z.le;unfold cG.cj at R;have T:a<cG.cj:=by unfold cG.cj;omega
 clear j K;by_cases S:(9007199254740992:Int)<now;{have U:min now ()=():=oy;have r: ¬(9007199254740992:Int)<(a:Int):=oy;have o:ez b a now=ez b a ((9007199254740992:Int)):=agp now T S;have M:=decide_eq_false r;obtain⟨d,V⟩: ∃d:Nat,((9007199254740992:Int):Int)- (a:Int)=(d:Int):=⟨(((9007199254740992:Int):Int)- (a:Int)).toNat,oy⟩;refine Sy λs q i H v u x=>?_;(have t:ez b a now=q+1:=by rw[o,show((9007199254740992:Int):Int)=((d+a:Nat):Int)by omega,Dm (by unfold cG.cj;omega) oy,Nat.add_sub_cancel,i]);exact Oh};have U:min now ()=now:=oy;have W:now<=():=oy;by_cases r:now<(a:Int);{have M:decide (now<(a:Int)):=decide_eq_true r;rw[show cG.due b a last now=none by unfold cG.due ez;rw[if_pos r,if_pos (Nat.zero_le _)]]at l;subst l;go_enter func69,ntmps69;(go_wp2_with fail);refine yA λm e f J n=>?_;refine mB (tX ⟨nm,(b:Int),(a:Int),RA,B,C,rs⟩ true y m ((A.below f).more n)) λI c=>?_;have D:=bC c (e.cell 0);have F:=bC c (e.cell 1);have E:=bC c (e.cell 2);have G:=bC c (e.cell 3);go_wp2;go_ret3;exact⟨rfl,f.trans (c.mono f.size)⟩};skip;have o:ez b a now=ez b a (now):=rfl;have M:=decide_eq_false r;obtain⟨d,V⟩: ∃d:Nat,now- (a:Int)=(d:Int):=⟨((now:Int)- (a:Int)).toNat,oy⟩;refine Sy λs q i H v u x=>?_;(have t:ez b a now=q+1:=by rw[o,show(now:Int)=((d+a:Nat):Int)by omega,Dm (by unfold cG.cj;omega) oy,Nat.add_sub_cancel,i]);exact Oh
def ahe (g:Gr) (last now:Int) (c:ah (Nat×Nat)) (a:jT g last now=c) (w:Wd) (e:dK w w g):
 Calls prog 69 #[agg #[g.nm,g.iv,g.off,slice g.RA g.Rn g.Rc],last,now] w (Ee w c):=by unfold jT at a;rcases b:eS g with _|_;{rw[b,if_neg dy]at a;subst a;exact acD g b last now w e};rw[b,if_pos rfl]at a;obtain⟨i,h,d,f,j⟩:=uH b;rw[d,f,Int.toNat_natCast,Int.toNat_natCast]at a;exact adj g b i h d f j last now c a w e
namespace cu
variable{α:Type}
structure gV (c:α->α->Int):Prop where
 jU: ∀a b,c b a= -c a b
 trans: ∀a b d,c a b<=0->c b d<=0->c a d<=0
def gV.self {c:α->α->Int} (b:gV c) (a:α):c a a=0:=by have:=b.jU a a;omega
def ins (c:α->α->Int) (x:α):List α->List α
 |[]=>[x]
 |y::l=>if c x y<=0 then x::y::l else y::ins c x l
def dM (c:α->α->Int):List α->List α
 |[]=>[]
 |x::l=>ins c x (dM c l)
def CL (c:α->α->Int) (x:α): ∀l,(ins c x l).Perm (x::l)
 |[]=>Perm.refl _
 |y::l=>by
  unfold ins;split;{exact Perm.refl _};exact((CL c x l).cons y).trans (Perm.swap x y l)
def jf (c:α->α->Int): ∀l,(dM c l).Perm l
 |[]=>Perm.refl _
 |x::l=>(CL c x _).trans ((jf c l).cons x)
def Ht {c:α->α->Int} (e:gV c) (x:α): ∀l:List α,l.Pairwise (λa b=>c a b<=0)->(ins c x l).Pairwise (λa b=>c a b<=0)
 |[],_=>by simp[ins]
 |y::l,h=>by
  obtain⟨g,i⟩:=pairwise_cons.1 h;unfold ins;split;{rename_i f;refine pairwise_cons.2 ⟨λz d=>?_,h⟩;obtain rfl|d:=mem_cons.1 d;{exact f};exact e.trans _ _ _ f (g z d)};rename_i f;refine pairwise_cons.2 ⟨λz d=>?_,Ht e x l i⟩;obtain rfl|d:=mem_cons.1 ((CL c x l).mem_iff.1 d);{have:=e.jU z y;omega};exact g z d
def rH {c:α->α->Int} (d:gV c): ∀l:List α,(dM c l).Pairwise (λa b=>c a b<=0)
 |[]=>Pairwise.nil
 |x::l=>Ht d x _ (rH d l)
def Qo {c:α->α->Int} (g:gV c): ∀ {l f:List α},l.Perm f->l.Pairwise (λa b=>c a b<=0)->f.Pairwise (λa b=>c a b<=0)->(∀a b,a∈l->b∈l->c a b=0->a=b)->l=f
 |[],f,d,_,_,_=>(nil_perm.1 d).symm
 |x::l,[],d,_,_,_=>absurd d.length_eq iy
 |x::l,y::f,d,i,o,h=>by
  obtain⟨a1,a2⟩:=pairwise_cons.1 i;obtain⟨j,k⟩:=pairwise_cons.1 o;have n:x=y:=by have hy:y∈x::l:=d.mem_iff.2 iy;have p:x∈y::f:=d.mem_iff.1 iy;obtain e|r:=mem_cons.1 hy;{exact e.symm};obtain e|q:=mem_cons.1 p;{exact e};have u:=a1 y r;have t:=j x q;have:=g.jU x y;exact h x y iy hy oy
  subst n;rw[Qo g ((perm_cons x).1 d) a2 k (λa b m s=>h a b (by simp[m]) (by simp[s]))]
def IS {c:α->α->Int} (f:gV c) {l d:List α} (e:d.Perm l) (h:d.Pairwise (λa b=>c a b<=0)) (i: ∀a b,a∈l->b∈l->c a b=0->a=b):d=dM c l:=
 Qo f (e.trans (jf c l).symm) h (rH f l) (λa b g j=>i a b (e.mem_iff.1 g) (e.mem_iff.1 j))
theorem rQ {β:Type} {c:α->α->Int} {d:β->β->Int} (f:β->α) (g: ∀a b,d a b=c (f a) (f b)): ∀l:List β,(dM d l).map f=dM c (l.map f)
 |[]=>rfl
 |x::l=>by
  have e: ∀l:List β,(ins d x l).map f=ins c (f x) (l.map f):=by intro l;induction l with|nil=>rfl|cons y l ih=>grind[ins]
  show(ins d x (dM d l)).map f=ins c (f x) (dM c (l.map f));rw[e,rQ f g l]
def gV.pY {β:Type} {c:α->α->Int} (e:gV c) (f:β->α):gV (λa b=>c (f a) (f b)):=⟨λa b=>e.jU _ _,λa b d=>e.trans _ _ _⟩
def gV.swo {c:α->α->Int} (a:gV c):Go.Sort.SWO (Go.Proofs.ltOf c) where
 irrefl x:=by unfold Go.Proofs.ltOf;rw[a.self];rfl
 trans x y z h1 h2:=by
  unfold Go.Proofs.ltOf at*
  rw[decide_eq_true_eq]at*
  have k:=a.trans x y z oy oy
  obtain k|k:=Int.lt_or_eq_of_le k
  ·exact k
  ·have a1:=a.jU x z
   have:=a.trans z x y (by omega) (by omega)
   have:=a.jU y z
   omega
 ntrans x y z h1 h2:=by
  unfold Go.Proofs.ltOf at*
  rw[decide_eq_false_iff_not]at*
  have a1:=a.jU x y
  have a2:=a.jU y z
  have b:=a.jU x z
  have:=a.trans z y x (by omega) (by omega)
  omega
open Go.Sort in
theorem acC [Inhabited α] {d J2:Array α} (a:PermIn 0 d.size d J2):J2.toList.Perm d.toList:=by obtain⟨b,_,c⟩:=a;grind[Array.extract_size]
open Go.Sort in
theorem Zn [Inhabited α] {c:α->α->Int} (k:gV c) {d J2:Array α} (h:PermIn 0 d.size d J2) (g:SortedIn (ltOf c) 0 d.size J2):J2.toList.Pairwise (λa b=>c a b<=0):=by rw[pairwise_iff_getElem];intro i j f e l;have m:=h.1;have:=g i j (Nat.zero_le _) l (by simp at e;omega);unfold ltOf at this;rw[decide_eq_false_iff_not]at this;simp at f e;rw[getElem!_pos J2 j e,getElem!_pos J2 i f]at this;have a:=k.jU J2[i] J2[j];grind
def Me [Inhabited α] {c:α->α->Int} (f:gV c) {d J2:Array α} (e:Go.Sort.PermIn 0 d.size d J2) (g:Go.Sort.SortedIn (Go.Proofs.ltOf c) 0 d.size J2) (h: ∀a b,a∈d.toList->b∈d.toList->c a b=0->a=b):J2.toList=dM c d.toList:=
 IS f (acC e) (Zn f e g) h
end cu
section
open Go.ChangeMaps Go.MapKept
open Go.Maps (Keyed)
theorem TX {b:Nat} (c:b<w) (o:Obj):(setBlock w b o).heap[b]?=some o:=by grind[setBlock]
theorem FL {b:Nat} (o:Obj) (c:i≠b):(setBlock w b o).heap[i]?=w.heap[i]?:=by grind[setBlock]
namespace Om
variable{κ α:Type} [DecidableEq κ]
def get (k:κ):List (κ×α)->ah α
 |[]=>none
 |p::l=>if p.1=k then some p.2 else get k l
def put (k:κ) (v:α):List (κ×α)->List (κ×α)
 |[]=>[(k,v)]
 |p::l=>if p.1=k then(k,v)::l else p::put k v l
def del (k:κ):List (κ×α)->List (κ×α)
 |[]=>[]
 |p::l=>if p.1=k then l else p::del k l
def jt (l:List (κ×α)):Prop:=l.Pairwise (λp q=>p.1≠q.1)
def MZ {k:κ}: ∀ {l:List (κ×α)},(∀p∈l,p.1≠k)->get k l=none
 |[],_=>rfl
 |p::l,c=>by rw[get,aG (c p iy),MZ λq d=>c q (by simp[d])]
def get_none {k:κ}: ∀ {l:List (κ×α)},get k l=none-> ∀p∈l,p.1≠k
 |[],_,p,c=>absurd c iy
 |q::l,d,p,c=>by
  rw[get]at d;split at d;{cases d};rename_i e;obtain rfl|c:=fI.1 c;{exact e};exact get_none d p c
def get_mem {k:κ} {v:α}: ∀ {l:List (κ×α)},get k l=some v->(k,v)∈l
 |[],c=>by cases c
 |p::l,c=>by
  rw[get]at c;split at c;{rename_i e;cases c;subst e;exact gl ..};exact gW _ (get_mem c)
def get_at {l:List (κ×α)} (h:jt l) {p:κ×α} (c:l[j]?=some p):get p.1 l=some p.2:=by induction l generalizing j with|nil=>simp at c|cons q l ih=>(let⟨d,e⟩:=pairwise_cons.1 h;cases j with|zero=>(simp at c;subst c;rw[get,aK rfl])|succ j=>(rw[getElem?_cons_succ]at c;rw[get,aG (d p (cz c)),ih e c]))
def yi {k:κ} {v:α}: ∀ {l:List (κ×α)},(∀p∈l,p.1≠k)->put k v l=l++[(k,v)]
 |[],_=>rfl
 |p::l,c=>by rw[put,aG (c p iy),yi λq d=>c q (by simp[d])];rfl
def agX {l:List (κ×α)} (h:jt l) {p:κ×α} (c:l[j]?=some p) (v:α):put p.1 v l=l.set j (p.1,v):=by induction l generalizing j with|nil=>simp at c|cons q l ih=>(let⟨d,e⟩:=pairwise_cons.1 h;cases j with|zero=>(simp at c;subst c;rw[put,aK rfl];rfl)|succ j=>(rw[getElem?_cons_succ]at c;rw[put,aG (d p (cz c)),ih e c];rfl))
def Dp {k:κ}: ∀ {l:List (κ×α)},(∀p∈l,p.1≠k)->del k l=l
 |[],_=>rfl
 |p::l,c=>by rw[del,aG (c p iy),Dp λq d=>c q (by simp[d])]
def ahq {l:List (κ×α)} (h:jt l) {p:κ×α} (c:l[j]?=some p):del p.1 l=l.eraseIdx j:=by induction l generalizing j with|nil=>simp at c|cons q l ih=>(let⟨d,e⟩:=pairwise_cons.1 h;cases j with|zero=>(simp at c;subst c;rw[del,aK rfl];rfl)|succ j=>(rw[getElem?_cons_succ]at c;rw[del,aG (d p (cz c)),ih e c];rfl))
def lE {k:κ} {v:α}: ∀ {l:List (κ×α)} {p:κ×α},p∈put k v l->p=(k,v)\/p∈l
 |[],p,c=>by rw[put,fS]at c;exact .inl c
 |q::l,p,c=>by
  rw[put]at c;split at c;{obtain c|c:=fI.1 c;{exact .inl c};exact .inr (gW _ c)};obtain rfl|c:=fI.1 c;{exact .inr (gl ..)};obtain c|c:=lE c;{exact .inl c};exact .inr (gW _ c)
def qH {k:κ}: ∀ {l:List (κ×α)} {p:κ×α},p∈del k l->p∈l
 |[],p,c=>c
 |q::l,p,c=>by
  rw[del]at c;split at c;{exact gW _ c};obtain rfl|c:=fI.1 c;{exact gl ..};exact gW _ (qH c)
def Ky {k:κ} {v:α}: ∀ {l:List (κ×α)},jt l->jt (put k v l)
 |[],_=>by simp[put,jt]
 |q::l,i=>by
  let⟨d,h⟩:=pairwise_cons.1 i;rw[put];split;{rename_i e;exact pairwise_cons.2 ⟨λp c=>by rw[<-e];exact d p c,h⟩};rename_i j;refine pairwise_cons.2 ⟨λp c=>?_,Ky h⟩;obtain rfl|c:=lE c;{exact j};exact d p c
def Ko {k:κ}: ∀ {l:List (κ×α)},jt l->jt (del k l)
 |[],c=>c
 |q::l,c=>by
  let⟨e,d⟩:=pairwise_cons.1 c;rw[del];split;{exact d};exact pairwise_cons.2 ⟨λp h=>e p (qH h),Ko d⟩
theorem Db (k:κ) (v:α): ∀l:List (κ×α),(put k v l).length<=l.length+1
 |[]=>by simp[put]
 |q::l=>by
  rw[put];split;{simp};have:=Db k v l;simp;omega
def Rd (f:κ->ai) (g:α->ai) (es:List MapEntry) (l:List (κ×α)):Prop:=es.map (λe=>(e.key,e.val))=l.map λp=>(f p.1,g p.2)
section
variable{f:κ->ai} {g:α->ai} {es:List MapEntry} {l:List (κ×α)}
def Rd.len (c:Rd f g es l):es.length=l.length:=by have:=congrArg length c;simpa using this
theorem Rd.at_ (c:Rd f g es l) {e:MapEntry} (d:es[j]?=some e): ∃p,l[j]?=some p/\e.key=f p.1/\e.val=g p.2:=by have:=congrArg (λx=>x[j]?) c;grind
def Rd.Dt (d:Rd f g es l) {e:MapEntry} (m:e∈es): ∃p∈l,e.key=f p.1/\e.val=g p.2:=by let⟨j,n⟩:=fF m;let⟨p,i,c,h⟩:=d.at_ n;exact⟨p,cz i,c,h⟩
theorem Rd.Dv (c:Rd f g es l) {p:κ×α} (d:p∈l): ∃e∈es,e.key=f p.1/\e.val=g p.2:=by let⟨j,i⟩:=fF d;have n:=c.len;have u:=(bZ.1 i).1;obtain⟨e,h⟩: ∃e,es[j]?=some e:=⟨_,br oy⟩;let⟨q,t,m,s⟩:=c.at_ h;grind
theorem Rd.gF (c:Rd f g es l) (d:es.Pairwise (λx y=>x.key≠y.key)):jt l:=by unfold jt;rw[pairwise_iff_getElem]at d⊢;intro i j h u v e;have m:=c.len;let⟨p,n,s,_⟩:=c.at_ (br (show i<es.length by omega));let⟨q,z,t,_⟩:=c.at_ (br (show j<es.length by omega));grind
end
end Om
def OM {κ α:Type} (P:Program) (k:ch) (f:κ->ai) (g:α->ai) (w:Wd) (b:Nat) (l:List (κ×α)):Prop:=
 ∃es clock,w.heap[b]?=some (.map es clock)/\Om.Rd f g es.toList l/\Stamped es clock/\ ∀p∈l,∃c,keyOf P k (f p.1)=some c
def nc {κ α:Type} (P:Program) (k:ch) (f:κ->ai) (g:α->ai) (w:Wd) (b r:Nat) (l left:List (κ×α)):Prop:=
 ∃es clock since seen c,w.heap[b]?=some (.map es clock)/\Om.Rd f g es.toList l/\Stamped es clock/\(∀p∈l,∃d,keyOf P k (f p.1)=some d)/\
  w.heap[r]?=some (.mapIter (some b) since seen c)/\(∀x∈es.toList,x.born<since)/\Om.Rd f g (leftOf es seen).toList left/\since<=c/\since<=clock
section
variable{κ α:Type} [DecidableEq κ] {P:Program} {k:ch} {f:κ->ai} {g:α->ai} {w w':Wd} {b:Nat} {l:List (κ×α)}
def OM.made (w:Wd) (P:Program) (k:ch) (f:κ->ai) (g:α->ai):OM P k f g (w.alloc (.map #[] 0)) w []:=
 ⟨#[],0,(MapKept.heap_alloc w _).1,rfl,stamped_empty 0,λp c=>absurd c iy⟩
def OM.lt (d:OM P k f g w b l):b<w:=by let⟨es,clock,c,_⟩:=d;exact(gm.1 c).1
theorem OM.kept {F8:ah Nat} (c:OM P k f g w b l) (e:w.grownBy w' F8) (h:some b≠F8):OM P k f g w' b l:=by have d:=c.lt;let⟨es,clock,i,r⟩:=c;exact⟨es,clock,(e.block b d h).trans i,r⟩
def OM.below (h:OM P k f g w b l) (e:RowKit.Below B w w') (d:b<B):OM P k f g w' b l:=by let⟨es,clock,c,r⟩:=h;exact⟨es,clock,(e.block b d).trans c,r⟩
def OM.alloc (c:OM P k f g w b l) (o:Obj):OM P k f g (w.alloc o) b l:=c.kept (World.grownBy_alloc w o none) iy
def OM.drew (c:OM P k f g w b l):OM P k f g w.drew b l:=c
theorem OM.setCell (e:OM P k f g w b l) {a:ak} (c:b≠a.block) (u):OM P k f g (w a u) b l:=by let⟨es,clock,d,r⟩:=e;exact⟨es,clock,by rw[RowKit.Below.heap_setCell _ _ _ _ c];exact d,r⟩
def OM.gF (e:OM P k f g w b l):jt l:=by let⟨es,clock,_,c,d,_⟩:=e;exact c.gF ((stamped_iff es clock).1 d).2.2
theorem OM.look {t e:ch} (n:OM P k f g w b l) (K:Keyed P k) (q:P.underlying t=some (.map k e)) (D: ∀x y,f x=f y->x=y) {z:ai} (G:(zeroValue e).run P w= .ok z w) (x:κ) {G6:Lit} (m:keyOf P k (f x)=some G6) (c):
 (Instr.lookup t (.map (some b)) (f x) c).run P w= .ok (if c then tuple #[((Om.get x l).map g).getD z,(Om.get x l).isSome]else((Om.get x l).map g).getD z) w:=by
 have C:=n.gF;let⟨es,clock,u,i,L,J⟩:=n;have I: ∀e∈es.toList,∃G6,keyOf P k e.key=some G6:=λe s=>by let⟨p,h,d,_⟩:=i.Dt s;rw[d];exact J p h
 obtain⟨d,v⟩|⟨j,E,d,v,B⟩:=K.find w m es.toList I;{(have F:Om.get x l=none:=MZ λp h e=>by let⟨E,s,A,_⟩:=i.Dv h;grind);rw[F];simp[Instr.lookup,run_underlying q,MapKept.run_getObj_map u,K.check w _ m,d,G,Result.andThen]};let⟨p,h,A,H⟩:=i.at_ v;obtain rfl:p.1=x:=D _ _ (A.symm.trans B);rw[Om.get_at C h];simp[Instr.lookup,run_underlying q,MapKept.run_getObj_map u,K.check w _ m,d,H,Result.andThen]
theorem OM.store {t e:ch} (D:OM P k f g w b l) (K:Keyed P k) (E:P.underlying t=some (.map k e)) (M: ∀x y,f x=f y->x=y) (x:κ) {G6:Lit} (m:keyOf P k (f x)=some G6) (v:α):
 ∃w',(Instr.mapUpdate t (.map (some b)) (f x) (g v)).run P w= .ok () w'/\OM P k f g w' b (Om.put x v l)/\w.grownBy w' (some b)/\w'=w.heap.size:=by
 have L:=D.gF;let⟨es,clock,d,B,F,C⟩:=D;have S: ∀e∈es.toList,∃G6,keyOf P k e.key=some G6:=λe H=>by let⟨p,c,s,_⟩:=B.Dt H;rw[s];exact C p c
 have I: ∀o:Obj,w.grownBy (setBlock w b o) (some b):=λo=>⟨rfl,rfl,rfl,by simp[setBlock],λi _ R=>heap_setBlock_other d _ (λe=>R oZ)⟩;obtain⟨s,n⟩|⟨j,z,s,n,G⟩:=K.find w m es.toList S;{(have N: ∀p∈l,p.1≠x:=λp c e=>by let⟨z,H,J,_⟩:=B.Dv c;grind);refine⟨setBlock w b (.map (es.push ⟨f x,g v,clock⟩) (clock+1)),?_,⟨_,_,heap_setBlock_same d _,?_,stamped_push F n,?_⟩,I _,by simp[setBlock]⟩;{simp[Instr.mapUpdate,run_underlying E,MapKept.run_getObj_map d,K.check w false m,s,MapKept.run_setObj_map _ d,Result.andThen,setBlock]};{rw[yi N];grind[Om.Rd]};intro p c;obtain rfl|c:=lE c;{exact⟨G6,m⟩};exact C p c};(have O:es[j]?=some z:=by simpa using n);let⟨p,c,J,V⟩:=B.at_ n;obtain rfl:p.1=x:=M _ _ (J.symm.trans G);(have T:(es.modify j (λu=>{u with key:=f p.1,val:=g v})).toList=es.toList.set j {z with key:=f p.1,val:=g v}:=by rw[Array.toList_modify,modify_eq_set _ _ _ _ n]);refine⟨setBlock w b (.map (es.modify j (λu=>{u with key:=f p.1,val:=g v})) clock),?_,⟨_,_,heap_setBlock_same d _,?_,stamped_modify F _ _ vXv (λu _ U=>by grind),?_⟩,I _,by simp[setBlock]⟩;{simp[Instr.mapUpdate,run_underlying E,MapKept.run_getObj_map d,K.check w false m,s,O,G,K.stays w m,MapKept.run_setObj_map _ d,Result.andThen,setBlock]};{rw[agX L c];simp_all[Om.Rd]};intro q A;obtain rfl|A:=lE A;{exact⟨G6,m⟩};exact C q A
theorem OM.drop {t e:ch} (v:OM P k f g w b l) (K:Keyed P k) (G:P.underlying t=some (.map k e)) (J: ∀x y,f x=f y->x=y) (x:κ) {G6:Lit} (F:keyOf P k (f x)=some G6) (ty):
 ∃w',(Builtin.delete_ #[t,k] ty #[.map (some b),f x]).run P w= .ok (tuple #[]) w'/\OM P k f g w' b (Om.del x l)/\w.grownBy w' (some b)/\w'=w.heap.size:=by
 have I:=v.gF;let⟨es,clock,c,n,z,u⟩:=v;have M: ∀e∈es.toList,∃G6,keyOf P k e.key=some G6:=λe A=>by let⟨p,d,m,_⟩:=n.Dt A;rw[m];exact u p d
 have D: ∀o:Obj,w.grownBy (setBlock w b o) (some b):=λo=>⟨rfl,rfl,rfl,by simp[setBlock],λi _ L=>heap_setBlock_other c _ (λe=>L oZ)⟩;obtain⟨m,s⟩|⟨j,B,m,s,H⟩:=K.find w F es.toList M;{(have C: ∀p∈l,p.1≠x:=λp d e=>by let⟨B,A,E,_⟩:=n.Dv d;grind);refine⟨setBlock w b (.map es clock),?_,⟨_,_,heap_setBlock_same c _,?_,z,?_⟩,D _,by simp[setBlock]⟩;{exact QO};{rw[Dp C];exact n};rw[Dp C];exact u};(have R:es[j]?=some B:=by simpa using s);let⟨p,d,E,S⟩:=n.at_ s;obtain rfl:p.1=x:=J _ _ (E.symm.trans H);refine⟨setBlock w b (.map (es.eraseIdxIfInBounds j) clock),?_,⟨_,_,heap_setBlock_same c _,?_,stamped_erase z j,?_⟩,D _,by simp[setBlock]⟩;{exact QO};{rw[ahq I d];(have O:(es.eraseIdxIfInBounds j).toList=es.toList.eraseIdx j:=by simp);grind[map_eraseIdx,Om.Rd]};intro q N;exact u q (qH N)
def OM.len {t e:ch} (i:OM P k f g w b l) (d:P.underlying t=some (.map k e)) (ty):(Builtin.len_ #[t] ty #[.map (some b)]).run P w= .ok l.length w:=by let⟨es,clock,h,c,_⟩:=i;have:=c.len;simp only[kI]at this;simp[Builtin.len_,run_underlying d,MapKept.run_getObj_map h,Result.andThen,this,goInt]
def OM.range {t e:ch} (c:OM P k f g w b l) (j:P.underlying t=some (.map k e)):
 ∃w',(Instr.range t (.map (some b))).run P w= .ok (bK w) w'/\nc P k f g w' b w l l/\w.grownBy w' none/\w'=w.heap.size+1:=by
 have m:=c.lt;let⟨es,clock,i,d,h,n⟩:=c;refine⟨_,run_range_map w t k e b es clock j i,⟨es,clock,clock,#[],clock,((MapKept.heap_alloc w _).2 b m).trans i,d,h,n,(MapKept.heap_alloc w _).1,((stamped_iff es clock).1 h).1,?_,ny,ny⟩,World.grownBy_alloc w _ none,iy⟩;have:leftOf es #[]=es:=by unfold leftOf;simp
 rw[this];exact d
variable{r:Nat} {left:List (κ×α)}
def nc.below (h:nc P k f g w b r l left) (c:RowKit.Below B w w') (d:b<B) (m:r<B):nc P k f g w' b r l left:=by let⟨es,clock,since,seen,i,s,p,e,j,q,n⟩:=h;exact⟨es,clock,since,seen,i,(c.block b d).trans s,p,e,j,(c.block r m).trans q,n⟩
theorem nc.next (G:nc P k f g w b r l left) (ty):
 (left=[]/\(Instr.next (bK r) false ty).run P w= .ok (tuple #[false]) w)\/
 ∃A p C w',left=A++p::C/\(Instr.next (bK r) false ty).run P w= .ok (tuple #[true,f p.1,g p.2]) w'/\nc P k f g w' b r l (A++C)/\w.grownBy w' (some r)/\w'=w.heap.size/\
  (Instr.entry (bK r)).run P w'= .ok (tuple #[f p.1,g p.2]) w':=by let⟨es,clock,since,seen,K,z,J,s,T,D,B,t,R,q⟩:=G;have X:=(stamped_iff es clock).1 s;obtain⟨W,n⟩|⟨e,u,d,m,n⟩:=run_next_at (P:=P) w ty r b since K seen es clock D z B R;{refine .inl ⟨?_,n⟩;have:=t.len;grind};right;let⟨Y,a0⟩:=mem_left u;let⟨j,y⟩:=fF u;let⟨p,E,S,O⟩:=t.at_ y;have M:=(bZ.1 E).1;(have c:d.heap=w.heap:=by obtain rfl|rfl:=m<;>rfl);(have U:r≠b:=by grind);(have I:r<d:=by rw[c];exact(gm.1 D).1);have H:(setBlock d r (.mapIter (some b) since (seen.push e.born) clock)).heap[r]?=some (.mapIter (some b) since (seen.push e.born) clock):=TX I _;have F:(setBlock d r (.mapIter (some b) since (seen.push e.born) clock)).heap[b]?=some (.map es clock):=(FL _ (Ne.symm U)).trans (by rw[c];exact z);refine⟨left.take j,p,left.drop (j+1),setBlock d r (.mapIter (some b) since (seen.push e.born) clock),?_,?_,⟨es,clock,since,seen.push e.born,clock,F,J,s,T,H,B,?_,q,q⟩,?_,?_,?_⟩;{rw[<-bZ.1 E|>.2,<-jE M,take_append_drop]};{rw[n,S,O]};{(have v:((leftOf es seen).toList.map (·.born)).Nodup:=by grind[leftOf]);(have V:(leftOf es (seen.push e.born)).toList=(leftOf es seen).toList.eraseIdx j:=by (have L:(leftOf es (seen.push e.born)).toList=(leftOf es seen).toList.filter (λx=>x.born !=e.born):=by grind[Array.toList_filter,filter_filter,Array.contains_push,Bool.not_or,Bool.and_comm,leftOf,filter_congr]);rw[L];(have:=filter_eq_eraseIdx (λx:MapEntry=>x.born==e.born) (leftOf es seen).toList j e y iy (by rw[nodup_iff_pairwise_ne,pairwise_map]at v;exact v.imp λ{a b} Z=>by grind));exact this);simp_all[map_eraseIdx,eraseIdx_eq_take_drop_succ,Om.Rd]};{exact⟨by obtain rfl|rfl:=m<;>rfl,by obtain rfl|rfl:=m<;>rfl,by obtain rfl|rfl:=m<;>rfl,by simp[setBlock,c],λi _ N=>(FL _ (λe=>N oZ)).trans (by rw[c])⟩};{simp[setBlock,c]};grind[run_entry_at]
end
section
variable{κ α:Type} [DecidableEq κ] {P:Program} (w:Wd) {ops:Array Oper} {rest:List Oper} {o:Oper} {a:Act} {Q:Exit->Act->Wd->Prop}
def rF (s:o.guard=none) (m x t c) (A:o.op=Op.lookup t m x c) (k e) (K:Keyed P k) (n:P.underlying t=some (.map k e)) (z) (d:(zeroValue e).run P w= .ok z w)
 (f:κ->ai) (g:α->ai) (B: ∀x y,f x=f y->x=y) (b:Nat) (l:List (κ×α)) (v:a.eval m= .map (some b)) (h:OM P k f g w b l) (key:κ) (q:a.eval x=f key) (C:Lit) (p:keyOf P k (f key)=some C)
 (j:wpList P ops Q rest (a.put o.dst (if c then tuple #[((Om.get key l).map g).getD z,(Om.get key l).isSome]else((Om.get key l).map g).getD z)) w):wpList P ops Q (o::rest) a w:=by refine wpList_plain s λK' u=>?_;have i:=h.look K n B d key p c;unfold Oper.wp;simp[execOp,A,v,q,i,Result.andThen];exact u _ _ j
def rE (q:o.guard=none) (m x v t) (A:o.op=Op.mapUpdate t m x v) (k e) (K:Keyed P k) (i:P.underlying t=some (.map k e))
 (f:κ->ai) (g:α->ai) (D: ∀x y,f x=f y->x=y) (b:Nat) (l:List (κ×α)) (u:a.eval m= .map (some b)) (c:OM P k f g w b l) (key:κ) (p:a.eval x=f key) (E:Lit) (n:keyOf P k (f key)=some E) (val:α) (B:a.eval v=g val)
 (h: ∀w',OM P k f g w' b (Om.put key val l)->w.grownBy w' (some b)->w'=w.heap.size->wpList P ops Q rest (a.put o.dst undef) w'):wpList P ops Q (o::rest) a w:=by refine wpList_plain q λK' s=>?_;let⟨w',d,C,z,j⟩:=c.store K i D key n val;unfold Oper.wp;simp[execOp,A,u,p,B,d,Result.andThen];exact s _ _ (h w' C z j)
def Up (q:o.guard=none) (m x t k) (z:o.op=Op.call {callee:=Callee.builtin Builtin.delete,args:= #[m,x],argTypes:= #[t,k]}) (e) (K:Keyed P k) (i:P.underlying t=some (.map k e))
 (f:κ->ai) (g:α->ai) (B: ∀x y,f x=f y->x=y) (b:Nat) (l:List (κ×α)) (u:a.eval m= .map (some b)) (c:OM P k f g w b l) (key:κ) (p:a.eval x=f key) (C:Lit) (n:keyOf P k (f key)=some C)
 (h: ∀w',OM P k f g w' b (Om.del key l)->w.grownBy w' (some b)->w'=w.heap.size->wpList P ops Q rest (a.put o.dst (tuple #[])) w'):wpList P ops Q (o::rest) a w:=by refine wpList_plain q λK' s=>?_;let⟨w',d,A,v,j⟩:=c.drop K i B key n o.type;unfold Oper.wp;simp[execOp,z,resolve,invoke,builtin,u,p,d,Result.andThen];exact s _ _ (h w' A v j)
def FZ (j:o.guard=none) (m t) (q:o.op=Op.call {callee:=Callee.builtin Builtin.len,args:= #[m],argTypes:= #[t]}) (k e) (i:P.underlying t=some (.map k e))
 (f:κ->ai) (g:α->ai) (b:Nat) (l:List (κ×α)) (p:a.eval m= .map (some b)) (c:OM P k f g w b l)
 (h:wpList P ops Q rest (a.put o.dst l.length) w):wpList P ops Q (o::rest) a w:=by refine wpList_plain j λK' n=>?_;have d:=c.len i o.type;unfold Oper.wp;simp[execOp,q,resolve,invoke,builtin,p,d,Result.andThen];exact n _ _ h
def Uj (n:o.guard=none) (m t) (u:o.op=Op.range t m) (k e) (i:P.underlying t=some (.map k e))
 (f:κ->ai) (g:α->ai) (b:Nat) (l:List (κ×α)) (q:a.eval m= .map (some b)) (c:OM P k f g w b l)
 (h: ∀w',nc P k f g w' b w l l->w.grownBy w' none->w'=w.heap.size+1->wpList P ops Q rest (a.put o.dst (bK w)) w'):wpList P ops Q (o::rest) a w:=by refine wpList_plain n λK' p=>?_;let⟨w',d,v,s,j⟩:=c.range i;unfold Oper.wp;simp[execOp,u,q,d,Result.andThen];exact p _ _ (h w' v s j)
def Un (u:o.guard=none) (it) (i:o.op=Op.next it false) (k) (f:κ->ai) (g:α->ai) (b r l left)
 (hit:a.eval it=bK r) (n:nc P k f g w b r l left)
 (m:left=[]->wpList P ops Q rest (a.put o.dst (tuple #[false])) w)
 (y: ∀ (d:List (κ×α)) (p:κ×α) (c:List (κ×α)) (w':Wd),left=d++p::c->nc P k f g w' b r l (d++c)->w.grownBy w' (some r)->w'=w.heap.size->
  (Instr.entry (bK r)).run P w'= .ok (tuple #[f p.1,g p.2]) w'->wpList P ops Q rest (a.put o.dst (tuple #[true,f p.1,g p.2])) w'):wpList P ops Q (o::rest) a w:=by refine wpList_plain u λK' h=>?_;unfold Oper.wp;obtain⟨q,e⟩|⟨d,p,c,w',j,e,x,v,s,t⟩:=n.next o.type;{simp[execOp,i,hit,e,Result.andThen];exact h _ _ (m q)};simp[execOp,i,hit,e,Result.andThen];exact h _ _ (y d p c w' j x v s t)
end
end
end Go.Proofs.YteagjoghhfngoaaGreatDoor
