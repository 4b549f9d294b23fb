import Derived.Test.YteagjoghhfngoaaGreatDoorQc
import Derived.Shelf.SlGeneric
import Derived.Shelf.SlSortCmp.WholeK
import Derived.Shelf.SlSortCmp.Whole1
import Derived.Ground.SlsfProg
set_option maxRecDepth 100000
set_option maxHeartbeats 32000000
set_option linter.all false
namespace Go.Proofs.YteagjoghhfngoaaGreatDoor
namespace Lex
end Lex
namespace fP
end fP
open Go.RowKit Tryz Value List Lex Mem aQ aa aj ap fP
variable{B N base g i j m n p sz:Nat} {A F0:ah ak} {W w wr:Wd} {c d:aU} {e:Int} {v:ai} {xs:List ai} {b:Bool} {s t:au} {x:Int×Int} {G8 l r:Bs} {ms:List aj.Mt}
def aO (q:Nat) (a:ah ak) (n:Nat):Prop:=0<n-> ∀p:ak,a=some p->p.block≠q
def dB (q:Nat) (b:ah ak) (n:Nat) (a:List Se):Prop:=aO q b n/\ ∀s∈a,aO q s.LA s.Ln/\aO q s.SA s.Sn
def aO.none_ (q n):aO q none n:=λ_ p e=>by cases e
def aO.ge {q:Nat} (b:q<N) (a: ∀p:ak,F0=some p->N<=p.block):aO q F0 n:=λ_ p e=>aR (a p e)
def dB.none_ (q):dB q none 0 []:=⟨aO.none_ _ _,λs a=>absurd a iy⟩
theorem dB.aD {q:Nat} {F1:ah ak} {G5:List Se} (h:dB q F1 n G5) {k c c1:Nat} {a:List Se} (f:cU W B F0 k c1 a) (d:a.map Se.val=ap.aD (G5.map Se.val)) (e:ap.ar (G5.map Se.val)->F0=F1/\k=n/\c1=c/\a=G5):dB q F0 k a:=by cases g:ap.ar (G5.map Se.val);{unfold ap.aD at d;rw[g]at d;(have b:a=[]:=by simpa using d);subst b;have:=f.len;exact⟨λb=>absurd b (by simp at this;omega),λs e=>absurd e iy⟩};grind
def ahW (f:ah ak) (n:Nat) (d:List Se) (B:ah ak) (m:Nat) (w:Wd) (es:List ap.E) (ls:List Pr) (x:Int×Int) (e:Ending) (w':Wd):Prop:=
 ∃A' n' c a b,e= .returned (tuple #[slice A' n' c,int .i64 b])/\cU w' w'.heap.size A' n' c a/\oG es ls x (a.map Se.val,b)/\az w w'/\ ∀q,q<w.heap.size->dB q f n d->aO q B m->dB q A' n' a
def xN (A n c ses B m d ls x w) (b:cU w w A n c ses) (g:aH w w B m d ls):
 Calls prog 66 #[slice A n c,slice B m d,agg #[int .i64 x.1,int .i64 x.2]] w (ahW A n ses B m w (ses.map Se.val) ls x):=by
 let⟨h7,c6⟩:=aq b g;clear b g;go_enter func66,ntmps66;go_wp2_with fail
 refine yB λf4 e1 o i8=>?_;have b0:=e1.cell 0;have a6:=e1.cell 1;refine(Gf A n c ses f4 (h7.later o)).mono ?_;rintro e g2 ⟨Q,a,c1,j,rfl,z,U,d0,d'⟩;have c4:=d';have c2:=z.Hl U;have N:=z.len;let⟨cs,a5⟩:=xR (ap.aD (ses.map Se.val));have e':=U;rw[a5]at U;have S: ∀q,dB q A n ses->dB q Q a j:=λq y=>dB.aD (c:=c) y z e' d0;let⟨e4,v,e0,g3⟩:=bJ z U a5 (show zB (j.map Se.val) (aa.aD ls)from ap.mono (by rw[U,<-a5];exact ap.ek _) _);clear z U e' d0 a5 d';let⟨d5,d3⟩:=xR (ap.named ls);have b6:=hJ d3;clear d3;go_wp2_with fail
 refine(Ld B m d ls d5 b6 g2 ((c6.later o).later c4)).mono ?_;rintro e i0 ⟨rfl,a4⟩;have a9:=bU c4 a4;cases d5;{go_wp2;go_ret2;refine⟨Q,a,c1,j,7,rfl,e4.later a4,?_,bU o a9,λq _ y _=>S q y⟩;unfold oG;rw[b6.o,aG dy,v.o,e0.o]};have d7:=hJ (e4.later a4);(go_wp2_with fail);refine(agG Q a c1 j B m d ls g3 c2 i0 d7 ((c6.later o).later a9)).mono ?_;rintro e e9 ⟨p,rfl,hcut,b'⟩;have L:=bU a9 b';let⟨b1,g1⟩:=aq (d7.later b') ((c6.later o).later L);have b0:=bC L b0;have a6:=bC L a6;rw[v.o]at hcut;(have d4:p<=a:=by have:=hcut.le;rw[<-v.o,cC,N]at this;exact this);have h5:=hJ hcut;have i5:(0:Int)<=(p:Int):=oy;clear hcut b' a4 c4 a9;rw[v.o];cases l:ap.there cs (aa.aD ls) p;{let⟨c3,a7⟩:=aq (show kt cs (aa.aD ls) p=[]by unfold kt;rw[l];rfl) l;clear l;(go_wp2_with fail);have a1:=dX.IL none 0 0 [] x e9 (dX.cP.none_ _ _);refine a1.mono ?_;rintro e M ⟨r,u,c5,rfl,F,E,Y⟩;clear a1;obtain⟨⟨G,K⟩,J⟩: ∃q,aQ.append [] x=q:=⟨_,rfl⟩;rw[J]at F Y⊢;have O:=hJ (show aQ.append (kt cs (aa.aD ls) p) x=(G,K)by rw[c3.o];exact J);have H:=bU L E;let⟨c0,D⟩:=aq F (b1.later E);have b3:=E;clear F J E b0 a6;by_cases Z:K=0;{subst Z;by_cases d6:32<=a;{have g6:decide ((32:Int)<=a):=bG oy;go_wp2;go_ret2;refine⟨Q,a,c1,j,10,rfl,D,?_,bU o H,λq _ y _=>S q y⟩;refine vH ?_;rw[O.o,aG AB,a7.o,aG dy,aK (by rw[<-v.o,cC,N];exact d6),v.o]};have g6:decide ((32:Int)<=a)=false:=bj oy;(go_wp2_with fail);refine(Hr Q a c1 j M D c2).mono ?_;rintro e C ⟨a3,rfl,I,W⟩;have i':=hJ I;(have h4:a3.ownBlock≠some C:=by intro e;obtain⟨rfl,_⟩|⟨R,f3,c7,rfl,_,a2,_⟩:=I.2;{cases e};injection e with e;have:=(gm.1 a2).1;simp at e;omega);have g8:=af.new C 107 #[slice B m d,slice r u c5];have V:=I.alloc (.cells #[slice B m d,slice r u c5] 107);have i2:=W.size;clear I;(go_wp2_with fail);refine(aeA M a3 a p (j.flatMap iw) C (slice B m d) (slice r u c5) _ uy V g8 h4 rfl rfl (Nd j) d4 oy).mono ?_;rintro e c8 ⟨i7,rfl,b8,f5⟩;have a0:=(W.alloc W.size _).trans f5;obtain⟨h1,h6⟩: ∃s:Se,s=⟨B,m,d,ls,r,u,c5,G⟩:=⟨_,rfl⟩;have e8:=Xz j p h1 (by rw[N];exact d4);rw[h6]at e8;rw[<-e8]at b8;(have g9: ∀s∈oz j p ⟨B,m,d,ls,r,u,c5,G⟩,kA c8 c8 s:=by intro s f;unfold oz at f;simp only[eQ,fI,not_mem_nil,or_false]at f;obtain (f|rfl)|f:=f;{exact(D.2 s (mem_of_mem_take f)).later a0};{exact⟨(g1.later b3).later a0,c0.later a0⟩};exact(D.2 s (mem_of_mem_drop f)).later a0);have d1:=λg e=>(b8.lt g e).1;obtain⟨d8,g7,rfl,g4⟩:=LW b8 (by unfold oz;simp only[bu,et,gJ,cH,fQ,N];omega) g9;(have b7: ∀q,q<w.heap.size->dB q A n ses->aO q B m->dB q d8 (a+1) (oz j p ⟨B,m,d,ls,r,u,c5,G⟩):=by intro q b4 y f1;have z:=S q y;have f':=(bU o H).size;have b5:=(bU o L).size;refine⟨λ_ p e=>?_,λs f=>?_⟩;{have:=d1 p.block nP;omega};unfold oz at f;simp only[eQ,fI,not_mem_nil,or_false]at f;obtain (f|rfl)|f:=f;{exact z.2 s (mem_of_mem_take f)};{exact⟨f1,aO.ge (dS b4 b5) (Y (by trivial))⟩};exact z.2 s (mem_of_mem_drop f));have b7:=hJ b7;clear d1;go_wp2;go_ret2;refine⟨d8,a+1,g7,_,0,rfl,g4,?_,o.trans ((bU H a0).mono o.size),b7⟩;refine vH ?_;rw[O.o,aG AB,a7.o,aG dy,aG (by rw[<-v.o,cC,N];exact d6),aaP,v.o];rfl};go_wp2;go_ret2;refine⟨Q,a,c1,j,K,rfl,D,?_,bU o H,λq _ y _=>S q y⟩;refine vH ?_;rw[O.o,aK Z,v.o]};(have h3:p<a:=by obtain b|b:=Nat.lt_or_ge p a;{exact b};rw[Il (by rw[<-v.o,cC,N];omega)]at l;cases l);let⟨c',e3,s,f9,i1,f,e5,h9,h2⟩:=b1.at_ h3;(have b2:cs[p]?=some s.val:=by rw[<-v.o,dw,f];rfl);let⟨c3,a7,d9,e7,h8⟩:=de (show kt cs (aa.aD ls) p=s.ss by unfold kt;rw[l,aK rfl,b2];rfl) l e5 f b2;have i6:(p:Int)<(a:Int):=oy;subst f9;clear l f e5 b2 h9;(go_wp2_with fail);have a1:=dX.IL s.SA s.Sn s.Sc s.ss x e9 d9.2;refine a1.mono ?_;rintro e M ⟨r,u,c5,rfl,F,E,Y⟩;clear a1;obtain⟨⟨G,K⟩,J⟩: ∃q,aQ.append s.ss x=q:=⟨_,rfl⟩;rw[J]at F Y⊢;have O:=hJ (show aQ.append (kt cs (aa.aD ls) p) x=(G,K)by rw[c3.o];exact J);have H:=bU L E;let⟨c0,D⟩:=aq F (b1.later E);have b3:=E;clear F J E b0 a6 h2;by_cases Z:K=0;{subst Z;(go_wp2_with fail);refine(Hr (some (c' e3)) a c1 j M D.o c2).mono ?_;rintro e C ⟨a3,rfl,I,W⟩;(obtain⟨R,f3,c7,rfl,h',a2,i4,i9,h0⟩: ∃g cap a',a3=bR g a cap/\M.heap.size<=g/\C.heap[g]?=some (.cells a' 107 (0,0))/\a<=cap/\cap<=9223372036854775807/\a'.size=cap*2:=by obtain⟨_,e2⟩|⟨g,cap,a',e2,z,g0,f7,f6,F,_⟩:=I.2;{omega};exact⟨g,cap,a',e2,z,g0,f7,by unfold maxLen at f6;omega,F⟩);have i3:C.frozen? (R (p*2+1))=false:=Lib.frozen_of_heap a2 _;(have g5:C.cell? (R (p*2+1))=some (c7[p*2+1]' oy):=by rw[Lib.cell_of_heap a2];exact Array.getElem?_eq_getElem _);let⟨j0,d2⟩:=xR (c7[p*2+1]' oy);rw[d2]at g5;have V:=agL I (i:=p*2+1) oy (slice r u c5);rw[Xf j p s ⟨s.LA,s.Ln,s.Lc,s.ls,r,u,c5,G⟩ e7.o ⟨rfl,rfl,rfl⟩]at V;have a8:Below M M (C.setCell (an R (p*2+1)) (slice r u c5)):=W.setCell h' _;(have c9: ∀t∈j.set p ⟨s.LA,s.Ln,s.Lc,s.ls,r,u,c5,G⟩,kA (C (R (p*2+1)) (slice r u c5)) (C (R (p*2+1)) (slice r u c5)).heap.size t:=by intro t l;obtain l|rfl:=mem_or_eq_of_mem_set l;{exact(D.2 t l).later a8};exact⟨(d9.1.later b3).later a8,c0.later a8⟩);let⟨f0,f8,X,e6⟩:=LW V (by rw[length_set];exact N) c9;(have b9: ∀q,q<w.heap.size->dB q A n ses->aO q B m->dB q f0 a (j.set p ⟨s.LA,s.Ln,s.Lc,s.ls,r,u,c5,G⟩):=by intro q b4 y f1;have z:=S q y;have f':=(bU o H).size;have b5:=(bU o L).size;refine⟨λ_ p e=>?_,λt l=>?_⟩;{injection X with X _;rw[<-X]at e;cases e;simp only;omega};obtain l|rfl:=mem_or_eq_of_mem_set l;{exact z.2 t l};exact⟨(z.2 s (cz e7)).1,aO.ge (dS b4 b5) (Y (by trivial))⟩);let⟨b9,g',f2⟩:=aM b9 e6 X;clear I a2 h0 d2 V c9 e6 X;go_wp2;go_ret2;refine⟨f0,a,f8,_,0,by rw[<-f2.o];rfl,g',?_,o.trans ((bU H a8).mono o.size),b9⟩;refine vH ?_;rw[O.o,aG AB,a7.o,aK rfl,map_set,v.o];unfold yI;rw[h8.o];rfl};go_wp2;go_ret2;refine⟨some (an c' e3),a,c1,j,K,rfl,D,?_,bU o H,λq _ y _=>S q y⟩;refine vH ?_;rw[O.o,aK Z,v.o]
namespace ap
abbrev F:=List Pr× (Int×Int)
structure Fo where
 LA:ah ak
 Ln:Nat
 Lc:Nat
 ls:List Pr
 x:Int×Int
def Fo.val (f:Fo):F:=(f.ls,f.x)
def hit (nm:au) (b:List aa.Mt) (t a:Int) (e:E):ah F:=
 if aj.fits nm b e.1=true then(if(kh e.2 t a).2=true then some (e.1,(kh e.2 t a).1)else none)else none
def oT (es:List E) (nm:au) (b:List aa.Mt) (t a:Int):List F:=es.filterMap (hit nm b t a)
theorem aaZ {es:List E} {k:Nat} {e:E} (a:es[k]?=some e) (nm ms t window):oT (es.take (k+1)) nm ms t window=oT (es.take k) nm ms t window++(hit nm ms t window e).toList:=by grind[gK,oT]
end ap
def oh (f:Fo):List ai:=[slice f.LA f.Ln f.Lc,f.x.1,f.x.2]
abbrev mU (r:Fo):Array ai:= #[slice r.LA r.Ln r.Lc,r.x.1,r.x.2]
abbrev foL (r:Fo):List ai:=[slice r.LA r.Ln r.Lc,r.x.1,r.x.2]
def wN (f):(oh f).length=3:=rfl
def tD (W:Wd) (b:Nat) (f:Fo):Prop:=aH W b f.LA f.Ln f.Lc f.ls
def gH (W:Wd) (b:Nat) (d:ah ak) (n c:Nat) (a:List Fo):Prop:=aA oh 3 W b d n c a/\ ∀f∈a,tD W b f
def Dk:(prog.info? 304).map (λi=>(i.zero,i.size,i.bytes))=some (some (agg #[(),"",""]),3,40):=ry
def eU {W':Wd} {e size:Nat} (a:W.ownsRow base e size v n xs) (j:az W W'):W'.ownsRow base e size v n xs:=by refine⟨a.1,?_⟩;obtain d|⟨g,cap,f,i,h,b,c⟩:=a.2;{exact .inl d};exact .inr ⟨g,cap,f,i,h,(j.block g (gm.1 b).1).trans b,c⟩
def afH (nm) (e:nm.size<=9223372036854775807) (A n c ms D n3 c3 l b) (d:aj.fits nm ms l=b) (w) (f:cQ w w A n c ms) (a:aH w w D n3 c3 l):
 Calls prog 241 #[agg #[string nm,slice A n c],slice D n3 c3] w (bO w (bool b)):=by subst d;exact acx nm e A n c ms D n3 c3 l w f a
def Ya (A n c ses nm) (g0:nm.size<=9223372036854775807) (MA Mn Mc ms t window) (f7:t<=9223372036854775807) (w) (d2:cU w w A n c ses) (g:cQ w w MA Mn Mc ms):
 Calls prog 210 #[slice A n c,agg #[string nm,slice MA Mn Mc],int .i64 t,int .i64 window] w λe w'=> ∃A' n' c' a,e= .returned (slice A' n' c')/\gH w' w' A' n' c' a/\a.map Fo.val=oT (ap.aD (ses.map Se.val)) nm ms t window/\az w w':=by
 let⟨g4,g3⟩:=aq d2 g;clear d2 g;let⟨e',g5,f1,e4,g9⟩:=info_parts Dk;go_enter func210,ntmps210;go_wp2_with fail
 refine yB λe1 b6 M f4=>?_;refine(Gf A n c ses e1 (g4.later M)).mono ?_;rintro e m ⟨h1,O,c1,h2,rfl,R,Q,-,b5⟩;have D:=b5;have h6:=R.Hl Q;have h5:=R.len;let⟨cs,Y⟩:=xR (ap.aD (ses.map Se.val));rw[Y]at Q;let⟨e9,c0,b',e8,f3,f5⟩:=dN Y R Q ((g3.later M).later D) (bC D (b6.cell 0)) (bC D (b6.cell 1));have h3:=dS f4 D.size;clear R Q Y b5;go_wp2;go_loopw[9,17] (λv i wr=> ∃ (k:Nat) (a:List Fo),k<=O/\i=k/\wr.ownsRow m 304 3 v a.length (a.flatMap oh)/\a.length<=k/\a.map Fo.val=oT (cs.take k) nm ms t window/\(∀f∈a,tD m m f)/\az m wr) (λ_ i _=>O- (intOf i).toNat);case atStart=>exact⟨0,[],oy,rfl,World.ownsRow_nil _ _ _ _,iy,rfl,λf p=>absurd p iy,aN⟩
 case round=>obtain⟨k,a,h7,rfl,b9,h9,a8,d5,b⟩:=hrel;let⟨a',V,J⟩:=aM b9 a8 d5;clear b9 a8 d5;by_cases f8:k<O;{obtain⟨E,o⟩:=xS (k+1);refine pP λz=>?_;have d:=hJ o;let⟨h0,h4,s,f0,g',b4,c5,d9,d3⟩:=c0.at_ f8;(have a6:cs[k]?=some s.val:=by rw[<-b'.o,dw,b4];rfl);have d7:=hJ (aaZ a6 nm ms t window);have a7:=bC b d9;have d4:=bC b d3;have W:=hJ c5;have F:=bC b f3;have B:=bC b f5;simp at F B;have a1:=af.new wr 107 #[slice s.LA s.Ln s.Lc,slice s.SA s.Sn s.Sc];have e5:=b.alloc b.size (.cells #[slice s.LA s.Ln s.Lc,slice s.SA s.Sn s.Sc] 107);have f6:wr<(wr.alloc (.cells #[slice s.LA s.Ln s.Lc,slice s.SA s.Sn s.Sc] 107)).heap.size:=iy;have a2:=a'.alloc (.cells #[slice s.LA s.Ln s.Lc,slice s.SA s.Sn s.Sc] 107);let⟨y,N⟩:=bE a1.a;have d1:(wr.alloc (.cells #[slice s.LA s.Ln s.Lc,slice s.SA s.Sn s.Sc] 107)).cell? (an w 0)=(nm:ai):=(World.cell?_alloc_some wr _ _ (by rw[F];rfl)).trans F;have b8:(wr.alloc (.cells #[slice s.LA s.Ln s.Lc,slice s.SA s.Sn s.Sc] 107)).cell? (an w 1)=some (slice MA Mn Mc):=(World.cell?_alloc_some wr _ _ (by rw[B];rfl)).trans B;let⟨d6,c8⟩:=xR (aj.fits nm ms s.ls);have K:=hJ c8;subst f0;clear o b4 c5 d9 d3 a6 c8;(go_wp2_with fail);refine mB (afH nm g0 MA Mn Mc ms s.LA s.Ln s.Lc s.ls d6 K.o _ ((e8.o.later b).later (aN.alloc ny _)) ((W.o.1.later b).later (aN.alloc ny _))) λe7 r=>?_;have c9:=bU e5 r;have L:=eU a2 r;have y:=bC r y;have N:=bC r N;have e3:=dS f6 r.size;cases d6;{let⟨I,a3⟩:=aq (show ap.hit nm ms t window s.val=none by unfold ap.hit;rw[aG (by unfold Se.val;rw[K.o];decide)]) L;clear a2 L r y N d1 b8 a1 a7 d4 F B;go_wp2;go_roundw;(case rel=>refine⟨E,a,?_,rfl,a3,?_,?_,J,c9⟩;{rw[d.o];omega};{rw[d.o];omega};exact OQ);case measure=>have:=d.o;simp[intOf];omega};let⟨a3,f9⟩:=aq L (((W.2.later b).later (aN.alloc ny _)).later r);clear a2 L d1 b8 a1 a7 d4 F B;(go_wp2_with fail);have a5:=dX.aha s.SA s.Sn s.Sc s.ss t window e7 f7 f9.o;refine mB a5 λZ G=>?_;clear a5;have C:=bU c9 G;obtain⟨⟨x,e0⟩,S⟩: ∃q,kh s.ss t window=q:=⟨_,rfl⟩;rw[S];have X:=hJ S;have y:=bC G y;have h8:=dS e3 G.size;have b1:=hJ (eU a3 G);clear S N;cases e0;{have I:=hJ (show ap.hit nm ms t window s.val=none by unfold ap.hit;rw[aK (by unfold Se.val;rw[K.o]),aG (by show ¬(kh s.ss t window).2=true;rw[X.o];exact Bool.false_ne_true)]);go_wp2;go_roundw;(case rel=>refine⟨E,a,?_,rfl,b1.alloc _,?_,?_,J,C.alloc C.size _⟩;{rw[d.o];omega};{rw[d.o];omega};exact OQ);case measure=>have:=d.o;simp[intOf];omega};have I:=hJ (show ap.hit nm ms t window s.val=some (s.ls,x)by unfold ap.hit;rw[aK (by unfold Se.val;rw[K.o]),aK (by show(kh s.ss t window).2=true;rw[X.o])];show some (s.ls,(kh s.ss t window).1)=_;rw[X.o]);let⟨a0,u⟩:=xR ((Z.alloc (.cells #[x.1,x.2] 49)).alloc (.cells #[slice s.LA s.Ln s.Lc,x.1,x.2] 304));(have c6:a0.ownsRow m 304 3 u9 a.length (a.flatMap oh):=by rw[<-u];exact(b1.alloc _).alloc _);(have d8:az m a0:=by rw[<-u];exact(C.alloc C.size _).alloc (cK C.size iy) _);(have b2: ∀ (j:Nat) (H:ai),[Value.slice s.LA s.Ln s.Lc,x.1,x.2][j]?=some H->a0.cell? (((an (Z+1) 0):ak).add j)=some H:=by intro j H l;rw[<-u];match j,l with|0,l=>(simp at l;subst l;simp[Addr.add])|1,l=>(simp at l;subst l;simp[Addr.add])|2,l=>(simp at l;subst l;simp[Addr.add]));let⟨b0,e2,a4,f'⟩:=bJ c6 b2 d8 u;clear c6 b2 d8 u;(go_wp2_with(first |(at_builtin;rw[f'.o];refine wpList_append_own _ rfl (.tmp 35) (.tmp 40) 258 rfl m 304 e' _ 3 40 underlying258 g5 f1 e4 g9 rfl dy _ _ _ rfl b0 (an (Z+1) 0) 1 1 [slice s.LA s.Ln s.Lc,x.1,x.2] rfl rfl e2 ?c2 ?c3 ?c4 a4.size ?_)));(case c2=>intro H a9;simp at a9;obtain rfl|rfl|rfl:=a9<;>rfl);(case c3=>unfold maxLen;omega);(case c4=>omega);intro g6 e6 d0 c7 g1;have f2:=a4.grown c7 a4.size (λk e=>(b0.lt k e).1);obtain⟨fo,U⟩: ∃f:Fo,f=⟨s.LA,s.Ln,s.Lc,s.ls,x⟩:=⟨_,rfl⟩;(have b3:e6.ownsRow m 304 3 g6 (a++[fo]).length ((a++[fo]).flatMap oh):=by rw[eX,bu,U];exact d0);let⟨g2,d'⟩:=aq b3 U;clear d0 b3 U c7 g1;go_wp2;go_roundw;(case rel=>refine⟨E,a++[fo],?_,rfl,g2,?_,?_,?_,f2⟩;{rw[d.o];omega};{rw[d.o,bu];simp;omega};{rw[d.o,d7.o,I.o,<-V.o,ir,d'.o];rfl};intro f p;rw[eQ,fS]at p;obtain p|rfl:=p;{exact J f p};rw[d'.o];exact W.1);case measure=>have:=d.o;simp[intOf];omega};have b7:k=O:=oy;have g7:=hJ b7;clear b7;go_wp2;go_ret;obtain⟨A',c',rfl,g8⟩:=aA.dV wN dy a';refine⟨A',a.length,c',a,rfl,⟨g8,λf p=>(J f p).later b⟩,?_,M.trans ((bU D b).mono M.size)⟩;have:=c0.len;rw[V.o,e9.o,g7.o,dE (by rw[<-b'.o,cC];omega)]
section
def acE (w a b c d):(Op.equalIn 10000 69 (agg #[string a,string b]) (agg #[string c,string d])).run prog w= .ok (a.toList==c.toList&&b.toList==d.toList) w:=by have j:=underlying9;have k:=isAgg9;have i:=sizeOf9;have f:prog.underlying 69=some (.struct (prog.fieldsOf 69)):=ry;have h:prog.stoodInHeld 69=false:=ry;rw[show(10000:Nat)=9999+1 from rfl,run_equalIn_agg w 9999 69 _ _ f h];simp only[Program.fieldsOf,underlying69];go_simp;by_cases e:a.toList=c.toList<;>by_cases g:b.toList=d.toList<;>simp[e,g]
def agv (w a b c d):(binOp .neq 69 (agg #[string a,string b]) (agg #[string c,string d])).run prog w= .ok (bool (!(a.toList==c.toList&&b.toList==d.toList))) w:=by rw[run_neq_struct,acE];rfl
def aaG (w) (op:BinOp) (x y xs ys):(eqGuard op 69 x y (agg xs) (agg ys)).run prog w= .ok () w:=run_eqGuard_agg w op _ x y xs ys ry
attribute [local go_sem↓] agv aaG
theorem toList_inj {a b:au} (c:a.toList=b.toList):a=b:=by rw[ByteArray.toList_eq,ByteArray.toList_eq]at c;cases a;cases b;simp_all
theorem agy {p q:Pr}:((p.1.toList==q.1.toList&&p.2.toList==q.2.toList))↔p=q:=by rw[cm,beq_iff_eq,beq_iff_eq];grind[toList_inj]
def JA {F4:Type} {xs ys:List F4} {k:Nat} {p q:F4} (c:xs.take k=ys.take k) (a:xs[k]?=some p) (b:ys[k]?=some q) (e:p=q):xs.take (k+1)=ys.take (k+1):=by rw[gK,gK,c,a,b,e]
theorem MO {F4:Type} {xs ys:List F4} {k:Nat} {p q:F4} (a:xs[k]?=some p) (b:ys[k]?=some q) (e:p≠q):xs≠ys:=by grind
def abl (A D n c m d xs ys w) (a:aH w w A n c xs) (g:aH w w D m d ys):
 Calls prog 30 #[slice A n c,slice D m d] w (bO w (bool (decide (xs=ys)))):=by let⟨t,s⟩:=aq a.len g.len;have X:=cK a.1.2.1 a.1.2.2.1;by_cases H:n=m;{subst H;have J:((n:Int) !=(n:Int))=false:=iy;go_enter func30,ntmps30;go_wp2;go_loopw[5] (λi wr=> ∃k:Nat,k<=n/\i=k/\xs.take k=ys.take k/\az w wr) (λi _=>n- (intOf i).toNat);(case atStart=>exact⟨0,dR _,rfl,rfl,aN⟩);case round=>obtain⟨k,Y,rfl,u,f⟩:=hrel;by_cases j:k<n;{obtain⟨b,R,rfl,M,E⟩:=a.at_ j;obtain⟨L,V,rfl,O,B⟩:=g.at_ j;obtain⟨p,o⟩: ∃p,xs[k]?=some p:=⟨_,br (by rw[t.o];exact j)⟩;obtain⟨q,l⟩: ∃q,ys[k]?=some q:=⟨_,br (by rw[s.o];exact j)⟩;let⟨y,x⟩:=p;let⟨r,v⟩:=q;have T:=bC f (E k _ o).1;have Q:=bC f (E k _ o).2;have U:=bC f (B k _ l).1;have N:=bC f (B k _ l).2;let⟨G,I,z⟩:=aM (JA u o l) (MO o l) (agy (p:=(y,x)) (q:=(r,v)));have W:(0:Int)<=k:=oy;have S:k<(n:Int):=oy;go_wp2;go_quiet (fail);go_wp2;{have F:(!y.toList==r.toList)\/(!x.toList==v.toList):=im;go_ret;refine⟨dX.gw (bj (I.o λe=>?_)).symm,ly⟩;have:=z.o.2 e;rw[cm]at this;rw[this.1,this.2]at F;obtain a|a:=F<;>cases a};have C:(!y.toList==r.toList)=false/\(!x.toList==v.toList)=false:=im;have K:=z.o.1 (by rw[cm];exact⟨by simpa using C.1,by simpa using C.2⟩);go_roundw;(case rel=>exact⟨k+1,oy,bh,G.o K,ly⟩);case measure=>exact cn};obtain rfl:k=n:=oy;go_wp2;go_ret;rw[dE (aR t.o),dE (aR s.o)]at u;exact⟨dX.gw (bG u).symm,f⟩};have J:((n:Int) !=(m:Int)):=uy;go_enter func30,ntmps30;go_wp2;go_ret;exact⟨dX.gw (bj (by rintro rfl;have:=t.o;have:=s.o;omega)).symm,aN⟩
end
def ul (A D n c m d xs ys b) (a:decide (xs=ys)=b) (w) (e:aH w w A n c xs) (g:aH w w D m d ys):
 Calls prog 30 #[slice A n c,slice D m d] w (bO w (bool b)):=by subst a;exact abl A D n c m d xs ys w e g
def aaI (A D n c m d xs ys b) (a:decide (xs=ys)=b) (w) (e:dX.cP w w A n c xs) (g:dX.cP w w D m d ys):
 Calls prog 31 #[slice A n c,slice D m d] w (bO w (bool b)):=by subst a;exact dX.adH A D n c m d xs ys w e g
def Ia (A D n c m d xs ys w) (b:cU w w A n c xs) (g:cU w w D m d ys):
 Calls prog 14 #[slice A n c,slice D m d] w (bO w (bool (decide (xs.map Se.val=ys.map Se.val)))):=by let⟨Y,O⟩:=aq b.len g.len;have b':=cK b.cap.1 b.cap.2;by_cases b0:n=m;{subst b0;have b3:((n:Int) !=(n:Int))=false:=iy;let⟨a',a9⟩:=aq b g;clear b g;go_enter func14,ntmps14;go_wp2;go_loopw[5] (λi wr=> ∃k:Nat,k<=n/\i=k/\(xs.map Se.val).take k=(ys.map Se.val).take k/\az w wr) (λi _=>n- (intOf i).toNat);(case atStart=>exact⟨0,dR _,rfl,rfl,aN⟩);case round=>obtain⟨k,c0,rfl,j,a⟩:=hrel;by_cases R:k<n;{obtain⟨E,o⟩:=xS (k+1);refine pP λz=>?_;have r:=hJ o;let⟨b4,b8,s,b2,G,I,a5,a3,J⟩:=a'.at_ R;let⟨b7,b5,t,a8,H,L,hit,a1,V⟩:=a9.at_ R;let⟨M,W⟩:=aq (bC a a3) (bC a a1);refine oF λB F=>?_;let⟨U,X,a4,a6⟩:=bJ (bC a J) (bC a V) ((a5.below a).more a.size) ((hit.below a).more a.size);(have v:(xs.map Se.val)[k]?=some s.val:=by rw[dw,I];rfl);(have p:(ys.map Se.val)[k]?=some t.val:=by rw[dw,L];rfl);let⟨a7,Z⟩:=aq (JA j v p) (MO v p);refine vR λu C=>?_;let⟨a2,S⟩:=xR (decide (s.ls=t.ls));let⟨y,N⟩:=xR (decide (s.ss=t.ss));let⟨q,l⟩:=aq S N;subst b2 a8;clear j o I L a5 hit a3 J a1 V v p S N;go_wp2;refine OP λhH K f=>?_;refine mB (ul s.LA t.LA s.Ln s.Lc t.Ln t.Lc s.ls t.ls a2 q _ (a4.1.later hH) (a6.1.later hH)) λb9 x=>?_;refine qe λhH=>?_;cases a2;{skip;refine ts [11,12] ?_;refine vP ?_;refine DN ?_;refine cw 20 ?_;refine cw 21 ?_;refine cw 22 ?_;refine cw 23 ?_;refine cw 24 ?_;refine te [25] ?_;go_wp2;go_ret;refine⟨dX.gw (bj (Z λe=>of_decide_eq_false q (congrArg Prod.fst e))).symm,bU a hH⟩};skip;refine NP ?_;refine aV 23 λK f=>?_;go_simp;refine mB (aaI s.SA t.SA s.Sn s.Sc t.Sn t.Sc s.ss t.ss y l _ (a4.2.later hH) (a6.2.later hH)) λb6 b1=>?_;show K _ _;refine be f (bU hH b1) λhH=>?_;refine te [24,25] ?_;cases y;{go_wp2;go_ret;refine⟨dX.gw (bj (Z λe=>of_decide_eq_false l (congrArg Prod.snd e))).symm,bU a hH⟩};go_wp2;go_roundw;(case rel=>exact⟨E,aR r.o,rfl,by rw[r.o];exact a7 (Prod.ext (mT q) (mT l)),bU a hH⟩);case measure=>have:=r.o;simp[intOf];omega};obtain rfl:k=n:=oy;go_wp2;go_ret;rw[dE (by rw[cC];have:=Y.o;omega),dE (by rw[cC];have:=O.o;omega)]at j;exact⟨dX.gw (bG j).symm,a⟩};have b3:((n:Int) !=(m:Int)):=uy;go_enter func14,ntmps14;go_wp2;go_ret;exact⟨dX.gw (bj (λe=>by have:=congrArg length e;rw[cC,cC]at this;have:=Y.o;have:=O.o;omega)).symm,aN⟩
namespace ap
def Bf (e f:E):Prop:=aa.cmpL (aa.aD e.1) (aa.aD f.1)<0
def Ip {es:List E} (d:ar es):es.Pairwise Bf:=by rw[pairwise_iff_getElem];intro i j a c b;exact DL d b (br a) (br c)
def Ig {es:List E} (d:es.length<=32) (c: ∀e∈es,jy e) (b:es.Pairwise Bf):ar es:=by unfold ar;rw[cm];refine⟨bG d,fa.2 λi a=>?_⟩;rw[gY (br a),c _ (getElem_mem a),Bool.true_and];cases i with|zero=>rfl|succ k=>(rw[nW (br (oy:k<es.length))];exact bG (pairwise_iff_getElem.1 b k (k+1) oy a oy))
theorem pF {es:List E} (c:ar es): ∀e∈es,jy e:=by intro e b;let⟨i,a⟩:=mem_iff_getElem?.1 b;exact Ds c a
theorem Yb {es:List E} {l:List Pr} (c:nL es l p): ∀e∈es.take p,aa.cmpL (aa.aD e.1) l<0:=by intro e b;obtain⟨i,a,rfl⟩:=mem_iff_getElem.1 b;rw[et]at a;rw[getElem_take];have:=c.lo i oy;rw[og (br (oy:i<es.length))]at this;grind[qx]
def XJ {es:List E} {l:List Pr} (f:ar es) (c:nL es l p) (g:there es l p=false): ∀e∈es.drop p,aa.cmpL l (aa.aD e.1)<0:=by intro e h;obtain⟨i,d,rfl⟩:=mem_iff_getElem.1 h;rw[gJ]at d;rw[getElem_drop];have a:p<es.length:=oy;have j:=c.hi p ny a;rw[Lj a,re]at g;have b:kr es l p<0:=oy;rw[og (br a)]at b;cases i with|zero=>exact b|succ k=>exact jh.trans _ _ _ b (DL f (oy:p<p+(k+1)) (br a) (br oy))
theorem tR {l:List Pr} (a:named l):aa.aD l=l:=by grind[named,aa.aD]
theorem abZ {es:List E} {l:List Pr} {s:List (Int×Int)} (i:ar es) (k:jy (l,s)) (g:nL es (aa.aD l) p) (j:there es (aa.aD l) p=false) (m:es.length<32):ar (nJ es p (l,s)):=by have c:=Ip i;rw[<-take_append_drop p es]at c;rw[pairwise_append]at c;refine Ig ?_ ?_ ?_;{grind[bu,et,gJ,cH,fQ,nJ]};{intro e d;unfold nJ at d;simp only[eQ,fI,not_mem_nil,or_false]at d;grind[pF]};unfold nJ;rw[ed,pairwise_append];refine⟨c.1,?_,?_⟩;{rw[singleton_append,pairwise_cons];exact⟨λe d=>XJ i g j e d,c.2.1⟩};intro a h b f;rw[singleton_append,fI]at f;obtain rfl|f:=f;{exact Yb g a h};exact c.2.2 a h b f
theorem agA {es:List E} (a:p<=es.length) (e):(nJ es p e)[p]?=some e:=by grind[nJ]
end ap
def aQ.aar {y:List (Int×Int)} {s:List (Int×Int)} (hy:aQ.ar y) (a:aQ.append y x=(s,0)):s=aQ.kept y++[x]/\aQ.ar s/\aQ.bS x.1/\fh x.2:=by obtain⟨b,_⟩|⟨b,_⟩|⟨b,d,c,e⟩:=Vs (x:=x) hy;{rw[b]at a;cases a};{rw[b]at a;cases a};rw[b]at a;cases a;exact⟨rfl,(ahS hy d c e).1,d,c⟩
namespace ap
theorem Li {e:E} (a:jy e):named e.1/\e.2≠ []/\aQ.ar e.2:=by grind[jy]
theorem ahD {l:List Pr} {s:List (Int×Int)} (c:named l) (b:s≠ []) (a:aQ.ar s):jy (l,s):=by grind[jy]
def adJ {es:List E} {l:List Pr} (d:ar es) (g:named l) (a:there es l p): ∃s,es[p]?=some (l,s):=by unfold there at a;rcases b:es[p]? with _|e;{rw[b]at a;cases a};rw[b]at a;(have f:aa.cmpL l (aa.aD e.1)=0:=by simpa using a);have c:=(jh.eq _ _).1 f;rw[tR (Li (Ds d b)).1]at c;exact⟨e.2,by rw[c]⟩
def Yp {es:List E} (a:ar es) (l p):aQ.ar (kt es l p):=by unfold kt;split;{rcases b:es[p]? with _|e;{rfl};exact(Li (Ds a b)).2.2};rfl
theorem adg {es:List E} {l:List Pr} {J1 s:List (Int×Int)} (d:ar es) (k:es[p]?=some (l,J1)) (j:jy (l,s)):ar (es.set p (l,s)):=by
 have i:(es.set p (l,s)).map (·.1)=es.map (·.1):=by exact QJ
 have g:=Ip d;refine Ig (by rw[length_set];exact pr d) ?_ ?_;{grind[mem_or_eq_of_mem_set,pF]};have c:(es.map (·.1)).Pairwise (λa b=>aa.cmpL (aa.aD a) (aa.aD b)<0):=pairwise_map.2 g;rw[<-i]at c;exact(pairwise_map (f:=λe:E=>e.1) (R:=λa b=>aa.cmpL (aa.aD a) (aa.aD b)<0)).1 c
structure ait (es:List E) (l:List Pr) (x:Int×Int) (a:List E) (p:Nat) (s:List (Int×Int)):Prop where
 named:named l
 ar:ar a
 at_:a[p]?=some (l,s)
 last: ∃ys,s=ys++[x]
 ser:aQ.ar s
 time:aQ.bS x.1
 num:fh x.2
 cut:nL (aD es) l p
 TP:aQ.append (kt (aD es) l p) x=(s,0)
 is:(there (aD es) l p/\a=(aD es).set p (l,s))\/(there (aD es) l p=false/\(aD es).length<32/\a=nJ (aD es) p (l,s))
theorem ahb {es:List E} {l:List Pr} {a:List E} (b:oG es l x (a,0)): ∃p s,ait es l x a p s:=by unfold oG at b;by_cases c:ap.named l;{rw[aK c,tR c]at b;let⟨p,f,b⟩:=b;have e:=ek es;obtain⟨⟨s,o⟩,g⟩: ∃q,aQ.append (kt (aD es) l p) x=q:=⟨_,rfl⟩;unfold yj at b;rw[tR c,g]at b;by_cases r:o=0;{subst r;rw[aG AB]at b;let⟨h,i,m,j⟩:=aar (Yp e l p) g;have k:=ahD c (by rw[h];simp) i;cases d:there (aD es) l p;{rw[d,aG dy]at b;by_cases u:32<=(aD es).length;{grind};rw[aG u]at b;cases b;exact⟨p,s,c,abZ e k (by rw[tR c];exact f) (by rw[tR c];exact d) oy,agA f.le _,⟨_,h⟩,i,m,j,f,g,.inr ⟨d,oy,rfl⟩⟩};rw[d,aK rfl]at b;injection b with b _;let⟨v,n⟩:=adJ e c d;(have t:yI (aD es) p s=(aD es).set p (l,s):=by unfold yI;rw[n];rfl);rw[t]at b;subst b;refine⟨p,s,c,adg e n k,?_,⟨_,h⟩,i,m,j,f,g,.inl ⟨d,rfl⟩⟩;grind};grind};rw[aG c]at b;cases b
end ap
namespace Lex
def oB (c:aU):Bool:=c==32||c==9||c==13||c==10
def letter (c:aU):Bool:=(decide (97<=c)&&decide (c<=122))||(decide (65<=c)&&decide (c<=90))||c==95
def digit (c:aU):Bool:=decide (48<=c)&&decide (c<=57)
def skip:Bool->Bs->Bs
 |_,[]=>[]
 |true,c::l=>if c=10 then skip false l else skip true l
 |false,c::l=>if oB c then skip false l else if c=35 then skip true l else c::l
def yK:Bs:=[61,33,60,62]
def sX:Bs:=[123,125,40,41,44,58,59,61,60,62]
def py (p:aU->Bool):Bs->Bool
 |[]=>false
 |d::_=>p d
def ik (c:aU) (l:Bs):Nat×Nat:=
 if letter c then(1,0)else
 if digit c||(c==45&&py digit l)then(2,0)else
 if c==34 then(3,0)else
 if yK.contains c&&py (· ==61) l then(4,2)else
 if sX.contains c then(4,1)else(0,0)
def goes (a:Bool) (c:aU):Bool:=letter c||digit c||(a&&c==46)
def text:Bs->Nat->Except (Nat×Int) (Bs×Bs)
 |[],_=> .error (0,12)
 |c::l,i=>
  if c=34 then .ok ([],l)else
  if c=10 then .error (0,12)else
  if c=92 then
   match l with
   |[]=> .error (0,12)
   |d::a=>if d=92\/d=34 then(text a (i+2)).map (λr=>(d::r.1,r.2))else if d=110 then(text a (i+2)).map (λr=>(10::r.1,r.2))else .error (i,1)
  else(text l (i+1)).map (λr=>(c::r.1,r.2))
structure Tok where
 k:Nat
 at_:Nat
 s:Bs
def one (c:aU) (l:Bs):Except (Nat×Int) (Nat×Bs×Bs):=
 match ik c l with
 |(1,_)=> .ok (1,c::l.takeWhile (goes false),l.dropWhile (goes false))
 |(2,_)=> .ok (2,c::l.takeWhile (goes true),l.dropWhile (goes true))
 |(3,_)=>(text l 1).map (λr=>(3,r.1,r.2))
 |(0,_)=> .error (0,1)
 |(k,n)=> .ok (k,(c::l).take n,(c::l).drop n)
def all:Nat->Bs->Nat->List Tok×Nat×Int
 |0,_,n=>([],n,0)
 |f+1,l,n=>
  match skip false l with
  |[]=>([],n,0)
  |c::r=>
   match one c r with
   | .error (m,e)=>([],n- (r.length+1)+m,e)
   | .ok (k,p,a)=>(⟨k,n- (r.length+1),p⟩::(all f a n).1,(all f a n).2)
def fX:Bs->Bs
 |[]=>[]
 |c::l=>if c=92\/c=34 then 92::c::fX l else if c=10 then 92::110::fX l else c::fX l
def quote (s:Bs):Bs:=34::(fX s++[34])
def ou (k:Nat) (s:Bs):Bs:=if k=3 then quote s else s
def bare (l:List Tok):List (Nat×Bs):=l.map λt=>(t.k,t.s)
def DK:List (Nat×Bs)->Bs
 |[]=>[]
 |(k,s)::a=>32::(ou k s++DK a)
def join:List (Nat×Bs)->Bs
 |[]=>[]
 |(k,s)::a=>ou k s++DK a
theorem Co (b l):(skip b l).length<=l.length:=by induction l generalizing b with|nil=>(cases b<;>simp[skip])|cons c l ih=>(unfold skip;grind)
theorem adt (n): ∀ (l:Bs) (i:Nat) (p r:Bs),l.length<=n->text l i= .ok (p,r)->(fX p).length+1+r.length<=l.length:=by induction n with|zero=>grind[text]|succ n ih=>(intro l i p r j a;cases l with|nil=>(unfold text at a;cases a)|cons c l=>(simp only[cH]at j⊢;unfold text at a;by_cases o:c=34;{grind[fX]};rw[aG o]at a;by_cases k:c=10;{rw[aK k]at a;cases a};rw[aG k]at a;by_cases h:c=92;{rw[aK h]at a;cases l with|nil=>cases a|cons d l=>(simp only[cH]at j⊢;simp only at a;by_cases f:d=92\/d=34;{rw[aK f]at a;cases b:text l (i+2)with|error e=>(rw[b]at a;cases a)|ok v=>(let⟨q,m⟩:=v;exact Rw)};rw[aG f]at a;by_cases g:d=110;{rw[aK g]at a;cases b:text l (i+2)with|error e=>(rw[b]at a;cases a)|ok v=>(let⟨q,m⟩:=v;rw[b]at a;injection a with a;grind[cH,fX])};rw[aG g]at a;cases a)};rw[aG h]at a;cases b:text l (i+1)with|error e=>(rw[b]at a;cases a)|ok v=>(let⟨q,m⟩:=v;exact Rw)))
theorem BQ (p:aU->Bool) (l:Bs):(l.takeWhile p).length+(l.dropWhile p).length=l.length:=by rw[<-bu,takeWhile_append_dropWhile]
theorem uB {p:Bs} {k:Nat} (a:one c l= .ok (k,p,r)):(ou k p).length+r.length<=l.length+1/\r.length<=l.length:=by unfold one at a;split at a;{grind[ou,BQ]};{grind[ou,BQ]};{cases b:text l 1 with|error e=>(rw[b]at a;cases a)|ok v=>(obtain⟨q,d⟩:=v;rw[b]at a;refine vT λh a g f=>?_;subst h g f;have:=adt _ l 1 q d ny b;grind[ou,quote])};{cases a};grind[ou,ik]
def tl:List Tok->Nat
 |[]=>0
 |t::a=>(ou t.k t.s).length+tl a
theorem afi (f l N):tl (all f l N).1<=l.length/\(all f l N).1.length<=l.length:=by induction f generalizing l with|zero=>exact⟨dR _,dR _⟩|succ f ih=>(unfold all;have a:=Co false l;cases d:skip false l with|nil=>exact⟨dR _,dR _⟩|cons c r=>(rw[d,cH]at a;simp only;cases b:one c r with|error e=>exact⟨dR _,dR _⟩|ok v=>(let⟨k,p,g⟩:=v;have:=uB b;grind[tl,cH])))
theorem acZ (f g l N) (m:l.length<f) (j:l.length<g):all f l N=all g l N:=by induction f generalizing l g with|zero=>omega|succ f ih=>(obtain⟨g,rfl⟩: ∃b,g=b+1:=⟨g-1,oy⟩;unfold all;have h:=Co false l;cases d:skip false l with|nil=>rfl|cons c r=>(rw[d,cH]at h;simp only;cases a:one c r with|error e=>rfl|ok v=>(let⟨k,p,i⟩:=v;have:=uB a;grind)))
theorem ye (c l):skip true (c::l)=if c=10 then skip false l else skip true l:=rfl
theorem sB (c l):skip false (c::l)=if oB c then skip false l else if c=35 then skip true l else c::l:=rfl
theorem ade (n): ∀ (l:Bs) (i m:Nat) (e:Int),l.length<=n->text l i= .error (m,e)->(e=12/\m=0)\/(e=1/\i<=m/\m<i+l.length):=by induction n with|zero=>grind[text]|succ n ih=>(intro l i m e k a;cases l with|nil=>(unfold text at a;injection a with a;injection a with b g;exact .inl ⟨g.symm,b.symm⟩)|cons c l=>(simp only[cH]at k⊢;unfold text at a;by_cases b:c=34;{rw[aK b]at a;cases a};rw[aG b]at a;by_cases g:c=10;{grind};rw[aG g]at a;by_cases j:c=92;{rw[aK j]at a;cases l with|nil=>(injection a with a;injection a with b g;exact .inl ⟨g.symm,b.symm⟩)|cons d l=>(simp only[cH]at k⊢;simp only at a;by_cases h:d=92\/d=34;{rw[aK h]at a;exact Th};rw[aG h]at a;by_cases o:d=110;{rw[aK o]at a;exact Th};grind)};rw[aG j]at a;cases f:text l (i+1)with|ok v=>(rw[f]at a;cases a)|error v=>(rw[f]at a;injection a with a;grind)))
theorem wP {k:Nat} (a:ik c l=(k,n)) (i:k≠0) (j:k≠1) (f:k≠2) (g:k≠3):k=4/\1<=n/\n<=(c::l).length:=by unfold ik at a;split at a;{grind};split at a;{grind};split at a;{grind};split at a;{rename_i b;injection a with e h;cases l with|nil=>simp[py]at b|cons d l=>(simp;omega)};grind
theorem aeP (n): ∀ (l:Bs) (i:Nat) (p r:Bs),l.length<=n->text l i= .ok (p,r)-> ∃d,l=d++r:=by induction n with|zero=>grind[text]|succ n ih=>(intro l i p r k a;cases l with|nil=>(unfold text at a;cases a)|cons c l=>(simp only[cH]at k;unfold text at a;by_cases f:c=34;{rw[aK f]at a;injection a with a;injection a with t o;exact⟨[c],by rw[o];rfl⟩};rw[aG f]at a;by_cases m:c=10;{rw[aK m]at a;cases a};rw[aG m]at a;by_cases j:c=92;{rw[aK j]at a;cases l with|nil=>cases a|cons d l=>(simp only[cH]at k;simp only at a;by_cases g:d=92\/d=34;{rw[aK g]at a;exact Sx};rw[aG g]at a;by_cases h:d=110;{rw[aK h]at a;exact Sx};rw[aG h]at a;cases a)};rw[aG j]at a;cases b:text l (i+1)with|error e=>(rw[b]at a;cases a)|ok v=>(let⟨q,s⟩:=v;rw[b]at a;injection a with a;grind)))
theorem Le (b l): ∃d,l=d++skip b l:=by induction l generalizing b with|nil=>(exact⟨[],by cases b<;>rfl⟩)|cons c l ih=>(cases b with|true=>(rw[ye];simp_all;grind)|false=>(rw[sB];split;{let⟨d,a⟩:=ih false;grind};split;{let⟨d,a⟩:=ih true;grind};exact⟨[],rfl⟩))
def agi {p:Bs} {k:Nat} (a:one c l= .ok (k,p,r)):(∃d,c::l=d++r)/\1<=k/\k<=4/\(k=3->c=34)/\(k≠3->p≠ []/\c::l=p++r):=by unfold one at a;split at a;{refine vT λh a g f=>?_;subst h g f;(have e:c::l=(c::l.takeWhile (goes false))++l.dropWhile (goes false):=by rw[lu,takeWhile_append_dropWhile]);exact Qq};{refine vT λh a g f=>?_;subst h g f;(have e:c::l=(c::l.takeWhile (goes true))++l.dropWhile (goes true):=by rw[lu,takeWhile_append_dropWhile]);exact Qq};{rename_i x b;cases o:text l 1 with|error e=>(rw[o]at a;cases a)|ok v=>(let⟨q,t⟩:=v;rw[o]at a;refine vT λh a g f=>?_;subst h g f;let⟨d,u⟩:=aeP _ l 1 q t ny o;refine⟨⟨c::d,?_⟩,dy,dy,λ_=>?_,λa=>absurd rfl a⟩;{rw[lu,<-u]};unfold ik at b;by_cases i:letter c;{rw[aK i]at b;injection b with i n;omega};rw[aG i]at b;split at b;{injection b with i n;omega};by_cases j:(c==34);{exact eq_of_beq j};rw[aG j]at b;split at b;{injection b with i n;omega};split at b<;>(injection b with i n;omega))};{cases a};rename_i z n' i n j s b;refine vT λh a g f=>?_;subst h g f;let⟨w,A,y⟩:=wP b s i n j;have e:c::l=(c::l).take n'++(c::l).drop n':=(take_append_drop _ _).symm;refine⟨⟨_,e⟩,oy,oy,λa=>absurd a j,λ_=>⟨?_,e⟩⟩;obtain⟨m,rfl⟩: ∃m,n'=m+1:=⟨n'-1,oy⟩;simp
theorem Cg (b l):skip false (skip b l)=skip b l:=by induction l generalizing b with|nil=>(cases b<;>rfl)|cons c l ih=>(cases b with|true=>grind[ye]|false=>grind[sB])
def LL (f l N):all (f+1) (skip false l) N=all (f+1) l N:=by
 conv=>lhs;unfold all
 conv=>rhs;unfold all
 rw[Cg]
theorem YX {f:Nat} (a:skip false (c::r)=c::r) (b:one c r= .error (m,e)):all (f+1) (c::r) N=([],N- (r.length+1)+m,e):=by grind[all]
def aax {f:Nat} {p:Bs} {k:Nat} (b:skip false (c::r)=c::r) (a:one c r= .ok (k,p,G8)) (e:r.length<f):
 all (f+1) (c::r) N=(⟨k,N- (r.length+1),p⟩::(all (f+1) (skip false G8) N).1,(all (f+1) (skip false G8) N).2):=by
 have d:=uB a;rw[LL,acZ (f+1) f G8 N oy oy];conv=>lhs;unfold all
 rw[b];simp only[a]
def all_nil (f N):all (f+1) [] N=([],N,0):=by unfold all;rfl
theorem VY {k:Nat} (a:ik c l=(k,n)):(k=0\/k=1\/k=2\/k=3\/k=4)/\(k=4->1<=n/\n<=l.length+1):=by refine⟨?_,λb=>?_⟩;{grind[ik]};have:=wP a oy oy oy oy;simpa using this.2
theorem aeI {k:Nat} (a:ik c l=(k,n)):
 (k=0->one c l= .error (0,1))/\(k=1->one c l= .ok (1,c::l.takeWhile (goes false),l.dropWhile (goes false)))/\(k=2->one c l= .ok (2,c::l.takeWhile (goes true),l.dropWhile (goes true)))/\
 (k=3->one c l=(text l 1).map (λr=>(3,r.1,r.2)))/\(k=4->one c l= .ok (4,(c::l).take n,(c::l).drop n)):=by grind[one]
end Lex
end Go.Proofs.YteagjoghhfngoaaGreatDoor
namespace Go.Proofs
open Go.Shelf Tryz YteagjoghhfngoaaGreatDoor
def Tryz.GQ:Go.Shelf.Ren:=⟨fun|169=>235|n=>n,fun|70=>339|9=>9|0=>0|72=>341|37=>34|127=>378|3=>3|5=>5|n=>n,fun|n=>n⟩
def Tryz.afo:Go.Proofs.Lays.n169 prog GQ:={
 mixed:=ry
 f169:=sF func235
 t0:=underlying0
 a0:=isAgg0
 z0:=sizeOf0
 v0:=zeroValue0
 t3:=underlying3
 a3:=isAgg3
 z3:=sizeOf3
 v3:=zeroValue3
 t9:=underlying9
 a9:=isAgg9
 z9:=sizeOf9
 v9:=zeroValue9
 t37:=underlying34
 a37:=isAgg34
 z37:=sizeOf34
 v37:=zeroValue34
 t70:=underlying339
 a70:=isAgg339
 z70:=sizeOf339
 v70:=zeroValue339
 t72:=underlying341
 a72:=isAgg341
 z72:=sizeOf341
 v72:=zeroValue341
 t127:=underlying378
 a127:=isAgg378
 z127:=sizeOf378
 v127:=zeroValue378}
def Tryz.TV:Builder.Extra prog GQ:={
 sizeBuilder:=ry
 liesBuilder:=ry
 t5:=underlying5
 a5:=isAgg5
 z5:=sizeOf5
 v5:=zeroValue5
 infoByte:=ry
 cellsByte:=ry
 sizeByte:=ry
 neB5:=by decide}
open Go.RowKit in
def Tryz.Builder_String_any (B b:Nat) (l:List UInt8) (w:World) (c:Lib.IsBuilder 341 5 B b (Lib.byteCells l) w) (a:B<=w):
 Calls prog 235 #[.pointer (some (b 0))] w λe w'=>e= .returned (.string ⟨l.toArray⟩)/\Below B w w':=Any.Builder_String_any afo Tryz.TV B b l w c a
def Tryz.Xb:Go.Shelf.Ren:=⟨fun|137=>195|217=>224|266=>252|n=>n,fun|9=>9|5=>5|3=>3|n=>n,fun|n=>n⟩
def Tryz.agC:Go.Proofs.Lays.n137 prog Xb:={
 mixed:=ry
 f137:=sF func195
 f217:=sF func224
 f266:=sF func252
 t3:=underlying3
 a3:=isAgg3
 z3:=sizeOf3
 v3:=zeroValue3
 t5:=underlying5
 a5:=isAgg5
 z5:=sizeOf5
 v5:=zeroValue5
 t9:=underlying9
 a9:=isAgg9
 z9:=sizeOf9
 v9:=zeroValue9}
open Go.RowKit in
def Tryz.strings_IndexByte (s:ByteArray) (c:Int) (w:World):
 Calls prog 195 #[s,.int .u8 c] w λe w'=>e= .returned (Lib.indexByte s.data.toList c.toNat.toUInt8)/\w'=w:=Any.strings_IndexByte agC s c w
end Go.Proofs
namespace Go.Proofs
open Go.Shelf Tryz YteagjoghhfngoaaGreatDoor
def Tryz.Vm:Go.Shelf.Ren:=⟨fun|171=>231|243=>263|246=>287|283=>310|284=>311|285=>312|286=>313|129=>93|317=>327|318=>328|319=>329|320=>330|337=>345|338=>346|n=>n,fun|3=>3|9=>9|2=>2|4=>4|171=>423|0=>0|53=>175|37=>34|5=>5|173=>425|212=>437|51=>173|20=>20|213=>438|46=>118|232=>452|233=>453|n=>n,fun|17=>4|18=>7|19=>8|n=>n⟩
def Tryz.acR:Go.Proofs.LaysM.n171 prog Vm:={
 mixed:=ry
 f129:=sF func93
 f171:=sF func231
 f243:=sF func263
 f246:=sF func287
 f283:=sF func310
 f284:=sF func311
 f285:=sF func312
 f286:=sF func313
 f317:=sF func327
 f318:=sF func328
 f319:=sF func329
 f320:=sF func330
 f337:=sF func345
 f338:=sF func346
 t0:=underlying0
 a0:=isAgg0
 z0:=sizeOf0
 v0:=zeroValue0
 t2:=underlying2
 a2:=isAgg2
 z2:=sizeOf2
 v2:=zeroValue2
 t3:=underlying3
 a3:=isAgg3
 z3:=sizeOf3
 v3:=zeroValue3
 t4:=underlying4
 a4:=isAgg4
 z4:=sizeOf4
 v4:=zeroValue4
 t5:=underlying5
 a5:=isAgg5
 z5:=sizeOf5
 v5:=zeroValue5
 t9:=underlying9
 a9:=isAgg9
 z9:=sizeOf9
 v9:=zeroValue9
 t20:=underlying20
 a20:=isAgg20
 z20:=sizeOf20
 v20:=zeroValue20
 t37:=underlying34
 a37:=isAgg34
 z37:=sizeOf34
 v37:=zeroValue34
 t46:=underlying118
 a46:=isAgg118
 z46:=sizeOf118
 v46:=zeroValue118
 t51:=underlying173
 a51:=isAgg173
 z51:=sizeOf173
 v51:=zeroValue173
 t53:=underlying175
 a53:=isAgg175
 z53:=sizeOf175
 v53:=zeroValue175
 t171:=underlying423
 a171:=isAgg423
 z171:=sizeOf423
 v171:=zeroValue423
 t173:=underlying425
 a173:=isAgg425
 z173:=sizeOf425
 v173:=zeroValue425
 t212:=underlying437
 a212:=isAgg437
 z212:=sizeOf437
 v212:=zeroValue437
 t213:=underlying438
 a213:=isAgg438
 z213:=sizeOf438
 t232:=underlying452
 a232:=isAgg452
 z232:=sizeOf452
 v232:=zeroValue452
 t233:=underlying453
 a233:=isAgg453
 z233:=sizeOf453
 v233:=zeroValue453
 g17:=ry
 g18:=ry
 g19:=ry
 i0:=ry
 i2:=ry
 i3:=ry
 i4:=ry
 i5:=ry
 i9:=ry
 i20:=ry
 i37:=ry
 i46:=ry
 i51:=ry
 i53:=ry
 i171:=ry
 i173:=ry
 i212:=ry
 i232:=ry
 i233:=ry
 m17:=ry
 m18:=ry
 m19:=by kernel_rfl}
open Go.RowKit Go.Sort Go.Lib in
def Tryz.strconv_Itoa (n) (c: -9223372036854775808<=n) (a:n<=9223372036854775807) (w) (b:Lib.TabIs prog w "internal/strconv.uint64pow10" .u64 Lib.pow10Tab):
 Calls prog 231 #[.int .i64 n] w λe w'=>e= .returned (.string ⟨(Lib.itoa n).toArray⟩)/\ ∃k os,w'=grow (w.drewN k) os:=Any.strconv_Itoa acR n c a w b
def Tryz.YP:Go.Shelf.Ren:=⟨fun|99=>226|206=>253|n=>n,fun|9=>9|4=>4|3=>3|n=>n,fun|n=>n⟩
def Tryz.ahf:Go.Proofs.Lays.n99 prog YP:={
 mixed:=ry
 f99:=sF func226
 f206:=sF func253
 t3:=underlying3
 a3:=isAgg3
 z3:=sizeOf3
 v3:=zeroValue3
 t4:=underlying4
 a4:=isAgg4
 z4:=sizeOf4
 v4:=zeroValue4
 t9:=underlying9
 a9:=isAgg9
 z9:=sizeOf9
 v9:=zeroValue9}
open Go.RowKit Go.Lib in
def Tryz.strings_HasPrefix (s p w):
 Calls prog 226 #[.string s,.string p] w λe w'=>e= .returned (.bool (Lib.hasPrefix s.data.toList p.data.toList))/\w'=w:=Any.strings_HasPrefix ahf s p w
end Go.Proofs
namespace Go.Proofs
open Go.Shelf Tryz YteagjoghhfngoaaGreatDoor
def Tryz.Xy:Go.Shelf.Ren:=⟨fun|162=>262|232=>283|227=>284|234=>285|236=>286|228=>307|271=>308|151=>309|120=>324|197=>325|152=>326|260=>341|137=>195|119=>342|224=>343|225=>344|217=>224|266=>252|n=>n,fun|9=>9|4=>4|3=>3|5=>5|117=>396|116=>395|0=>0|124=>399|21=>21|105=>420|46=>118|119=>448|139=>451|138=>450|n=>n,fun|3=>5|4=>6|n=>n⟩
def Tryz.agM:Go.Proofs.Lays.n162 prog Xy:={
 mixed:=ry
 f119:=sF func342
 f120:=sF func324
 f137:=sF func195
 f151:=sF func309
 f152:=sF func326
 f162:=sF func262
 f197:=sF func325
 f217:=sF func224
 f224:=sF func343
 f225:=sF func344
 f227:=sF func284
 f228:=sF func307
 f232:=sF func283
 f234:=sF func285
 f236:=sF func286
 f260:=sF func341
 f266:=sF func252
 f271:=sF func308
 t0:=underlying0
 a0:=isAgg0
 z0:=sizeOf0
 v0:=zeroValue0
 t3:=underlying3
 a3:=isAgg3
 z3:=sizeOf3
 v3:=zeroValue3
 t4:=underlying4
 a4:=isAgg4
 z4:=sizeOf4
 v4:=zeroValue4
 t5:=underlying5
 a5:=isAgg5
 z5:=sizeOf5
 v5:=zeroValue5
 t9:=underlying9
 a9:=isAgg9
 z9:=sizeOf9
 v9:=zeroValue9
 t21:=underlying21
 a21:=isAgg21
 z21:=sizeOf21
 v21:=zeroValue21
 t46:=underlying118
 a46:=isAgg118
 z46:=sizeOf118
 v46:=zeroValue118
 t105:=underlying420
 a105:=isAgg420
 z105:=sizeOf420
 v105:=zeroValue420
 t116:=underlying395
 a116:=isAgg395
 z116:=sizeOf395
 t117:=underlying396
 a117:=isAgg396
 z117:=sizeOf396
 v117:=zeroValue396
 t119:=underlying448
 a119:=isAgg448
 z119:=sizeOf448
 t124:=underlying399
 a124:=isAgg399
 z124:=sizeOf399
 v124:=zeroValue399
 t138:=underlying450
 a138:=isAgg450
 z138:=sizeOf450
 v138:=zeroValue450
 t139:=underlying451
 a139:=isAgg451
 z139:=sizeOf451
 v139:=zeroValue451
 g3:=ry
 g4:=by kernel_rfl}
open Go.RowKit in
def Tryz.strings_TrimRight_one (s c) (a:c.toNat<128) (w) (b:s.size<=9223372036854775807):
 Calls prog 262 #[.string s,.string ⟨#[c]⟩] w λe w'=>e= .returned (.string ⟨(Lib.trimRightB s.data.toList c).toArray⟩)/\w'=w:=Any.strings_TrimRight_one agM s c a w b
def Tryz.Xp:Go.Shelf.Ren:=⟨fun|103=>305|210=>323|206=>253|n=>n,fun|9=>9|4=>4|24=>141|3=>3|n=>n,fun|n=>n⟩
def Tryz.afC:Go.Proofs.Lays.n103 prog Xp:={
 mixed:=ry
 f103:=sF func305
 f206:=sF func253
 f210:=sF func323
 t3:=underlying3
 a3:=isAgg3
 z3:=sizeOf3
 v3:=zeroValue3
 t4:=underlying4
 a4:=isAgg4
 z4:=sizeOf4
 v4:=zeroValue4
 t9:=underlying9
 a9:=isAgg9
 z9:=sizeOf9
 v9:=zeroValue9
 t24:=underlying141
 a24:=isAgg141
 z24:=sizeOf141
 v24:=zeroValue141}
open Go.RowKit in
def Tryz.strings_CutPrefix (s p w):
 Calls prog 305 #[.string s,.string p] w λe w'=>e= .returned (.tuple #[.string ⟨(Lib.trimPrefix s.data.toList p.data.toList).toArray⟩,.bool (Lib.hasPrefix s.data.toList p.data.toList)])/\w'=w:=Any.strings_CutPrefix afC s p w
end Go.Proofs
namespace Go.Proofs
open Go.Shelf
def Tryz.Wc:Go.Shelf.Ren:=⟨fun|106=>23|213=>48|265=>94|n=>n,fun|9=>9|3=>3|n=>n,fun|n=>n⟩
def Tryz.afz:Go.Proofs.Lays.n106 Tryz.prog Tryz.Wc:={
 mixed:=by kernel_rfl
 f106:=Tryz.func23.trans (congrArg some (by kernel_rfl))
 f213:=Tryz.func48.trans (congrArg some (by kernel_rfl))
 f265:=Tryz.func94.trans (congrArg some (by kernel_rfl))
 t3:=Tryz.underlying3
 a3:=Tryz.isAgg3
 z3:=Tryz.sizeOf3
 v3:=Tryz.zeroValue3
 t9:=Tryz.underlying9
 a9:=Tryz.isAgg9
 z9:=Tryz.sizeOf9
 v9:=Tryz.zeroValue9}
open Go.RowKit in
def Tryz.strings_Compare (a b:ByteArray) (w:World):
 Calls Tryz.prog 23 #[a,b] w λe w'=>e= .returned (Lib.compareBytes a.data.toList b.data.toList)/\w'=w:=Any.strings_Compare Tryz.afz a b w
end Go.Proofs
namespace Go.Proofs
open Go.Shelf Tryz YteagjoghhfngoaaGreatDoor
def Tryz.aco:Go.Shelf.Ren:=⟨fun|6=>298|15=>47|14=>317|28=>92|29=>93|20=>332|21=>333|22=>334|23=>335|24=>336|25=>337|26=>338|27=>339|46=>347|47=>138|48=>139|49=>348|50=>349|57=>350|n=>n,fun|22=>47|24=>69|25=>182|3=>3|39=>118|0=>0|53=>173|55=>175|4=>4|46=>166|45=>165|50=>170|5=>5|9=>9|66=>226|70=>230|76=>284|77=>235|n=>n,fun|n=>n⟩
def Tryz.Ns:Go.Proofs.SlLaysF0.n6 prog aco:={
 mixed:=ry
 f6:=⟨f298.name,dy,sF func298⟩
 f14:=⟨f317.name,dy,sF func317⟩
 f15:=sF func47
 f20:=⟨f332.name,dy,sF func332⟩
 f21:=⟨f333.name,dy,sF func333⟩
 f22:=⟨f334.name,dy,sF func334⟩
 f23:=⟨f335.name,dy,sF func335⟩
 f24:=⟨f336.name,dy,sF func336⟩
 f25:=⟨f337.name,dy,sF func337⟩
 f26:=⟨f338.name,dy,sF func338⟩
 f27:=⟨f339.name,dy,sF func339⟩
 f28:=sF func92
 f29:=sF func93
 f46:=⟨f347.name,dy,sF func347⟩
 f47:=sF func138
 f48:=sF func139
 f49:=⟨f348.name,dy,sF func348⟩
 f50:=⟨f349.name,dy,sF func349⟩
 f57:=⟨f350.name,dy,sF func350⟩
 t0:=underlying0
 a0:=isAgg0
 z0:=sizeOf0
 v0:=zeroValue0
 t3:=underlying3
 a3:=isAgg3
 z3:=sizeOf3
 v3:=zeroValue3
 t4:=underlying4
 a4:=isAgg4
 z4:=sizeOf4
 v4:=zeroValue4
 t5:=underlying5
 a5:=isAgg5
 z5:=sizeOf5
 v5:=zeroValue5
 t9:=underlying9
 a9:=isAgg9
 z9:=sizeOf9
 v9:=zeroValue9
 t22:=underlying47
 a22:=isAgg47
 z22:=sizeOf47
 v22:=zeroValue47
 t25:=underlying182
 a25:=isAgg182
 z25:=sizeOf182
 v25:=zeroValue182
 t39:=underlying118
 a39:=isAgg118
 z39:=sizeOf118
 v39:=zeroValue118
 t45:=underlying165
 a45:=isAgg165
 z45:=sizeOf165
 v45:=zeroValue165
 t46:=underlying166
 a46:=isAgg166
 z46:=sizeOf166
 v46:=zeroValue166
 t50:=underlying170
 a50:=isAgg170
 z50:=sizeOf170
 v50:=zeroValue170
 t53:=underlying173
 a53:=isAgg173
 z53:=sizeOf173
 v53:=zeroValue173
 t55:=underlying175
 a55:=isAgg175
 z55:=sizeOf175
 v55:=zeroValue175
 t66:=underlying226
 a66:=isAgg226
 z66:=sizeOf226
 v66:=zeroValue226
 t70:=underlying230
 a70:=isAgg230
 z70:=sizeOf230
 v70:=zeroValue230
 t76:=underlying284
 a76:=isAgg284
 z76:=sizeOf284
 v76:=zeroValue284
 t77:=underlying235
 a77:=isAgg235
 z77:=sizeOf235
 v77:=zeroValue235}
def Tryz.aac:Go.Shelf.Ren:=⟨fun|6=>239|15=>47|14=>265|28=>92|29=>93|20=>289|21=>290|22=>291|23=>292|24=>293|25=>294|26=>295|27=>296|46=>314|47=>138|48=>139|49=>315|50=>316|57=>331|n=>n,fun|22=>42|24=>73|25=>353|3=>3|39=>118|0=>0|53=>173|55=>175|4=>4|46=>166|45=>165|50=>170|5=>5|9=>9|66=>226|70=>230|76=>284|77=>235|n=>n,fun|n=>n⟩
def Tryz.NI:Go.Proofs.SlLaysF0.n6 prog aac:={
 mixed:=ry
 f6:=⟨f239.name,dy,sF func239⟩
 f14:=⟨f265.name,dy,sF func265⟩
 f15:=sF func47
 f20:=⟨f289.name,dy,sF func289⟩
 f21:=⟨f290.name,dy,sF func290⟩
 f22:=⟨f291.name,dy,sF func291⟩
 f23:=⟨f292.name,dy,sF func292⟩
 f24:=⟨f293.name,dy,sF func293⟩
 f25:=⟨f294.name,dy,sF func294⟩
 f26:=⟨f295.name,dy,sF func295⟩
 f27:=⟨f296.name,dy,sF func296⟩
 f28:=sF func92
 f29:=sF func93
 f46:=⟨f314.name,dy,sF func314⟩
 f47:=sF func138
 f48:=sF func139
 f49:=⟨f315.name,dy,sF func315⟩
 f50:=⟨f316.name,dy,sF func316⟩
 f57:=⟨f331.name,dy,sF func331⟩
 t0:=underlying0
 a0:=isAgg0
 z0:=sizeOf0
 v0:=zeroValue0
 t3:=underlying3
 a3:=isAgg3
 z3:=sizeOf3
 v3:=zeroValue3
 t4:=underlying4
 a4:=isAgg4
 z4:=sizeOf4
 v4:=zeroValue4
 t5:=underlying5
 a5:=isAgg5
 z5:=sizeOf5
 v5:=zeroValue5
 t9:=underlying9
 a9:=isAgg9
 z9:=sizeOf9
 v9:=zeroValue9
 t22:=underlying42
 a22:=isAgg42
 z22:=sizeOf42
 v22:=zeroValue42
 t25:=underlying353
 a25:=isAgg353
 z25:=sizeOf353
 v25:=zeroValue353
 t39:=underlying118
 a39:=isAgg118
 z39:=sizeOf118
 v39:=zeroValue118
 t45:=underlying165
 a45:=isAgg165
 z45:=sizeOf165
 v45:=zeroValue165
 t46:=underlying166
 a46:=isAgg166
 z46:=sizeOf166
 v46:=zeroValue166
 t50:=underlying170
 a50:=isAgg170
 z50:=sizeOf170
 v50:=zeroValue170
 t53:=underlying173
 a53:=isAgg173
 z53:=sizeOf173
 v53:=zeroValue173
 t55:=underlying175
 a55:=isAgg175
 z55:=sizeOf175
 v55:=zeroValue175
 t66:=underlying226
 a66:=isAgg226
 z66:=sizeOf226
 v66:=zeroValue226
 t70:=underlying230
 a70:=isAgg230
 z70:=sizeOf230
 v70:=zeroValue230
 t76:=underlying284
 a76:=isAgg284
 z76:=sizeOf284
 v76:=zeroValue284
 t77:=underlying235
 a77:=isAgg235
 z77:=sizeOf235
 v77:=zeroValue235}
def Tryz.aca:Go.Shelf.Ren:=⟨fun|6=>20|15=>47|14=>46|28=>92|29=>93|20=>84|21=>85|22=>86|23=>87|24=>88|25=>89|26=>90|27=>91|46=>137|47=>138|48=>139|49=>140|50=>141|57=>188|n=>n,fun|22=>40|24=>58|25=>97|3=>3|39=>118|0=>0|53=>173|55=>175|4=>4|46=>166|45=>165|50=>170|5=>5|9=>9|66=>226|70=>230|76=>284|77=>235|n=>n,fun|n=>n⟩
def Tryz.NH:Go.Proofs.SlLaysF0.n6 prog aca:={
 mixed:=ry
 f6:=⟨f20.name,dy,sF func20⟩
 f14:=⟨f46.name,dy,sF func46⟩
 f15:=sF func47
 f20:=⟨f84.name,dy,sF func84⟩
 f21:=⟨f85.name,dy,sF func85⟩
 f22:=⟨f86.name,dy,sF func86⟩
 f23:=⟨f87.name,dy,sF func87⟩
 f24:=⟨f88.name,dy,sF func88⟩
 f25:=⟨f89.name,dy,sF func89⟩
 f26:=⟨f90.name,dy,sF func90⟩
 f27:=⟨f91.name,dy,sF func91⟩
 f28:=sF func92
 f29:=sF func93
 f46:=⟨f137.name,dy,sF func137⟩
 f47:=sF func138
 f48:=sF func139
 f49:=⟨f140.name,dy,sF func140⟩
 f50:=⟨f141.name,dy,sF func141⟩
 f57:=⟨f188.name,dy,sF func188⟩
 t0:=underlying0
 a0:=isAgg0
 z0:=sizeOf0
 v0:=zeroValue0
 t3:=underlying3
 a3:=isAgg3
 z3:=sizeOf3
 v3:=zeroValue3
 t4:=underlying4
 a4:=isAgg4
 z4:=sizeOf4
 v4:=zeroValue4
 t5:=underlying5
 a5:=isAgg5
 z5:=sizeOf5
 v5:=zeroValue5
 t9:=underlying9
 a9:=isAgg9
 z9:=sizeOf9
 v9:=zeroValue9
 t22:=underlying40
 a22:=isAgg40
 z22:=sizeOf40
 v22:=zeroValue40
 t25:=underlying97
 a25:=isAgg97
 z25:=sizeOf97
 v25:=zeroValue97
 t39:=underlying118
 a39:=isAgg118
 z39:=sizeOf118
 v39:=zeroValue118
 t45:=underlying165
 a45:=isAgg165
 z45:=sizeOf165
 v45:=zeroValue165
 t46:=underlying166
 a46:=isAgg166
 z46:=sizeOf166
 v46:=zeroValue166
 t50:=underlying170
 a50:=isAgg170
 z50:=sizeOf170
 v50:=zeroValue170
 t53:=underlying173
 a53:=isAgg173
 z53:=sizeOf173
 v53:=zeroValue173
 t55:=underlying175
 a55:=isAgg175
 z55:=sizeOf175
 v55:=zeroValue175
 t66:=underlying226
 a66:=isAgg226
 z66:=sizeOf226
 v66:=zeroValue226
 t70:=underlying230
 a70:=isAgg230
 z70:=sizeOf230
 v70:=zeroValue230
 t76:=underlying284
 a76:=isAgg284
 z76:=sizeOf284
 v76:=zeroValue284
 t77:=underlying235
 a77:=isAgg235
 z77:=sizeOf235
 v77:=zeroValue235}
def Tryz.IZ:Go.Shelf.Ren:=⟨fun|6=>215|15=>47|14=>246|28=>92|29=>93|20=>267|21=>268|22=>269|23=>270|24=>271|25=>272|26=>273|27=>274|46=>300|47=>138|48=>139|49=>301|50=>302|57=>318|n=>n,fun|22=>263|24=>47|25=>129|3=>3|39=>118|0=>0|53=>173|55=>175|4=>4|46=>166|45=>165|50=>170|5=>5|9=>9|66=>226|70=>230|76=>284|77=>235|n=>n,fun|n=>n⟩
def Tryz.NC:Go.Proofs.SlLaysF.n6 prog IZ:={
 mixed:=ry
 f6:=⟨f215.name,dy,sF func215⟩
 f14:=⟨f246.name,dy,sF func246⟩
 f15:=sF func47
 f20:=⟨f267.name,dy,sF func267⟩
 f21:=⟨f268.name,dy,sF func268⟩
 f22:=⟨f269.name,dy,sF func269⟩
 f23:=⟨f270.name,dy,sF func270⟩
 f24:=⟨f271.name,dy,sF func271⟩
 f25:=⟨f272.name,dy,sF func272⟩
 f26:=⟨f273.name,dy,sF func273⟩
 f27:=⟨f274.name,dy,sF func274⟩
 f28:=sF func92
 f29:=sF func93
 f46:=⟨f300.name,dy,sF func300⟩
 f47:=sF func138
 f48:=sF func139
 f49:=⟨f301.name,dy,sF func301⟩
 f50:=⟨f302.name,dy,sF func302⟩
 f57:=⟨f318.name,dy,sF func318⟩
 t0:=underlying0
 a0:=isAgg0
 z0:=sizeOf0
 v0:=zeroValue0
 t3:=underlying3
 a3:=isAgg3
 z3:=sizeOf3
 v3:=zeroValue3
 t4:=underlying4
 a4:=isAgg4
 z4:=sizeOf4
 v4:=zeroValue4
 t5:=underlying5
 a5:=isAgg5
 z5:=sizeOf5
 v5:=zeroValue5
 t9:=underlying9
 a9:=isAgg9
 z9:=sizeOf9
 v9:=zeroValue9
 t22:=underlying263
 a22:=isAgg263
 z22:=sizeOf263
 v22:=zeroValue263
 a24:=isAgg47
 z24:=sizeOf47
 t25:=underlying129
 a25:=isAgg129
 z25:=sizeOf129
 v25:=zeroValue129
 t39:=underlying118
 a39:=isAgg118
 z39:=sizeOf118
 v39:=zeroValue118
 t45:=underlying165
 a45:=isAgg165
 z45:=sizeOf165
 v45:=zeroValue165
 t46:=underlying166
 a46:=isAgg166
 z46:=sizeOf166
 v46:=zeroValue166
 t50:=underlying170
 a50:=isAgg170
 z50:=sizeOf170
 v50:=zeroValue170
 t53:=underlying173
 a53:=isAgg173
 z53:=sizeOf173
 v53:=zeroValue173
 t55:=underlying175
 a55:=isAgg175
 z55:=sizeOf175
 v55:=zeroValue175
 t66:=underlying226
 a66:=isAgg226
 z66:=sizeOf226
 v66:=zeroValue226
 t70:=underlying230
 a70:=isAgg230
 z70:=sizeOf230
 v70:=zeroValue230
 t76:=underlying284
 a76:=isAgg284
 z76:=sizeOf284
 v76:=zeroValue284
 t77:=underlying235
 a77:=isAgg235
 z77:=sizeOf235
 v77:=zeroValue235}
end Go.Proofs
namespace Go.Proofs.YteagjoghhfngoaaGreatDoor
open Go.RowKit Tryz Value List Lex Mem aQ aa aj ap fP
variable{B N base g i j m n p sz:Nat} {A F0:ah ak} {W w wr:Wd} {c d:aU} {e:Int} {v:ai} {xs:List ai} {b:Bool} {s t:au} {x:Int×Int} {G8 l r:Bs} {ms:List aj.Mt}
namespace iu
def infoByte:(prog.info? 5).map (λi=>(i.zero,i.size,i.bytes))=some (some (int .u8 0),1,1):=ry
def sizeBuilder:(prog.info? 341).map (·.size)=some 2:=ry
def liesBuilder:liesAt prog prog.depth 341 (2/prog.cellsOf 341) 0 341 1:=ry
abbrev Is (B b:Nat) (bs:List ai) (w:Wd):Prop:=Lib.IsBuilder 341 5 B b bs w
abbrev At (B b:Nat) (bs:List ai) (w:Wd):Prop:=Lib.BuilderAt 341 5 B b (bK b) bs w
abbrev Dx (b:Nat) (w w':Wd):Prop:=Lib.OthersKept 5 (some b) w w'
def Ul (b:Nat) (w:Wd) (c:w.cell? (b 0)=some (bK b)):
 Calls prog 264 #[bK b] w λe w'=>e= .returned (tuple #[])/\w'=w:=by let⟨j,a,_⟩:=Option.map_eq_some_iff.1 sizeBuilder;go_enter func264,ntmps264;go_wp2;rw[Lib.run_neq_ptr_same w _ underlying339 a];go_wp2;go_end0;exact⟨rfl,rfl⟩
def Ua (b:Nat) (w:Wd) (f:w.cell? (b 0)=some (pointer none)) (a:w.shape? b=some (341,2)) (g:w.frozen? (b 0)=false):
 Calls prog 264 #[bK b] w λe w'=>e= .returned (tuple #[])/\w'=w (b 0) (bK b):=by let⟨j,c,d⟩:=Option.map_eq_some_iff.1 sizeBuilder;go_enter func264,ntmps264;go_wp2;rw[Lib.run_to_unsafe w (b 0) underlying339 underlying401 c (by rw[d];decide) a (Nat.zero_lt_succ 1)];refine DQ ?_;go_wp2;rw[run_callFunc_extern func288 ry ry ry (e:=Extern.AbiNoEscape.same) ry];rw[Lib.run_noEscape];refine DQ ?_;go_wp2;rw[Lib.run_from_unsafe w (b 0) underlying401 underlying339 c a liesBuilder];refine DQ ?_;go_wp2;go_end0;exact⟨rfl,rfl⟩
def Gi (B b bs w) (a:Is B b bs w):
 Calls prog 264 #[bK b] w λe w'=>e= .returned (tuple #[])/\At B b bs w'/\Below B w w'/\Dx b w w':=by obtain a|a:=a;{refine(Ua b w a.cell0 a.shape a.frozen0).mono ?_;rintro e w' ⟨rfl,rfl⟩;exact⟨rfl,a.used _,aN.setCell (p:=(b 0)) a.1 _,(Lib.OthersKept.refl _ _ _).setCell (b 0) rfl _⟩};refine(Ul b w a.cell0).mono ?_;rintro e w' ⟨rfl,rfl⟩;exact⟨rfl,a,Below.refl B _,Lib.OthersKept.refl _ _ _⟩
theorem LC (a:w.ownsRow B 5 1 v n xs): ∀g,v.ownBlock=some g-> ∃c d,w.heap[g]?=some (.cells c 5 d):=by intro g b;obtain⟨rfl,_⟩|⟨h,cap,f,rfl,_,e,_⟩:=a.2;{simp[Value.ownBlock]at b};grind[Value.ownBlock]
def Gc (B b bs c w) (t:Is B b bs w) (L:bs.length+1<=140737488355328) (M:B<=w):
 Calls prog 234 #[bK b,int .u8 c] w λe w'=>e= .returned .nilIface/\At B b (bs++[int .u8 c]) w'/\Below B w w'/\Dx b w w':=by
 let⟨x,C,A,D,F⟩:=info_parts infoByte;go_enter func234,ntmps234;go_wp2_with(go_at_call 264;refine(Gi B b bs _ t).mono ?_)
 rintro e a ⟨rfl,E,i,s⟩;let⟨r,v,f,l,I⟩:=E;have c1:a.cell? (b 1)=some v:=TH;go_wp2_with(at_builtin;refine wpList_append_own _ rfl _ _ 34 rfl B 5 x (int .u8 0) 1 1 underlying34 C A D F rfl dy _ _ _ rfl (l.alloc _) (an a 0) 1 1 [int .u8 c] rfl rfl ?c1 ?c2 ?c3 ?c4 ?c5 ?_)
 case c1=>exact qU
 case c2=>intro u o;simp at o;subst o;rfl
 case c3=>unfold maxLen;omega
 case c4=>omega
 case c5=>have:=i.size;simp;omega
 intro z q n m _;have y:b<a:=by exact OZ
 have d:q.heap[b]?=some (.cells #[bK b,v] 341 (0,0)):=by rw[m.block b uy (λe=>I e.symm),Lib.alloc_old a _ b y];exact f
 have O:q.cell? (b 1)=some v:=TN;have N:=Lib.frozen_of_heap d 1;obtain⟨g,cap,rfl⟩: ∃g cap,z=bR g (bs.length+1) cap:=by obtain⟨_,J⟩|⟨g,cap,K,G,_⟩:=n.2;{omega};exact⟨g,cap,G⟩
 go_wp2;go_ret;refine⟨rfl,?_,?_,?_⟩;{exact Lib.BuilderAt.put (T:=341) (e:=5) r d (bs':=bs++[int .u8 c]) (by simpa using n) dy};{exact((i.alloc (aR i.size) _).grown m (by have:=i.size;simp;omega) (λk H=>(l.lt k H).1)).setCell (p:=(b 1)) r _};exact((s.alloc _).grown m (LC (l.alloc _))).setCell (b 1) rfl _
def wE (B b bs s w) (t:Is B b bs w) (I:bs.length+s.size<=140737488355328) (J:B<=w):
 Calls prog 233 #[bK b,string s] w λe w'=>e= .returned (tuple #[int .i64 s.size,.nilIface])/\At B b (bs++Lib.strCells s) w'/\Below B w w'/\Dx b w w':=by
 let⟨u,A,z,C,E⟩:=info_parts infoByte;go_enter func233,ntmps233;go_wp2_with(go_at_call 264;refine(Gi B b bs _ t).mono ?_)
 rintro e a ⟨rfl,D,c,r⟩;let⟨q,v,f,i,G⟩:=D;have c1:a.cell? (b 1)=some v:=TH;go_wp2_with(at_builtin;refine Lib.wpList_append_own_string _ rfl _ _ 34 9 rfl B 5 u underlying34 underlying9 A z C E _ _ _ rfl i s rfl ?c3 ?c4 ?c5 ?_)
 case c3=>unfold maxLen;omega
 case c4=>omega
 case c5=>have:=c.size;omega
 intro y o m j _;have x:b<a:=by exact OZ
 have d:o.heap[b]?=some (.cells #[bK b,v] 341 (0,0)):=by rw[j.block b x (λe=>G e.symm)];exact f
 have L:o.cell? (b 1)=some v:=TN;have K:=Lib.frozen_of_heap d 1;obtain⟨n,n',cap,rfl⟩: ∃n n' cap,y=slice n n' cap:=by obtain⟨l,_⟩|⟨g,cap,H,l,_⟩:=m.2;{exact⟨_,_,_,l⟩};exact⟨_,_,_,l⟩
 go_wp2;go_ret2;refine⟨rfl,?_,?_,?_⟩;{exact Lib.BuilderAt.put (T:=341) (e:=5) q d (bs':=bs++Lib.strCells s) (by simpa[Lib.strCells_length]using m) dy};{exact(c.grown j (aR c.size) (λk F=>(i.lt k F).1)).setCell (p:=(b 1)) q _};exact(r.grown j (LC i)).setCell (b 1) rfl _
end iu
def gw {a:Bool} (c:a=b):Ending.returned (bool a)= .returned (bool b):=by rw[c]
def qD {k:IntKind} {a b:Int} (c:a=b):Ending.returned (.int k a)= .returned (.int k b):=by rw[c]
def ll (c n) (a:n<256):(c=UInt8.ofNat n)↔c.toNat=(n:Int):=by exact ER
def vV (c n) (a:n<256):(c<=UInt8.ofNat n)↔c.toNat<=(n:Int):=by exact pX
def vQ (c n) (a:n<256):(UInt8.ofNat n<=c)↔n<=(c.toNat:Int):=by exact pX
theorem aau (c):(oB c)↔((c.toNat:Int)=32\/(c.toNat:Int)=9\/(c.toNat:Int)=13\/(c.toNat:Int)=10):=by have a:=ll c 32 dy;have e:=ll c 9 dy;have d:=ll c 13 dy;have b:=ll c 10 dy;simp only[oB,Bool.or_eq_true,beq_iff_eq];grind
theorem qz (c):(Lex.digit c)↔(48<=(c.toNat:Int)/\(c.toNat:Int)<=57):=by have a:=vQ c 48 dy;have b:=vV c 57 dy;simp_all[Lex.digit,cm,dP]
theorem wW (c):(Lex.letter c)↔((97<=(c.toNat:Int)/\(c.toNat:Int)<=122)\/(65<=(c.toNat:Int)/\(c.toNat:Int)<=90)\/(c.toNat:Int)=95):=by have a:=vQ c 97 dy;have f:=vV c 122 dy;have e:=vQ c 65 dy;have b:=vV c 90 dy;have d:=ll c 95 dy;simp only[Lex.letter,Bool.or_eq_true,cm,dP,beq_iff_eq];grind
def JF (c w):Calls prog 192 #[int .u8 (c.toNat:Int)] w λe w'=>e= .returned (oB c)/\w=w':=by
 go_enter func192,ntmps192;go_wp2;all_goals go_ret
 all_goals exact⟨gw (by rw[Bool.eq_iff_iff,aau];simp;try omega),rfl⟩
def ua (c w):Calls prog 193 #[int .u8 (c.toNat:Int)] w λe w'=>e= .returned (Lex.letter c)/\w=w':=by
 go_enter func193,ntmps193;go_wp2;all_goals go_ret
 all_goals exact⟨gw (by rw[Bool.eq_iff_iff,wW];simp;try omega),rfl⟩
def wX (c w):Calls prog 194 #[int .u8 (c.toNat:Int)] w λe w'=>e= .returned (Lex.digit c)/\w=w':=by
 go_enter func194,ntmps194;go_wp2;all_goals go_ret
 all_goals exact⟨gw (by rw[Bool.eq_iff_iff,qz];simp;try omega),rfl⟩
namespace Lex
abbrev bl (s:au):Bs:=s.data.toList
theorem gp (s):(bl s).length=s.size:=by simp[bl]
def drop_cons (s i) (a:i<s.size):(bl s).drop i=s[i]::(bl s).drop (i+1):=by rw[jE (by rw[gp];exact a)];rfl
theorem lC (s i) (a:s.size<=i):(bl s).drop i=[]:=drop_eq_nil_of_le (by rw[gp];exact a)
def eu (s:au) (b:Bool) (i:Nat):Nat:=s.size- (skip b ((bl s).drop i)).length
theorem JQ (s b i) (a:i<=s.size):i<=eu s b i/\eu s b i<=s.size:=by grind[gJ,gp,eu,Co]
def Bw (s b i) (a:s.size<=i):eu s b i=s.size:=by unfold eu;rw[lC s i a];cases b<;>rfl
def Vt (s i) (b:i<s.size) (a:oB s[i]):eu s false i=eu s false (i+1):=by unfold eu;rw[drop_cons s i b,sB,aK a]
def WM (s i) (c:i<s.size) (a:oB s[i]=false) (b:s[i]=35):eu s false i=eu s true (i+1):=by unfold eu;rw[drop_cons s i c,sB,aG (by rw[a];decide),aK b]
def Jm (s i) (b:i<s.size) (a:s[i]≠10):eu s true i=eu s true (i+1):=by unfold eu;rw[drop_cons s i b,ye,aG a]
def XQ (s i) (b:i<s.size) (a:s[i]=10):eu s true i=eu s false i:=by unfold eu;rw[drop_cons s i b,ye,aK a,sB,aK (by rw[a];rfl)]
def Xi (s i) (a:i<s.size) (b:oB s[i]=false) (c:s[i]≠35):eu s false i=i:=by unfold eu;rw[drop_cons s i a,sB,aG (by rw[b];decide),aG c,<-drop_cons s i a,gJ,gp];omega
end Lex
def ahQ {a b:Int} (c:(a !=b)): ¬a=b:=bne_iff_ne.1 c
def ahz {a b:Int} (c:(a !=b)=false):a=b:=by simpa using c
def adN (s) (i:Nat) (r:i<=s.size) (x:s.size<=4611686018427387904) (w):
 Calls prog 147 #[string s,i] w λe w'=>e= .returned (int .i64 (eu s false i:Nat))/\w=w':=by
 go_enter func147,ntmps147;go_wp2;go_loop[1] (λj=> ∃k:Nat,i<=k/\k<=s.size/\j=k/\eu s false i=eu s false k) (λj=>s.size- (intOf j).toNat);case atStart=>exact⟨i,ny,r,rfl,rfl⟩
 case round=>obtain⟨k,A,t,rfl,o⟩:=hrel;have c:=hJ o;clear o;by_cases d:k<s.size;{cases b:oB s[k];{(go_wp2_with(first|(go_at_call 192;refine(JF _ _).mono ?_;rintro e w' ⟨rfl,rfl⟩;rw[b])));{have l:(s[k].toNat:Int)=35:=eq_of_beq im;have f:=(ll s[k] 35 dy).2 l;(have v:eu s false i=eu s true k:=by rw[c.o,WM s k d b f,<-Jm s k d (by rw[f];decide)]);go_loop[1] (λj=> ∃m:Nat,k<=m/\m<=s.size/\j=m/\eu s false i=eu s true m) (λj=>s.size- (intOf j).toNat);(case atStart=>exact⟨k,ny,t,rfl,v⟩);case round=>obtain⟨m,z,y,rfl,q⟩:=hrel;have n:=hJ q;by_cases p:m<s.size;{go_wp2;{have u: ¬(s[m].toNat:Int)=10:=ahQ im;have a:s[m]≠10:=λg=>u ((ll s[m] 10 dy).1 g);go_round;(case rel=>exact⟨m+1,oy,oy,bh,by rw[n.o,Jm s m p a]⟩);case measure=>exact cn};have a:s[m]=10:=(ll s[m] 10 dy).2 (ahz im);(have B:m≠k:=λe=>by subst e;rw[f]at a;exact absurd a dy);go_round;(case rel=>exact⟨m,oy,oy,bh,by rw[n.o,XQ s m p a]⟩);case measure=>exact cn};go_wp2;go_round;(case rel=>exact⟨m,oy,oy,bh,by rw[n.o,Bw s true m oy,Bw s false m oy]⟩);case measure=>exact cn};go_ret;have l:=ne_of_beq_false im;exact⟨qD (by rw[c.o,Xi s k d b (λg=>l ((ll s[k] 35 dy).1 g))]),rfl⟩};(go_wp2_with(first|(go_at_call 192;refine(JF _ _).mono ?_;rintro e w' ⟨rfl,rfl⟩;rw[b])));go_round;(case rel=>exact⟨k+1,oy,oy,bh,by rw[c.o,Vt s k d b]⟩);case measure=>exact cn};go_wp2;go_ret;exact⟨qD (by rw[c.o,Bw s false k oy];omega),rfl⟩
namespace Lex
def lM (s:au) (b:Bool) (i:Nat):Nat:=s.size- (((bl s).drop i).dropWhile (goes b)).length
def abt (s:au) (b:Bool) (i:Nat) (a:s.size<=i):lM s b i=s.size:=by unfold lM;rw[lC s i a];rfl
def Cn (s:au) (b:Bool) (i:Nat) (c:i<s.size) (a:goes b s[i]):lM s b i=lM s b (i+1):=by unfold lM;rw[drop_cons s i c,dropWhile_cons_of_pos a]
def IJ (s:au) (b:Bool) (i:Nat) (a:i<s.size) (c:goes b s[i]=false):lM s b i=i:=by unfold lM;rw[drop_cons s i a,dropWhile_cons_of_neg (by rw[c];decide),<-drop_cons s i a,length_drop,gp];omega
def XC (a:letter c):goes b c:=by unfold goes;rw[a];rfl
def Zp (a:digit c):goes b c:=by unfold goes;rw[a];simp
def Bn (a:letter c=false) (d:digit c=false):goes b c=(b&&c==46):=by unfold goes;rw[a,d];rfl
end Lex
def agO (s:au) (b:Bool) (m:1<=s.size) (o:s.size<=4611686018427387904) (w:Wd):
 Calls prog 150 #[s,b] w λe w'=>e= .returned (lM s b 1)/\w=w':=by
 go_enter func150,ntmps150;go_wp2;go_loop[5] (λj=> ∃k:Nat,1<=k/\k<=s.size/\j=k/\lM s b 1=lM s b k) (λj=>s.size- (intOf j).toNat);case atStart=>exact⟨1,ny,m,rfl,rfl⟩
 case round=>obtain⟨k,p,q,rfl,l⟩:=hrel;have d:=hJ l;clear l;by_cases f:k<s.size;{rcases a:Lex.letter s[k]with _|_;{rcases c:Lex.digit s[k]with _|_;{obtain _|_:=b;{(go_wp2_with(first|(go_at_call 193;refine(ua _ _).mono ?_;rintro e w' ⟨rfl,rfl⟩;rw[a])|(go_at_call 194;refine(wX _ _).mono ?_;rintro e w' ⟨rfl,rfl⟩;rw[c])));go_ret;exact⟨qD (by rw[d.o,IJ s false k f (by rw[Bn a c];rfl)]),rfl⟩};(go_wp2_with(first|(go_at_call 193;refine(ua _ _).mono ?_;rintro e w' ⟨rfl,rfl⟩;rw[a])|(go_at_call 194;refine(wX _ _).mono ?_;rintro e w' ⟨rfl,rfl⟩;rw[c])));{(have i:(s[k].toNat:Int)=46:=by first|assumption|exact eq_of_beq im);have g:=(ll s[k] 46 dy).2 i;go_round;(case rel=>exact⟨k+1,oy,oy,bh,by rw[d.o,Cn s true k f (by rw[Bn a c,g];rfl)]⟩);case measure=>exact cn};(have i: ¬(s[k].toNat:Int)=46:=by first|assumption|exact ne_of_beq_false im);(have g:(s[k]==46)=false:=by rw[beq_eq_false_iff_ne];exact λn=>i ((ll s[k] 46 dy).1 n));go_ret;exact⟨qD (by rw[d.o,IJ s true k f (by rw[Bn a c,g];rfl)]),rfl⟩};(go_wp2_with(first|(go_at_call 193;refine(ua _ _).mono ?_;rintro e w' ⟨rfl,rfl⟩;rw[a])|(go_at_call 194;refine(wX _ _).mono ?_;rintro e w' ⟨rfl,rfl⟩;rw[c])));go_round;(case rel=>exact⟨k+1,oy,oy,bh,by rw[d.o,Cn s b k f (Zp c)]⟩);case measure=>exact cn};(go_wp2_with(first|(go_at_call 193;refine(ua _ _).mono ?_;rintro e w' ⟨rfl,rfl⟩;rw[a])));go_round;(case rel=>exact⟨k+1,oy,oy,bh,by rw[d.o,Cn s b k f (XC a)]⟩);case measure=>exact cn};go_wp2;go_ret;exact⟨qD (by rw[d.o,abt s b k oy];omega),rfl⟩
namespace Lex
def Kw (s) (p:aU->Bool) (a:1<s.size):py p ((bl s).drop 1)=p s[1]:=by rw[drop_cons s 1 a];rfl
def Ka (s) (p:aU->Bool) (a: ¬1<s.size):py p ((bl s).drop 1)=false:=by rw[lC s 1 oy];rfl
end Lex
def Kk (s c w):
 Calls prog 195 #[string s,int .u8 (c.toNat:Int)] w λe w'=> ∃j:Int,e= .returned j/\w=w'/\(0<=j↔(Lex.bl s).contains c=true):=by refine(strings_IndexByte s (c.toNat:Int) w).mono ?_;rintro e w' ⟨rfl,rfl⟩;refine⟨_,rfl,rfl,?_⟩;have f:(c.toNat:Int).toNat.toUInt8=c:=iy;rw[f];constructor;{intro a;let⟨h,d⟩:=Int.eq_ofNat_of_zero_le a;exact contains_iff_mem.2 (cz (Lib.indexByte_some d).1)};intro a;obtain b|b:=Int.lt_or_le (Lib.indexByte (Lex.bl s) c) 0;{have: -1<=Lib.indexByte (Lex.bl s) c:=Lib.indexByte_ge s.data.toList c;let⟨k,g⟩:=mem_iff_getElem?.1 (contains_iff_mem.1 a);exact absurd g (Lib.indexByte_none oy k)};exact b
def xh (x c b w) (a:x=(c.toNat:Int)) (d:Lex.letter c=b):Calls prog 193 #[int .u8 x] w λe w'=>e= .returned (bool b)/\w=w':=by subst a d;exact ua c w
def rZ (x c b w) (a:x=(c.toNat:Int)) (d:Lex.digit c=b):Calls prog 194 #[int .u8 x] w λe w'=>e= .returned (bool b)/\w=w':=by subst a d;exact wX c w
def xw (s x c w) (f:x=(c.toNat:Int)) (g:(Lex.bl s).contains c):
 Calls prog 195 #[string s,int .u8 x] w λe w'=> ∃j:Int,e= .returned j/\w=w'/\0<=j:=by subst f;refine(Kk s c w).mono ?_;rintro e w' ⟨j,a,d,b⟩;exact⟨j,a,d,b.2 g⟩
def oc (s x c w) (g:x=(c.toNat:Int)) (h:(Lex.bl s).contains c=false):
 Calls prog 195 #[string s,int .u8 x] w λe w'=> ∃j:Int,e= .returned j/\w=w'/\j<0:=by subst g;refine(Kk s c w).mono ?_;rintro e w' ⟨j,b,f,d⟩;refine⟨j,b,f,?_⟩;obtain a|a:=Int.lt_or_le j 0;{exact a};have:=d.1 a;rw[h]at this;cases this
def UN (s c) (f:0<s.size) (d:s[0]=c) (a:Lex.letter c) (w):
 Calls prog 148 #[string s] w λe w'=>e= .returned (tuple #["1",""])/\w=w':=by
 have b:=hJ a;clear a;go_enter func148,ntmps148;go_wp2_with fail
 refine mE (xh _ c true _ rfl b) ?_;go_wp2;go_ret2;exact⟨rfl,rfl⟩
def Vq (s c) (g:0<s.size) (h:s[0]=c) (a:Lex.letter c=false) (b:Lex.digit c) (w):
 Calls prog 148 #[string s] w λe w'=>e= .returned (tuple #["2",""])/\w=w':=by
 let⟨d,f⟩:=aq a b;clear a b;go_enter func148,ntmps148;go_wp2_with fail
 refine mE (xh _ c false _ rfl d) ?_;go_wp2_with fail
 refine mE (rZ _ c true _ rfl f) ?_;go_wp2;go_ret2;exact⟨rfl,rfl⟩
def Vz (s c d) (l:1<s.size) (n:s[0]=c) (m:s[1]=d) (f:Lex.letter c=false) (b:Lex.digit c=false) (a:(c.toNat:Int)=45) (g:Lex.digit d) (w):
 Calls prog 148 #[string s] w λe w'=>e= .returned (tuple #["2",""])/\w=w':=by
 let⟨i,k,h,j⟩:=bJ f b g a;clear f b g a;go_enter func148,ntmps148;go_wp2_with fail
 refine mE (xh _ c false _ rfl i) ?_;go_wp2_with fail
 refine mE (rZ _ c false _ rfl k) ?_;have a:=j.o;go_wp2_with fail
 refine mE (rZ _ d true _ rfl h) ?_;go_wp2;go_ret2;exact⟨rfl,rfl⟩
def abX (s c) (r:0<s.size) (u:s[0]=c) (p: ¬1<s.size) (l:Lex.letter c=false) (d:Lex.digit c=false) (a:(c.toNat:Int)=45) (g:(Lex.bl ⟨#[61,33,60,62]⟩).contains c=false) (i:(Lex.bl ⟨#[123,125,40,41,44,58,59,61,60,62]⟩).contains c=false) (w):
 Calls prog 148 #[string s] w λe w'=>e= .returned (tuple #["",""])/\w=w':=by
 have q:decide ((1:Int)<s.size)=false:=uy;let⟨f,b,n,m,o⟩:=de l d a g i;clear l d a g i;go_enter func148,ntmps148;go_wp2_with fail
 refine nK ?_;go_wp2_with fail
 refine DP ?_;have a:=n.o;go_wp2_with fail
 refine(oc _ _ c _ (by simp[a]) m).mono ?_;rintro e w' ⟨j,rfl,rfl,t⟩;go_wp2_with fail
 refine(oc _ _ c _ (by simp[a]) o).mono ?_;exact pW
def aaM (s c d) (v:1<s.size) (y:s[0]=c) (x:s[1]=d) (m:Lex.letter c=false) (g:Lex.digit c=false) (a:(c.toNat:Int)=45) (n:Lex.digit d=false) (i:(Lex.bl ⟨#[61,33,60,62]⟩).contains c=false) (l:(Lex.bl ⟨#[123,125,40,41,44,58,59,61,60,62]⟩).contains c=false) (w):
 Calls prog 148 #[string s] w λe w'=>e= .returned (tuple #["",""])/\w=w':=by
 have t:decide ((1:Int)<s.size):=uy;let⟨f,b,q,p,o,r⟩:=dN m g a n i l;clear m g a n i l;go_enter func148,ntmps148;go_wp2_with fail
 refine nK ?_;go_wp2_with fail
 refine DP ?_;have a:=q.o;go_wp2_with fail
 refine mE (rZ _ d false _ rfl p) ?_;go_wp2_with fail
 refine(oc _ _ c _ (by simp[a]) o).mono ?_;rintro e w' ⟨j,rfl,rfl,u⟩;go_wp2_with fail
 refine(oc _ _ c _ (by simp[a]) r).mono ?_;exact pW
def aeK (s c) (j:0<s.size) (l:s[0]=c) (g:Lex.letter c=false) (d:Lex.digit c=false) (a:(c.toNat:Int)=34) (w):
 Calls prog 148 #[string s] w λe w'=>e= .returned (tuple #["3",""])/\w=w':=by
 let⟨f,b,i⟩:=aM g d a;clear g d a;go_enter func148,ntmps148;go_wp2_with fail
 refine nK ?_;go_wp2_with fail
 refine DP ?_;have a:=i.o;go_wp2;go_ret2;exact⟨rfl,rfl⟩
def wP (s c d) (u:1<s.size) (y:s[0]=c) (v:s[1]=d) (q:Lex.letter c=false) (o:Lex.digit c=false) (b:((c.toNat:Int)==45)=false) (a:((c.toNat:Int)==34)=false) (n:(d.toNat:Int)=61) (p:(Lex.bl ⟨#[61,33,60,62]⟩).contains c) (w):
 Calls prog 148 #[string s] w λe w'=>e= .returned (tuple #[(4:Int),"2"])/\w=w':=by
 have t:decide ((1:Int)<s.size):=uy;let⟨f,l,i,g,r,m⟩:=dN q o b a n p;clear q o b a n p;go_enter func148,ntmps148;go_wp2_with fail
 refine nK ?_;go_wp2_with fail
 refine qX λb a=>?_;have n:=r.o;go_wp2_with fail
 refine vu ?_;rintro e w' ⟨j,rfl,rfl,x⟩;go_wp2;go_ret2;exact⟨rfl,rfl⟩
def ace (s c) (u:0<s.size) (x:s[0]=c) (r: ¬1<s.size) (p:Lex.letter c=false) (d:Lex.digit c=false) (b:((c.toNat:Int)==45)=false) (a:((c.toNat:Int)==34)=false) (n:(Lex.bl ⟨#[61,33,60,62]⟩).contains c) (o:(Lex.bl ⟨#[123,125,40,41,44,58,59,61,60,62]⟩).contains c) (w):
 Calls prog 148 #[string s] w λe w'=>e= .returned (tuple #[(4:Int),"1"])/\w=w':=by
 have t:decide ((1:Int)<s.size)=false:=uy;let⟨f,l,i,g,m,q⟩:=dN p d b a n o;clear p d b a n o;go_enter func148,ntmps148;go_wp2_with fail
 refine nK ?_;go_wp2_with fail
 refine qX λb a=>?_;go_wp2_with fail
 refine vu ?_;rintro e w' ⟨j,rfl,rfl,v⟩;go_wp2_with fail
 refine(xw _ _ c _ rfl q).mono ?_;exact pW
def acq (s c) (u:0<s.size) (x:s[0]=c) (r: ¬1<s.size) (p:Lex.letter c=false) (d:Lex.digit c=false) (b:((c.toNat:Int)==45)=false) (a:((c.toNat:Int)==34)=false) (n:(Lex.bl ⟨#[61,33,60,62]⟩).contains c) (o:(Lex.bl ⟨#[123,125,40,41,44,58,59,61,60,62]⟩).contains c=false) (w):
 Calls prog 148 #[string s] w λe w'=>e= .returned (tuple #["",""])/\w=w':=by
 have t:decide ((1:Int)<s.size)=false:=uy;let⟨f,l,i,g,m,q⟩:=dN p d b a n o;clear p d b a n o;go_enter func148,ntmps148;go_wp2_with fail
 refine nK ?_;go_wp2_with fail
 refine qX λb a=>?_;go_wp2_with fail
 refine vu ?_;rintro e w' ⟨j,rfl,rfl,v⟩;go_wp2_with fail
 refine(oc _ _ c _ rfl q).mono ?_;exact pW
def aaJ (s c d) (x:1<s.size) (A:s[0]=c) (v:s[1]=d) (p:Lex.letter c=false) (o:Lex.digit c=false) (b:((c.toNat:Int)==45)=false) (a:((c.toNat:Int)==34)=false) (n:((d.toNat:Int)==61)=false) (q:(Lex.bl ⟨#[61,33,60,62]⟩).contains c) (r:(Lex.bl ⟨#[123,125,40,41,44,58,59,61,60,62]⟩).contains c) (w):
 Calls prog 148 #[string s] w λe w'=>e= .returned (tuple #[(4:Int),"1"])/\w=w':=by
 have z:decide ((1:Int)<s.size):=uy;let⟨f,l,i,g,u,m,t⟩:=jx p o b a n q r;clear p o b a n q r;go_enter func148,ntmps148;go_wp2_with fail
 refine nK ?_;go_wp2_with fail
 refine qX λb a=>?_;have n:=u.o;go_wp2_with fail
 refine vu ?_;rintro e w' ⟨j,rfl,rfl,y⟩;go_wp2_with fail
 refine(xw _ _ c _ rfl t).mono ?_;exact pW
def abO (s c d) (x:1<s.size) (A:s[0]=c) (v:s[1]=d) (p:Lex.letter c=false) (o:Lex.digit c=false) (b:((c.toNat:Int)==45)=false) (a:((c.toNat:Int)==34)=false) (n:((d.toNat:Int)==61)=false) (q:(Lex.bl ⟨#[61,33,60,62]⟩).contains c) (r:(Lex.bl ⟨#[123,125,40,41,44,58,59,61,60,62]⟩).contains c=false) (w):
 Calls prog 148 #[string s] w λe w'=>e= .returned (tuple #["",""])/\w=w':=by
 have z:decide ((1:Int)<s.size):=uy;let⟨f,l,i,g,u,m,t⟩:=jx p o b a n q r;clear p o b a n q r;go_enter func148,ntmps148;go_wp2_with fail
 refine nK ?_;go_wp2_with fail
 refine qX λb a=>?_;have n:=u.o;go_wp2_with fail
 refine vu ?_;rintro e w' ⟨j,rfl,rfl,y⟩;go_wp2_with fail
 refine(oc _ _ c _ rfl t).mono ?_;exact pW
def Zz (s c) (r:0<s.size) (u:s[0]=c) (o:Lex.letter c=false) (d:Lex.digit c=false) (b:((c.toNat:Int)==45)=false) (a:((c.toNat:Int)==34)=false) (m:(Lex.bl ⟨#[61,33,60,62]⟩).contains c=false) (n:(Lex.bl ⟨#[123,125,40,41,44,58,59,61,60,62]⟩).contains c) (w):
 Calls prog 148 #[string s] w λe w'=>e= .returned (tuple #[(4:Int),"1"])/\w=w':=by
 let⟨f,l,i,g,p,q⟩:=dN o d b a m n;clear o d b a m n;go_enter func148,ntmps148;go_wp2_with fail
 refine nK ?_;go_wp2_with fail
 refine qX λb a=>?_;go_wp2_with fail
 refine(oc _ _ c _ rfl p).mono ?_;rintro e w' ⟨j,rfl,rfl,t⟩;go_wp2_with fail
 refine(xw _ _ c _ rfl q).mono ?_;exact pW
def aaS (s c) (r:0<s.size) (u:s[0]=c) (o:Lex.letter c=false) (d:Lex.digit c=false) (b:((c.toNat:Int)==45)=false) (a:((c.toNat:Int)==34)=false) (m:(Lex.bl ⟨#[61,33,60,62]⟩).contains c=false) (n:(Lex.bl ⟨#[123,125,40,41,44,58,59,61,60,62]⟩).contains c=false) (w):
 Calls prog 148 #[string s] w λe w'=>e= .returned (tuple #["",""])/\w=w':=by
 let⟨f,l,i,g,p,q⟩:=dN o d b a m n;clear o d b a m n;go_enter func148,ntmps148;go_wp2_with fail
 refine nK ?_;go_wp2_with fail
 refine qX λb a=>?_;go_wp2_with fail
 refine(oc _ _ c _ rfl p).mono ?_;rintro e w' ⟨j,rfl,rfl,t⟩;go_wp2_with fail
 refine(oc _ _ c _ rfl q).mono ?_;exact pW
namespace Lex
theorem acj (c:aU) (l:Bs) (b:letter c=false) (a:digit c=false):
 ik c l=if(c==45&&py digit l)=true then(2,0)else if(c==34)=true then(3,0)else if(yK.contains c&&py (· ==61) l)=true then(4,2)else if sX.contains c=true then(4,1)else(0,0):=by grind[ik]
def int_ne (b:n<256) (a:(c==UInt8.ofNat n)=false):((c.toNat:Int)==n)=false:=by rw[beq_eq_false_iff_ne]at a⊢;exact λe=>a ((ll c n b).2 e)
def int_eq (a:n<256) (b:(c==UInt8.ofNat n)):c.toNat=(n:Int):=(ll c n a).1 (eq_of_beq b)
end Lex
def XH (s:au) (o:0<s.size) (w:Wd):
 Calls prog 148 #[s] w λe w'=>e= .returned (tuple #[((ik s[0] ((Lex.bl s).drop 1)).1),((ik s[0] ((Lex.bl s).drop 1)).2)])/\w=w':=by
 obtain⟨c,j⟩:=xR (s[0]);rw[j];have conv: ∀ (a b:Nat),ik c ((Lex.bl s).drop 1)=(a,b)->(∀e w',(e=Ending.returned (tuple #[a,b])/\w=w')->e= .returned (tuple #[((ik c ((Lex.bl s).drop 1)).1),((ik c ((Lex.bl s).drop 1)).2)])/\w=w'):=by intro a b A e w' B;rw[A];exact B
 rcases h:Lex.letter c with _|_;{rcases i:Lex.digit c with _|_;{have f:=acj c ((Lex.bl s).drop 1) h i;rcases r:(c==45)with _|_;{rw[r,Bool.false_and,if_neg dy]at f;have p:=Lex.int_ne (n:=45) dy r;rcases u:(c==34)with _|_;{rw[u,if_neg dy]at f;have q:=Lex.int_ne (n:=34) dy u;rcases l:yK.contains c with _|_;{rw[l,Bool.false_and,if_neg dy]at f;rcases g:sX.contains c with _|_;{rw[g,if_neg dy]at f;exact(aaS s c o j h i p q l g w).mono (conv 0 0 f)};rw[g,if_pos rfl]at f;exact(Zz s c o j h i p q l g w).mono (conv 4 1 f)};rw[l,Bool.true_and]at f;by_cases k:1<s.size;{rw[Kw s _ k]at f;obtain⟨d,m⟩:=xR (s[1]);rw[m]at f;rcases t:(d==61)with _|_;{rw[t,if_neg dy]at f;have z:=Lex.int_ne (n:=61) dy t;rcases g:sX.contains c with _|_;{rw[g,if_neg dy]at f;exact(abO s c d k j m h i p q z l g w).mono (conv 0 0 f)};rw[g,if_pos rfl]at f;exact(aaJ s c d k j m h i p q z l g w).mono (conv 4 1 f)};rw[t,if_pos rfl]at f;exact(wP s c d k j m h i p q (Lex.int_eq (n:=61) dy t) l w).mono (conv 4 2 f)};rw[Ka s _ k,if_neg dy]at f;rcases g:sX.contains c with _|_;{rw[g,if_neg dy]at f;exact(acq s c o j k h i p q l g w).mono (conv 0 0 f)};rw[g,if_pos rfl]at f;exact(ace s c o j k h i p q l g w).mono (conv 4 1 f)};rw[u,if_pos rfl]at f;exact(aeK s c o j h i (Lex.int_eq (n:=34) dy u) w).mono (conv 3 0 f)};rw[r,Bool.true_and]at f;have x:=Lex.int_eq (n:=45) dy r;have y:=eq_of_beq r;(have l:(Lex.bl ⟨#[61,33,60,62]⟩).contains c=false:=by rw[y];rfl);(have g:(Lex.bl ⟨#[123,125,40,41,44,58,59,61,60,62]⟩).contains c=false:=by rw[y];rfl);(have C:(if(c==34)=true then(3,0)else if(yK.contains c&&py (· ==61) ((Lex.bl s).drop 1))=true then(4,2)else if sX.contains c=true then(4,1)else(0,0))=((0,0):Nat×Nat):=by rw[y];rfl);rw[C]at f;by_cases k:1<s.size;{rw[Kw s _ k]at f;obtain⟨d,m⟩:=xR (s[1]);rw[m]at f;rcases v:Lex.digit d with _|_;{rw[v,if_neg dy]at f;exact(aaM s c d k j m h i x v l g w).mono (conv 0 0 f)};rw[v,if_pos rfl]at f;exact(Vz s c d k j m h i x v w).mono (conv 2 0 f)};rw[Ka s _ k,if_neg dy]at f;exact(abX s c o j k h i x l g w).mono (conv 0 0 f)};exact(Vq s c o j h i w).mono (conv 2 0 (by unfold ik;rw[if_neg (by rw[h];decide),if_pos (by rw[i];rfl)]))};exact(UN s c o j h w).mono (conv 1 0 (by unfold ik;rw[if_pos h]))
namespace fP
def infoByte:(prog.info? 5).map (λi=>(i.zero,i.size,i.bytes))=some (some (int .u8 0),1,1):=ry
def Ir {l:List aU} (a:w.ownsRow B 5 1 v l.length (Lib.byteCells l)):
 (convert 34 9 v).run prog w= .ok (string ⟨l.toArray⟩) w:=by obtain⟨rfl,b⟩|⟨g,cap,f,rfl,i,h,d,e,k,m⟩:=a.2;{have:l=[]:=je b;subst this;rfl};refine run_convert_bytes_back w 34 9 5 (g 0) cap l underlying34 underlying5 underlying9 ?_;intro j c;have:=a.cells (g:=g) rfl j (int .u8 l[j].toNat) (by simp[Lib.byteCells,c]);simpa[Addr.add]using this
def tZ (l:List aU) (c:aU):Lib.byteCells (l++[c])=Lib.byteCells l++[int .u8 (c.toNat:Int)]:=by simp[Lib.byteCells]
def rP (l:List aU):(Lib.byteCells l).length=l.length:=Lib.byteCells_length l
def sd {l:List aU} (a:w.ownsRow B 5 1 v (l.length+1) (Lib.byteCells l++[int .u8 (c.toNat:Int)])):
 w.ownsRow B 5 1 v (l++[c]).length (Lib.byteCells (l++[c])):=by rw[tZ,bu];exact a
def qN (a:w.ownsRow B 5 1 v n xs) (e:v.ownBlock=some g):B<=g:=(a.lt g e).1
end fP
namespace Lex
def adb (i):text [] i= .error (0,12):=by unfold text;rfl
def adi (l:Bs) (i:Nat):text (34::l) i= .ok ([],l):=by unfold text;rw[aK rfl]
def afh (l:Bs) (i:Nat):text (10::l) i= .error (0,12):=by unfold text;rw[aG dy,aK rfl]
def Yq (l i) (a:c≠34) (d:c≠10) (b:c≠92):text (c::l) i=(text l (i+1)).map (λr=>(c::r.1,r.2)):=by
 conv=>lhs;unfold text
 rw[aG a,aG d,aG b]
def abY (i:Nat):text [92] i= .error (0,12):=by rfl
theorem Kz (l i) (a:d=92\/d=34):text (92::d::l) i=(text l (i+2)).map (λr=>(d::r.1,r.2)):=by
 conv=>lhs;unfold text
 grind
def agT (l i):text (92::110::l) i=(text l (i+2)).map (λr=>(10::r.1,r.2)):=by
 conv=>lhs;unfold text
 rfl
theorem aea (l i) (b: ¬(d=92\/d=34)) (a:d≠110):text (92::d::l) i= .error (i,1):=by
 conv=>lhs;unfold text
 grind
def ahead (a:Bs) (x:Except (Nat×Int) (Bs×Bs)):Except (Nat×Int) (Bs×Bs):=x.map λr=>(a++r.1,r.2)
def aaW (x:Except (Nat×Int) (Bs×Bs)):ahead [] x=x:=by cases x<;>rfl
def wV (acc c) (x:Except (Nat×Int) (Bs×Bs)):ahead acc (x.map λr=>(c::r.1,r.2))=ahead (acc++[c]) x:=by cases x with|error e=>rfl|ok v=>simp[ahead,Except.map]
def vl (n:Nat):Except (Nat×Int) (Bs×Bs)->ai
 | .error (m,e)=> tuple #["s",m,e]
 | .ok (p,r)=> tuple #[string ⟨p.toArray⟩,(n-r.length:Nat),""]
def adr (acc k) (a:k<s.size):Ending.returned (tuple #[string ⟨acc.toArray⟩,int .i64 ((k:Int)+1),""])= .returned (vl s.size (.ok (acc,(bl s).drop (k+1)))):=by
 have:s.size- ((bl s).drop (k+1)).length=k+1:=by rw[gJ,gp];omega
 show _=Ending.returned (tuple #[string ⟨acc.toArray⟩,(s.size- ((bl s).drop (k+1)).length:Nat),""]);rw[this];rfl
end Lex
def aeh (s) (Z:1<=s.size) (a5:s.size<=70000000000000) (w):
 Calls prog 149 #[string s] w λe w'=>e= .returned (vl s.size (Lex.text ((Lex.bl s).drop 1) 1))/\az w w':=by
 let⟨J,L,K,M,O⟩:=info_parts fP.infoByte;go_enter func149,ntmps149;go_wp2;go_loopw[5,6] (λv i wr=> ∃ (k:Nat) (f:Bs),1<=k/\k<=s.size/\i=k/\f.length<=k/\wr.ownsRow w 5 1 v f.length (Lib.byteCells f)/\az w wr/\ Lex.text ((Lex.bl s).drop 1) 1=Lex.ahead f (Lex.text ((Lex.bl s).drop k) k)) (λ_ i _=>s.size- (intOf i).toNat);case atStart=>exact⟨1,[],ny,Z,rfl,dR _,World.ownsRow_nil _ _ _ _,aN,(aaW _).symm⟩
 case round=>obtain⟨k,f,a7,b4,rfl,b1,U,E,R⟩:=hrel;let⟨r,m⟩:=aq R U;clear R U;by_cases S:k<s.size;{let⟨c,a4⟩:=xR (s[k]);have H:=Lex.drop_cons s k S;rw[a4]at H;have I:=hJ H;clear H;have V:=E.size;cases t:(c==34);{have Y:((c.toNat:Int)==34)=false:=Lex.int_ne (n:=34) dy t;have A:=ne_of_beq_false t;cases z:(c==10);{have b2:((c.toNat:Int)==10)=false:=Lex.int_ne (n:=10) dy z;have C:=ne_of_beq_false z;cases D:(c==92);{(have a8:((c.toNat:Int) !=92):=by have:=Lex.int_ne (n:=92) dy D;simpa using this);have o:=ne_of_beq_false D;(have B:=hJ (show Lex.text ((Lex.bl s).drop 1) 1=Lex.ahead (f++[c]) (Lex.text ((Lex.bl s).drop (k+1)) (k+1))by rw[r.o,I.o,Yq _ _ A C o,wV]));clear t z D A C o;(go_wp2_with(at_builtin;refine wpList_append_own _ rfl _ _ 34 rfl w 5 J (int .u8 0) 1 1 underlying34 L K M O rfl dy _ _ _ rfl (m.o.alloc _) (an wr 0) 1 1 [int .u8 (c.toNat:Int)] rfl rfl ?c1 ?c2 ?c3 ?c4 ?c5 ?_));(case c1=>exact qU);(case c2=>intro u l;simp at l;subst l;rfl);(case c3=>unfold maxLen;omega);(case c4=>omega);(case c5=>simp;omega);refine oU λp q b a=>?_;go_wp2;go_roundw;(case rel=>exact⟨k+1,f++[c],oy,oy,bh,by simp;omega,sd b,a,B.o⟩);case measure=>exact cn};have b0:(c.toNat:Int)=92:=Lex.int_eq (n:=92) dy D;have o:=eq_of_beq D;clear t z D A C;by_cases a3:k+1<s.size;{have a2:((k:Int)+1==s.size)=false:=uy;have a':k+1<(s.size:Int):=oy;let⟨d,H⟩:=xR (s[k+1]);have Q:=Lex.drop_cons s (k+1) a3;rw[H]at Q;have N:=hJ (show(Lex.bl s).drop k=92::d::(Lex.bl s).drop (k+2)by rw[I.o,o,Q]);clear Q;cases x:(d==92);{have a0:((d.toNat:Int)==92)=false:=Lex.int_ne (n:=92) dy x;cases y:(d==34);{have a1:((d.toNat:Int)==34)=false:=Lex.int_ne (n:=34) dy y;cases F:(d==110);{have X:((d.toNat:Int)==110)=false:=Lex.int_ne (n:=110) dy F;(have G:=hJ (show Lex.text ((Lex.bl s).drop 1) 1= .error (k,1)by rw[r.o,N.o,aea _ _ (λW=>W.elim (ne_of_beq_false x) (ne_of_beq_false y)) (ne_of_beq_false F)];rfl));clear x y F o;exact za};have X:(d.toNat:Int)=110:=Lex.int_eq (n:=110) dy F;(have B:=hJ (show Lex.text ((Lex.bl s).drop 1) 1=Lex.ahead (f++[10]) (Lex.text ((Lex.bl s).drop (k+2)) (k+2))by rw[r.o,N.o,eq_of_beq F,agT,wV]));clear x y F o;(go_wp2_with(at_builtin;refine wpList_append_own _ rfl _ _ 34 rfl w 5 J (int .u8 0) 1 1 underlying34 L K M O rfl dy _ _ _ rfl (m.o.alloc _) (an wr 0) 1 1 [int .u8 10] rfl rfl ?c1 ?c2 ?c3 ?c4 ?c5 ?_));(case c1=>exact qU);(case c2=>intro u l;simp at l;subst l;rfl);(case c3=>unfold maxLen;omega);(case c4=>omega);(case c5=>simp;omega);refine oU λp q b a=>?_;go_wp2;go_roundw;(case rel=>exact⟨k+2,f++[10],oy,oy,bh,by simp;omega,sd (c:=10) b,a,B.o⟩);case measure=>exact cn};have a1:(d.toNat:Int)=34:=Lex.int_eq (n:=34) dy y;(have B:=hJ (show Lex.text ((Lex.bl s).drop 1) 1=Lex.ahead (f++[34]) (Lex.text ((Lex.bl s).drop (k+2)) (k+2))by rw[r.o,N.o,eq_of_beq y,Kz _ _ (.inr rfl),wV]));clear x y o;(go_wp2_with(at_builtin;refine wpList_append_own _ rfl _ _ 34 rfl w 5 J (int .u8 0) 1 1 underlying34 L K M O rfl dy _ _ _ rfl (m.o.alloc _) (an wr 0) 1 1 [int .u8 34] rfl rfl ?c1 ?c2 ?c3 ?c4 ?c5 ?_));(case c1=>exact qU);(case c2=>intro u l;simp at l;subst l;rfl);(case c3=>unfold maxLen;omega);(case c4=>omega);(case c5=>simp;omega);refine oU λp q b a=>?_;go_wp2;go_roundw;(case rel=>exact⟨k+2,f++[34],oy,oy,bh,by simp;omega,sd (c:=34) b,a,B.o⟩);case measure=>exact cn};have a0:(d.toNat:Int)=92:=Lex.int_eq (n:=92) dy x;(have B:=hJ (show Lex.text ((Lex.bl s).drop 1) 1=Lex.ahead (f++[92]) (Lex.text ((Lex.bl s).drop (k+2)) (k+2))by rw[r.o,N.o,eq_of_beq x,Kz _ _ (.inl rfl),wV]));clear x o;(go_wp2_with(at_builtin;refine wpList_append_own _ rfl _ _ 34 rfl w 5 J (int .u8 0) 1 1 underlying34 L K M O rfl dy _ _ _ rfl (m.o.alloc _) (an wr 0) 1 1 [int .u8 92] rfl rfl ?c1 ?c2 ?c3 ?c4 ?c5 ?_));(case c1=>exact qU);(case c2=>intro u l;simp at l;subst l;rfl);(case c3=>unfold maxLen;omega);(case c4=>omega);(case c5=>simp;omega);refine oU λp q b a=>?_;go_wp2;go_roundw;(case rel=>exact⟨k+2,f++[92],oy,oy,bh,by simp;omega,sd (c:=92) b,a,B.o⟩);case measure=>exact cn};have a2:((k:Int)+1==s.size):=uy;(have G:=hJ (show Lex.text ((Lex.bl s).drop 1) 1= .error (0,12)by rw[r.o,I.o,o,Lex.lC s (k+1) oy,abY];rfl));clear o;exact za};have a6:(c.toNat:Int)=10:=Lex.int_eq (n:=10) dy z;have C:=eq_of_beq z;(have G:=hJ (show Lex.text ((Lex.bl s).drop 1) 1= .error (0,12)by rw[r.o,I.o,C,afh];rfl));clear t z Y A C;exact za};have b3:(c.toNat:Int)=34:=Lex.int_eq (n:=34) dy t;have A:=eq_of_beq t;(have G:=hJ (show Lex.text ((Lex.bl s).drop 1) 1= .ok (f,(Lex.bl s).drop (k+1))by rw[r.o,I.o,A,adi];simp[Lex.ahead,Except.map]));have a9:=Ir m.o;clear t A;go_wp2;go_ret3;exact⟨by rw[G.o];exact adr f k S,E⟩};(have G:=hJ (show Lex.text ((Lex.bl s).drop 1) 1= .error (0,12)by rw[r.o,Lex.lC s k oy,adb];rfl));exact za
namespace fP
def CS (w:Wd) (x:ai):(w.alloc (.cells #[x] 5)).ownsRow w 5 1 (bR w 1 1) 1 [x]:=by refine⟨rfl,.inr ⟨w,1,#[x],rfl,ny,?_,ny,dy,rfl,rfl⟩⟩;show(w.heap.push _)[w.heap.size]?=_;simp
def aaA (l c d):Lib.byteCells (l++[c,d])=Lib.byteCells l++[int .u8 (c.toNat:Int),int .u8 (d.toNat:Int)]:=by simp[Lib.byteCells]
def BW {l:List aU} (a:w.ownsRow B 5 1 v (l.length+2) (Lib.byteCells l++[int .u8 (c.toNat:Int),int .u8 (d.toNat:Int)])):
 w.ownsRow B 5 1 v (l++[c,d]).length (Lib.byteCells (l++[c,d])):=by rw[aaA,bu];exact a
end fP
namespace Lex
def Gz (l) (a:c=92\/c=34):fX (c::l)=[92,c]++fX l:=by
 conv=>lhs;unfold fX
 rw[aK a];rfl
def Zu (l):fX (10::l)=[92,110]++fX l:=rfl
theorem Uz (l) (a:c≠92) (d:c≠34) (b:c≠10):fX (c::l)=[c]++fX l:=by
 conv=>lhs;unfold fX
 grind
theorem WR (l):(fX l).length<=2*l.length:=by induction l with|nil=>exact ny|cons c l ih=>grind[fX]
def abg (l):(quote l).length<=2*l.length+2:=by have:=WR l;simp[quote];omega
end Lex
def abC (s) (O:s.size<=60000000000000) (w):
 Calls prog 202 #[string s] w (bO w (string ⟨(Lex.quote (Lex.bl s)).toArray⟩)):=by
 let⟨y,B,A,C,D⟩:=info_parts fP.infoByte;go_enter func202,ntmps202;go_wp2;go_loopw[3,4,21,30] (λv i _ _ wr=> ∃ (k:Nat) (f:Bs),k<=s.size/\i=k/\f.length<=2*k+1/\wr.ownsRow w 5 1 v f.length (Lib.byteCells f)/\az w wr/\ Lex.quote (Lex.bl s)=f++(fX ((Lex.bl s).drop k)++[34])) (λ_ i _ _ _=>s.size- (intOf i).toNat);case atStart=>exact⟨0,[34],dR _,rfl,ny,fP.CS w _,aN.alloc ny _,rfl⟩
 case round=>obtain⟨k,f,Z,rfl,X,K,E,L⟩:=hrel;let⟨z,m⟩:=aq L K;clear L K;have V:=E.size;by_cases M:k<s.size;{let⟨c,N⟩:=xR (s[k]);have H:=Lex.drop_cons s k M;rw[N]at H;have G:=hJ H;clear H;cases r:(c==92);{have Q:((c.toNat:Int)==92)=false:=Lex.int_ne (n:=92) dy r;have F:=ne_of_beq_false r;cases t:(c==34);{have R:((c.toNat:Int)==34)=false:=Lex.int_ne (n:=34) dy t;have I:=ne_of_beq_false t;cases x:(c==10);{have U:((c.toNat:Int)==10)=false:=Lex.int_ne (n:=10) dy x;have J:=ne_of_beq_false x;(have o:=hJ (show Lex.quote (Lex.bl s)=(f++[c])++(fX ((Lex.bl s).drop (k+1))++[34])by rw[z.o,G.o,Uz _ F I J];simp[ed]));clear r t x F I J;(go_wp2_with(at_builtin;refine wpList_append_own _ rfl _ _ 34 rfl w 5 y (int .u8 0) 1 1 underlying34 B A C D rfl dy _ _ _ rfl (m.o.alloc _) (an wr 0) 1 1 [int .u8 (c.toNat:Int)] rfl rfl ?c1 ?c2 ?c3 ?c4 ?c5 ?_));(case c1=>exact qU);(case c2=>intro u l;simp at l;subst l;rfl);(case c3=>unfold maxLen;omega);(case c4=>omega);(case c5=>simp;omega);refine oU λp q b a=>?_;go_wp2;go_roundw;(case rel=>exact⟨k+1,f++[c],oy,bh,by simp;omega,sd b,a,o.o⟩);case measure=>exact cn};have a0:(c.toNat:Int)=10:=Lex.int_eq (n:=10) dy x;(have o:=hJ (show Lex.quote (Lex.bl s)=(f++[92,110])++(fX ((Lex.bl s).drop (k+1))++[34])by rw[z.o,G.o,eq_of_beq x,Zu];simp[ed]));clear r t x F I;(go_wp2_with(at_builtin;refine wpList_append_own _ rfl _ _ 34 rfl w 5 y (int .u8 0) 1 1 underlying34 B A C D rfl dy _ _ _ rfl (m.o.alloc _) (an wr 0) 2 2 [int .u8 92,int .u8 110] rfl rfl ?c1 ?c2 ?c3 ?c4 ?c5 ?_));(case c1=>exact zL);(case c2=>intro u l;simp at l;obtain rfl|rfl:=l<;>rfl);(case c3=>unfold maxLen;omega);(case c4=>omega);(case c5=>simp;omega);refine oU λp q b a=>?_;go_wp2;go_roundw;(case rel=>exact⟨k+1,f++[92,110],oy,bh,by simp;omega,BW (c:=92) (d:=110) b,a,o.o⟩);case measure=>exact cn};have Y:(c.toNat:Int)=34:=Lex.int_eq (n:=34) dy t;(have o:=hJ (show Lex.quote (Lex.bl s)=(f++[92,34])++(fX ((Lex.bl s).drop (k+1))++[34])by rw[z.o,G.o,eq_of_beq t,Gz _ (.inr rfl)];simp[ed]));clear r t F;(go_wp2_with(at_builtin;refine wpList_append_own _ rfl _ _ 34 rfl w 5 y (int .u8 0) 1 1 underlying34 B A C D rfl dy _ _ _ rfl (m.o.alloc _) (an wr 0) 2 2 [int .u8 92,int .u8 34] rfl rfl ?c1 ?c2 ?c3 ?c4 ?c5 ?_));(case c1=>exact zL);(case c2=>intro u l;simp at l;obtain rfl|rfl:=l<;>rfl);(case c3=>unfold maxLen;omega);(case c4=>omega);(case c5=>simp;omega);refine oU λp q b a=>?_;go_wp2;go_roundw;(case rel=>exact⟨k+1,f++[92,34],oy,bh,by simp;omega,BW (c:=92) (d:=34) b,a,o.o⟩);case measure=>exact cn};have W:(c.toNat:Int)=92:=Lex.int_eq (n:=92) dy r;(have o:=hJ (show Lex.quote (Lex.bl s)=(f++[92,92])++(fX ((Lex.bl s).drop (k+1))++[34])by rw[z.o,G.o,eq_of_beq r,Gz _ (.inl rfl)];simp[ed]));clear r;(go_wp2_with(at_builtin;refine wpList_append_own _ rfl _ _ 34 rfl w 5 y (int .u8 0) 1 1 underlying34 B A C D rfl dy _ _ _ rfl (m.o.alloc _) (an wr 0) 2 2 [int .u8 92,int .u8 92] rfl rfl ?c1 ?c2 ?c3 ?c4 ?c5 ?_));(case c1=>exact zL);(case c2=>intro u l;simp at l;obtain rfl|rfl:=l<;>rfl);(case c3=>unfold maxLen;omega);(case c4=>omega);(case c5=>simp;omega);refine oU λp q b a=>?_;go_wp2;go_roundw;(case rel=>exact⟨k+1,f++[92,92],oy,bh,by simp;omega,BW (c:=92) (d:=92) b,a,o.o⟩);case measure=>exact cn};(have o:=hJ (show Lex.quote (Lex.bl s)=f++[34]by rw[z.o,Lex.lC s k oy];rfl));(go_wp2_with(at_builtin;refine wpList_append_own _ rfl _ _ 34 rfl w 5 y (int .u8 0) 1 1 underlying34 B A C D rfl dy _ _ _ rfl (m.o.alloc _) (an wr 0) 1 1 [int .u8 34] rfl rfl ?c1 ?c2 ?c3 ?c4 ?c5 ?_));(case c1=>exact qU);(case c2=>intro u l;simp at l;subst l;rfl);(case c3=>unfold maxLen;omega);(case c4=>omega);(case c5=>simp;omega);refine oU λp q b a=>?_;have S:=Ir (sd (c:=34) b);go_wp2;go_ret;exact⟨by rw[o.o];rfl,a⟩
namespace Lex
def xu (t:Tok):List ai:=[t.k,t.at_,string ⟨t.s.toArray⟩]
def Ve (t:Tok):(xu t).length=3:=rfl
def rest (xs:List Tok) (k:Nat):Bs:=if k=0 then join (bare xs)else DK (bare (xs.drop k))
theorem aee (l:Bs):l.length<=(quote l).length:=by
 have: ∀l:Bs,l.length<=(fX l).length:=by intro l;induction l with|nil=>exact ny|cons c l ih=>grind[fX]
 grind[quote]
end Lex
abbrev Ro (W:Wd) (B:Nat) (a:ah ak) (n c:Nat) (xs:List Lex.Tok):Prop:=aA xu 3 W B a n c xs
namespace Lex
theorem wT (s) (a b:Nat):bl (s.extract a b)=((bl s).drop a).take (b-a):=by simp[bl]
def sw (s) (k:Nat):bl (s.extract k s.size)=(bl s).drop k:=by exact Ff
theorem sy (a:bl s=bl t):s=t:=by cases s;cases t;simp_all
theorem piece {k:Nat} {p:Bs} (b:(bl s).drop k=p++r) (a:p.length=n):s.extract k (k+n)=⟨p.toArray⟩:=by apply sy;grind[wT,take_left]
theorem CA {k:Nat} {d:Bs} (a:(bl s).drop k=d++r):(bl s).drop (s.size-r.length)=r:=by have c:=congrArg length a;rw[gJ,gp,bu]at c;obtain b|b:=Nat.lt_or_ge k s.size;{have e:s.size-r.length=k+d.length:=oy;rw[e,<-drop_drop,a,drop_left]};grind[je,lC]
theorem CQ (d:bl t=c::r): ∃a:0<t.size,t[0]=c/\(bl t).drop 1=r/\t.size=r.length+1:=by have b:=congrArg length d;rw[gp,cH]at b;have a:0<t.size:=oy;refine⟨a,?_,by rw[d];rfl,b⟩;have:=drop_cons t 0 a;grind
def BU (p:aU->Bool) (l:Bs):(l.takeWhile p).length+(l.dropWhile p).length=l.length:=BQ p l
end Lex
def aal (t:au) (c:aU) (r:Bs) (w) (b:Lex.bl t=c::r):
 Calls prog 148 #[t] w λe w'=>e= .returned (tuple #[((ik c r).1),((ik c r).2)])/\w=w':=by let⟨d,a,f,g⟩:=CQ b;have:=XH t d w;rw[a,f]at this;exact this
def MU (t) (b:Bool) (c r w) (d:Lex.bl t=c::r) (f:t.size<=4611686018427387904):
 Calls prog 150 #[string t,b] w λe w'=>e= .returned (int .i64 (((r.takeWhile (Lex.goes b)).length+1:Nat):Int))/\w=w':=by
 obtain⟨h,j,i,g⟩:=CQ d;have a:=agO t b h f w;have e:lM t b 1=(r.takeWhile (Lex.goes b)).length+1:=by unfold lM;rw[i,g];have:=BU (Lex.goes b) r;omega
 rw[e]at a;exact a
def agd (t:au) (c:aU) (r:Bs) (w) (a:Lex.bl t=c::r) (b:t.size<=70000000000000):
 Calls prog 149 #[t] w (bO w (vl (r.length+1) (Lex.text r 1))):=by let⟨e,g,f,d⟩:=CQ a;have:=aeh t e b w;rw[f,d]at this;exact this
def uF (s) (x:Int) (i:Nat) (w) (b:x=(i:Int)) (a:i<=s.size) (c:s.size<=4611686018427387904):
 Calls prog 147 #[string s,x] w λe w'=>e= .returned (int .i64 (eu s false i:Nat))/\w=w':=by subst b;exact adN s i a c w
def afD:(prog.info? 190).map (λi=>(i.zero,i.size,i.bytes))=some (some (agg #["","","s"]),3,32):=ry
def jv (w:Wd) (s:au) (v:ai) (k:Nat) (xs:List Lex.Tok) (wr:Wd):Prop:=
 k<=s.size/\xs.length<=k/\wr.ownsRow w 190 3 v xs.length (xs.flatMap xu)/\Below w w wr/\Lex.skip false ((Lex.bl s).drop k)=(Lex.bl s).drop k/\
  Lex.all (s.size+1) (Lex.bl s) s.size=(xs++(Lex.all (s.size+1) ((Lex.bl s).drop k) s.size).1,(Lex.all (s.size+1) ((Lex.bl s).drop k) s.size).2)
theorem jv.start (w:Wd) (s:au):jv w s () (eu s false 0) [] w:=by
 have a:(Lex.bl s).drop (eu s false 0)=Lex.skip false (Lex.bl s):=by obtain⟨d,a⟩:=Le false (Lex.bl s);grind[eu,CA]
 refine⟨(JQ s false 0 (Nat.zero_le _)).2,Nat.zero_le _,World.ownsRow_nil _ _ _ _,aN,?_,?_⟩;{rw[a,Cg]};rw[a,LL];simp
theorem jv.step {F2:ai} {k kk:Nat} {xs:List Lex.Tok} {p:Bs} (i:jv w s v k xs wr) (l:(Lex.bl s).drop k=c::r) (b:Lex.one c r= .ok (kk,p,G8))
 (m:W.ownsRow w.heap.size 190 3 F2 (xs.length+1) (xs.flatMap xu++[int .i64 (kk:Int),int .i64 (k:Int),string ⟨p.toArray⟩])) (j:Below w.heap.size w W):
 jv w s F2 (eu s false (s.size-G8.length)) (xs++[⟨kk,k,p⟩]) W/\k<eu s false (s.size-G8.length):=by
 obtain⟨B,u,_,_,g,o⟩:=i;refine EE λa=>?_;obtain⟨⟨d,q⟩,_⟩:=agi b;have z:=uB b;have x:=CA (l.trans q);have n:=JQ s false (s.size-G8.length) (Nat.sub_le _ _);have e:(Lex.bl s).drop (eu s false (s.size-G8.length))=Lex.skip false G8:=by obtain⟨t,y⟩:=Le false G8;grind[eu,CA]
 refine⟨⟨n.2,by simp;omega,?_,j,?_,?_⟩,oy⟩;{rw[flatMap_append,length_append];exact m};{rw[e,Cg]};rw[e,o,l];have A:=aax (f:=s.size) (N:=s.size) (by rw[<-l];exact g) b oy;grind
theorem jv.err {k:Nat} {xs:List Lex.Tok} (f:jv w s v k xs wr) (l:(Lex.bl s).drop k=c::r) (b:Lex.one c r= .error (m,e)):
 Lex.all (s.size+1) (Lex.bl s) s.size=(xs,k+m,e):=by obtain⟨i,_,_,_,d,g⟩:=f;refine EE λa=>?_;rw[g,l,YX (by rw[<-l];exact d) b];grind
def jv.later {k:Nat} {xs:List Lex.Tok} (h:jv w s v k xs wr) (c:Below wr wr W):jv w s v k xs W:=by obtain⟨e,l,a,d,f,i⟩:=h;refine⟨e,l,⟨a.1,?_⟩,d.trans (c.mono d.size),f,i⟩;obtain j|⟨g,cap,m,o,n,b,rest⟩:=a.2;{exact .inl j};exact .inr ⟨g,cap,m,o,n,(c.block g (Array.getElem?_eq_some_iff.1 b).1).trans b,rest⟩
def jv.end_ {k:Nat} {xs:List Lex.Tok} (b:jv w s v k xs wr) (c: ¬k<s.size):Lex.all (s.size+1) (Lex.bl s) s.size=(xs,s.size,0):=by obtain⟨_,_,_,_,_,a⟩:=b;rw[a,Lex.lC s k oy,Lex.all_nil,append_nil]
def Ps (w:Wd) (s:au) (e:Ending) (w':Wd):Prop:=
 ∃a n c,e= .returned (tuple #[slice a n c,((Lex.all (s.size+1) (Lex.bl s) s.size).2.1),(Lex.all (s.size+1) (Lex.bl s) s.size).2.2])/\Ro w' w' a n c (Lex.all (s.size+1) (Lex.bl s) s.size).1/\Below w w w'
def jv.ret {k:Nat} {xs:List Lex.Tok} {x y:Int} (d:jv w s v k xs wr) (a:Lex.all (s.size+1) (Lex.bl s) s.size=(xs,m,e)) (g:x=(m:Int)) (hy:y=e):
 Ps w s (.returned (tuple #[v,x,y])) wr:=by obtain⟨_,_,b,h,_,_⟩:=d;obtain⟨i,c,rfl,f⟩:=aA.dV Ve dy b;refine⟨i,xs.length,c,?_,?_,h⟩;{rw[a,g,hy]};rw[a];exact f
def afO (s:au) (c0:s.size<=60000) (w:Wd):Calls prog 107 #[string s] w λe w'=>Ps w s e w':=by
 obtain⟨N,Q,O,R,X⟩:=info_parts afD;go_enter func107,ntmps107;go_wp2_with fail
 refine(uF s 0 0 _ rfl (Nat.zero_le _) oy).mono ?_;rintro e w' ⟨rfl,rfl⟩;go_wp2;go_loopw[5,6] (λv i wr=> ∃ (k:Nat) (xs:List Lex.Tok),i=int .i64 k/\jv w s v k xs wr) (λ_ i _=>s.size- (intOf i).toNat);case atStart=>exact⟨_,[],rfl,jv.start w s⟩
 case round=>obtain⟨k,xs,rfl,H⟩:=hrel;have d1:=H.1;have c6:=H.2.1;have a3:=H.2.2.2.1;have a':=a3.size;have d:=hJ H;clear H;by_cases a9:k<s.size;{obtain⟨c,b'⟩:=xR (s[k]);have l:=Lex.drop_cons s k a9;rw[b']at l;obtain⟨r,b3⟩:=xS ((Lex.bl s).drop (k+1));rw[<-b3]at l;clear b3;refine EE λa=>?_;obtain⟨z,E⟩:=aq l a;have b2:=(Lex.sw s k).trans l;have U:=hJ b2;clear l a b2;(obtain⟨b0,cap,rfl⟩: ∃b0 cap,u5=slice b0 xs.length cap:=by obtain⟨Z,b5⟩|⟨g,cap,c7,Z,_⟩:=d.o.2.2.1.2;{exact⟨none,0,by rw[Z,b5]⟩};exact⟨_,_,Z⟩);(have d2:((xs.length:Int)==65536)=false:=by simp;omega);rcases W:ik c r with⟨kk,A⟩;obtain⟨b6,C⟩:=VY W;have x:=hJ (aeI W);(go_wp2_with fail);refine(aal _ c r _ U.o).mono ?_;rintro e w' ⟨rfl,rfl⟩;rw[W];clear W;obtain rfl|rfl|rfl|rfl|rfl:=b6;{have f:=hJ (x.o.1 rfl);clear x C;go_wp2;go_ret3;exact d.o.ret (d.o.err z.o f.o) iy rfl};{have f:=hJ (x.o.2.1 rfl);obtain⟨m,u⟩:=xS ((r.takeWhile (Lex.goes false)).length+1);have a4:=BU (Lex.goes false) r;have a:=E.o;(have n:1<=m/\k+m<=s.size:=by omega);obtain⟨B,a7,a5⟩:=aM (show s.size- (r.dropWhile (Lex.goes false)).length=k+m by omega) (show s.extract k (k+m)=⟨(c::r.takeWhile (Lex.goes false)).toArray⟩from Lex.piece (r:=r.dropWhile (Lex.goes false)) (by rw[z.o,cons_append,takeWhile_append_dropWhile]) (by simp[u])) u.symm;clear x C u a4 a;obtain⟨n,a8⟩:=n;(go_wp2_with fail);refine(MU _ false c r _ U.o uy).mono ?_;rintro e w' ⟨rfl,rfl⟩;rw[a5.o];(go_wp2_with(at_builtin;refine wpList_append_own _ rfl _ _ 184 rfl w.heap.size 190 N _ 3 32 underlying184 Q O R X rfl dy _ _ _ rfl (d.o.2.2.1.alloc (.cells #[int .i64 1,int .i64 (k:Int),string (s.extract k (k+m))] 190)) ⟨wr.heap.size,0,none⟩ 1 1 [int .i64 1,int .i64 (k:Int),string (s.extract k (k+m))] rfl rfl ?c1 ?c2 ?c3 ?c4 ?c5 ?_));(case c1=>exact vq);(case c2=>intro a1 o;simp at o;obtain rfl|rfl|rfl:=o<;>rfl);(case c3=>unfold maxLen;omega);(case c4=>omega);(case c5=>simp;omega);refine EF λG J y b=>?_;obtain⟨q,a2⟩:=d.o.step (kk:=1) z.o f.o b y;have K:=hJ q;clear q b;(go_wp2_with fail);refine(uF s _ (s.size- (r.dropWhile (Lex.goes false)).length) _ (by rw[B.o];simp) oy oy).mono ?_;exact zm};{have f:=hJ (x.o.2.2.1 rfl);obtain⟨m,u⟩:=xS ((r.takeWhile (Lex.goes true)).length+1);have a4:=BU (Lex.goes true) r;have a:=E.o;(have n:1<=m/\k+m<=s.size:=by omega);obtain⟨B,a7,a5⟩:=aM (show s.size- (r.dropWhile (Lex.goes true)).length=k+m by omega) (show s.extract k (k+m)=⟨(c::r.takeWhile (Lex.goes true)).toArray⟩from Lex.piece (r:=r.dropWhile (Lex.goes true)) (by rw[z.o,cons_append,takeWhile_append_dropWhile]) (by simp[u])) u.symm;clear x C u a4 a;obtain⟨n,a8⟩:=n;(go_wp2_with fail);refine(MU _ true c r _ U.o uy).mono ?_;rintro e w' ⟨rfl,rfl⟩;rw[a5.o];(go_wp2_with(at_builtin;refine wpList_append_own _ rfl _ _ 184 rfl w.heap.size 190 N _ 3 32 underlying184 Q O R X rfl dy _ _ _ rfl (d.o.2.2.1.alloc (.cells #[int .i64 2,int .i64 (k:Int),string (s.extract k (k+m))] 190)) ⟨wr.heap.size,0,none⟩ 1 1 [int .i64 2,int .i64 (k:Int),string (s.extract k (k+m))] rfl rfl ?c1 ?c2 ?c3 ?c4 ?c5 ?_));(case c1=>exact vq);(case c2=>intro a1 o;simp at o;obtain rfl|rfl|rfl:=o<;>rfl);(case c3=>unfold maxLen;omega);(case c4=>omega);(case c5=>simp;omega);refine EF λG J y b=>?_;obtain⟨q,a2⟩:=d.o.step (kk:=2) z.o f.o b y;have K:=hJ q;clear q b;(go_wp2_with fail);refine(uF s _ (s.size- (r.dropWhile (Lex.goes true)).length) _ (by rw[B.o];simp) oy oy).mono ?_;exact zm};{have f:=hJ (x.o.2.2.2.1 rfl);clear x C;(go_wp2_with fail);refine(agd _ c r _ U.o uy).mono ?_;rintro e b9 ⟨rfl,M⟩;rcases F:Lex.text r 1 with⟨m,S⟩|⟨p,t⟩;{have a6:=hJ (show Lex.one c r= .error (m,S)by rw[f.o,F];rfl);have b7:=ade _ r 1 m S ny F;have D:=hJ (d.o.later M);have a:=E.o;(have c9:k+m<=s.size:=by omega);clear F f;rw[show vl (r.length+1) (Except.error (m,S))=tuple #[string ⟨#[]⟩,int .i64 (m:Int),int .i64 S]from rfl];obtain⟨rfl,rfl⟩|⟨rfl,c',d0⟩:=b7;{exact SG};exact SG};(have a0:Lex.one c r= .ok (3,p,t):=by rw[f.o,F];rfl);have b8:=uB a0;obtain⟨a6,D⟩:=aq a0 (d.o.later M);obtain⟨m,u⟩:=xS (r.length+1-t.length);have a:=E.o;(have n:1<=m/\k+m<=s.size:=by omega);have B:=hJ (show s.size-t.length=k+m by omega);rw[show vl (r.length+1) (Except.ok (p,t))=tuple #[string ⟨p.toArray⟩,int .i64 ((r.length+1-t.length:Nat):Int),int .i64 0]from rfl,<-u];clear F f a0 b8 u;obtain⟨n,a8⟩:=n;have c8:=M.size;(go_wp2_with(at_builtin;refine wpList_append_own _ rfl _ _ 184 rfl w.heap.size 190 N _ 3 32 underlying184 Q O R X rfl dy _ _ _ rfl (D.o.2.2.1.alloc (.cells #[int .i64 3,int .i64 (k:Int),string (⟨p.toArray⟩)] 190)) ⟨b9.heap.size,0,none⟩ 1 1 [int .i64 3,int .i64 (k:Int),string (⟨p.toArray⟩)] rfl rfl ?c1 ?c2 ?c3 ?c4 ?c5 ?_));(case c1=>exact vq);(case c2=>intro a1 o;simp at o;obtain rfl|rfl|rfl:=o<;>rfl);(case c3=>unfold maxLen;omega);(case c4=>omega);(case c5=>simp;omega);intro G J b I _;have y:=((a3.trans (M.mono a')).alloc oy _).grown I uy (λg e=>(D.o.2.2.1.lt g e).1);clear I;obtain⟨q,a2⟩:=D.o.step (kk:=3) z.o a6.o b y;have K:=hJ q;clear q b;(go_wp2_with fail);refine(uF s _ (s.size-t.length) _ (by rw[B.o];simp) oy oy).mono ?_;exact zm};obtain⟨p,V⟩:=xS ((c::r).take A);obtain⟨t,L⟩:=xS ((c::r).drop A);have Y:=x.o.2.2.2.2 rfl;(have b1:(Lex.bl s).drop k=p++t:=by rw[z.o,V,L,take_append_drop]);have b4:=C rfl;have a:=E.o;(have n:1<=A/\k+A<=s.size:=by omega);obtain⟨B,a7⟩:=aq (show s.size-t.length=k+A by rw[L,length_drop,length_cons];omega) (show s.extract k (k+A)=⟨p.toArray⟩from Lex.piece b1 (by rw[V,length_take,length_cons];omega));rw[<-V,<-L]at Y;have f:=hJ Y;clear x C b4 a V L Y b1;obtain⟨n,a8⟩:=n;(go_wp2_with(at_builtin;refine wpList_append_own _ rfl _ _ 184 rfl w.heap.size 190 N _ 3 32 underlying184 Q O R X rfl dy _ _ _ rfl (d.o.2.2.1.alloc (.cells #[int .i64 4,int .i64 (k:Int),string (s.extract k (k+A))] 190)) ⟨wr.heap.size,0,none⟩ 1 1 [int .i64 4,int .i64 (k:Int),string (s.extract k (k+A))] rfl rfl ?c1 ?c2 ?c3 ?c4 ?c5 ?_));(case c1=>exact vq);(case c2=>intro a1 o;simp at o;obtain rfl|rfl|rfl:=o<;>rfl);(case c3=>unfold maxLen;omega);(case c4=>omega);(case c5=>simp;omega);refine EF λG J y b=>?_;obtain⟨q,a2⟩:=d.o.step (kk:=4) z.o f.o b y;have K:=hJ q;clear q b;(go_wp2_with fail);refine(uF s _ (s.size-t.length) _ (by rw[B.o];simp) oy oy).mono ?_;exact zm};go_wp2;go_ret3;exact d.o.ret (d.o.end_ a9) rfl rfl
def afb (t:Tk):List ai:=[t.1,t.2.1,t.2.2]
def bP (W:Wd) (B:Nat) (A:ah ak) (n c:Nat) (xs:List Tk):Prop:=
 aA afb 3 W B A n c xs/\ ∀t∈xs,t.2.2.size<= ""
section
variable{W W':Wd} {B B' n c:Nat} {A:ah ak} {xs:List Tk}
def bP.len (a:bP W B A n c xs):xs.length=n:=a.1.1
def bP.below (a:bP W B A n c xs) (b:Below B W W'):bP W' B A n c xs:=⟨a.1.below b,a.2⟩
def bP.later (a:bP W W A n c xs) (b:az W W'):bP W' W' A n c xs:=⟨a.1.later b,a.2⟩
def bP.more (a:bP W B A n c xs) (b:B<=B'):bP W B' A n c xs:=⟨a.1.more b,a.2⟩
def bP.alloc (b:bP W B A n c xs) (d:B<=W) (a:Obj):bP (W.alloc a) B A n c xs:=⟨b.1.alloc d a,b.2⟩
def bP.at_ (g:bP W B A n c xs) {k:Nat} (i:k<n): ∃b d t,A=some (b d)/\b<B/\xs[k]?=some t/\t.2.2.size<= ""/\W.cell? (b (d+k*3))=(t.1:ai)/\W.cell? (b (d+k*3+1))=(t.2.1:ai)/\W.cell? (b (d+k*3+2))=(t.2.2:ai):=by let⟨b,d,e,m,j⟩:=g.1.at_ oy;have h:xs[k]?=some (xs[k]' vX):=br _;exact RF
theorem bP.cap (a:bP W B A n c xs):n<=c/\c<= "":=⟨a.1.2.1,a.1.2.2.1⟩
end
abbrev Rd (w:Wd) (r:Nat) (A:ah ak) (n c i:Nat):Prop:=af w r 415 #[slice A n c,i]
def wZ (r A n c i ts w) (f:ts.length=n) (e:Rd w r A n c i):
 Calls prog 322 #[pointer (some (r 0))] w (bO w (int .i64 (fg ts i))):=by have j:=e.lt;have a:=hJ e;clear e;by_cases b:n<=i;{have d:=hJ (show fg ts i=3 by unfold fg;rw[aK oy]);have g:=bG b;clear b f;go_enter func322,ntmps322;go_wp2;refine sR λhH=>?_;exact yT};have d:=hJ (show fg ts i=1 by unfold fg;rw[aG oy]);have g:=bj b;clear b f;go_enter func322,ntmps322;go_wp2;refine sR λhH=>?_;exact yT
def sG (r A n c i ts k w) (e:bP w w A n c ts) (f:Rd w r A n c i):
 Calls prog 340 #[pointer (some (r 0)),int .i64 k] w (bO w (bool (cX ts i k))):=by have y:=f.lt;have a:=hJ f;have o:=e.len;clear f;by_cases j:i<n;{obtain⟨b,C,t,rfl,x,m,-,g,-,-⟩:=e.at_ j;let⟨v,l⟩:=xR (t.1==k);have d:=hJ (show cX ts i k=v by rw[kO m,l]);obtain⟨q,u⟩: ∃q:Int,t.1=q:=⟨_,rfl⟩;rw[u]at g l;have p:=hJ g;clear o e m u g;go_enter func340,ntmps340;exact RV};have d:=hJ (show cX ts i k=false from xC (getElem?_eq_none oy));have z:=bj j;clear j o e;go_enter func340,ntmps340;go_wp2;refine yN λhH=>?_;refine te [24,25] ?_;exact yT
structure ax (r:Nat) (w w':Wd):Prop where
 os:w'.os=w.os
 tape:w'.tape=w.tape
 output:w'.output=w.output
 size:w<=w'.heap.size
 block: ∀k,k<w.heap.size->k≠r->w'.heap[k]?=w.heap[k]?
section
variable{r:Nat} {w w' w'':Wd}
def ax.refl (r w):ax r w w:=⟨rfl,rfl,rfl,ny,λ_ _ _=>rfl⟩
theorem ax.trans (a:ax r w w') (k:ax r w' w''):ax r w w'':=
 ⟨k.os.trans a.os,k.tape.trans a.tape,k.output.trans a.output,cK a.size k.size,λi b d=>(k.block i (dS b a.size) d).trans (a.block i b d)⟩
def ax.of (a:az w w'):ax r w w':=⟨a.os,a.tape,a.output,a.size,λi b _=>a.block i b⟩
def ax.below (a:ax r w w') (d:B<=r) (e:B<=w):Below B w w':=⟨a.os,a.tape,a.output,a.size,λi b=>a.block i oy oy⟩
def ax.drew (a:ax r w w'):ax r w w'.drew:=⟨a.os,a.tape,a.output,a.size,a.block⟩
def ax.alloc (b:ax r w w') (a:Obj):ax r w (w'.alloc a):=b.trans (ax.of (aN.alloc ny a))
theorem ax.setCell (d:ax r w w') (i:Nat) (a:ai):ax r w (w' (r i) a):=
 d.trans ⟨rfl,rfl,rfl,by simp[World.setCell],λk _ b=>Below.heap_setCell _ _ _ _ b⟩
def ax.aI (a:ax r w w') {p:ak} (e:w<=p.block) (u):ax r w (w' p u):=
 ⟨a.os,a.tape,a.output,by have:=a.size;simp[World.setCell];exact this,λk d b=>(Below.heap_setCell _ _ _ _ oy).trans (a.block k d b)⟩
def ax.cell (d:ax r w w') {p:ak} (a:p.block<w) (b:p.block≠r):w'.cell? p=w.cell? p:=World.cell?_of_block (w:=w) (d.block p.block a b)
def ax.aX (d:ax r w w') {t:ch} {cs:Array ai} (a:af w g t cs) (b:g≠r):af w' g t cs:=(d.block g a.lt b).trans a
def ax.own (f:ax r w w') {e:ch} (d:w.ownsRow base e sz v n xs) (o:r<base):w'.ownsRow base e sz v n xs:=by let⟨b,i⟩:=d;refine⟨b,?_⟩;obtain h|⟨g,cap,k,m,l,a,rest⟩:=i;{exact .inl h};exact .inr ⟨g,cap,k,m,l,(f.block g (gm.1 a).1 oy).trans a,rest⟩
end
def bP.but {w':Wd} {r:Nat} {c:Nat} {ts:List Tk} (d:bP w r A n c ts) (b:ax r w w') (a:r<=w):bP w' r A n c ts:=d.below (b.below ny a)
structure MS (T:ch) (cs:Array ai) (w:Wd) (r:Nat) (A:ah ak) (n c:Nat) (ts:List Tk) (wq:Wd) (j:Nat):Prop where
 rd:Rd wq r A n c j
 aX:af wq w T cs
 but:ax r w wq
 ct:bP wq r A n c ts
section
variable{T:ch} {cs:Array ai} {w wq w':Wd} {r:Nat} {A:ah ak} {n c j j':Nat} {ts:List Tk}
theorem MS.step (a:MS T cs w r A n c ts wq j) (e:r<w) (d:Rd w' r A n c j') (b:ax r wq w'):MS T cs w r A n c ts w' j':=
 ⟨d,b.aX a.aX oy,a.but.trans b,a.ct.but b (aR a.rd.lt)⟩
theorem MS.keep (a:MS T cs w r A n c ts wq j) (b:az wq w'):MS T cs w r A n c ts w' j:=
 ⟨a.rd.below b a.rd.lt,a.aX.below b a.aX.lt,a.but.trans (ax.of b),a.ct.but (ax.of b) (aR a.rd.lt)⟩
def MS.aI (b:MS T cs w r A n c ts wq j) (d:r<w) (i:Nat) (a:ai):MS T (cs.setIfInBounds i a) w r A n c ts (wq (an w i) a) j:=
 ⟨b.rd.aI (Nat.ne_of_lt d) a,b.aX.ay i a,b.but.aI ny a,b.ct.below (aN.setCell (dH d) a)⟩
end
def Rd.ay {r:Nat} {c:Nat} (a:Rd w r A n c i):Rd (w (r 1) j) r A n c j:=by exact DZ
def kS (r A n c i ts s b) (v:cY ts i s=b) (j) (p:j=if b=true then i+1 else i) (w) (m:bP w r A n c ts) (D:Rd w r A n c i):
 Calls prog 320 #[pointer (some (r 0)),string s] w λe w'=>e= .returned (bool b)/\Rd w' r A n c j/\ax r w w':=by have o:=D.lt;let⟨l,H⟩:=aq D (m.more (dH o));clear D;cases f:cX ts i 4;{have G:=hJ (show cX ts i 4=false from f);(obtain rfl:b=false:=by rw[<-v];rcases d:ts[i]? with _|t;{exact xx d};rw[kO d]at f;rw[xq d,f];rfl);have q:=p.symm;clear p;subst q;clear f v m;go_enter func320,ntmps320;go_wp2;refine sP λhH=>?_;refine aV 1 λK a=>?_;go_simp;have d:=sG r A n c i ts 4 _ ((H.o.below hH).more hH.size) (l.o.below hH o);rw[G.o]at d;refine mB d λz g=>?_;refine yP λhH=>?_;refine tk 2 ?_;refine tk 3 ?_;refine cw 4 ?_;refine qY ?_;refine vP ?_;refine te [17] ?_;exact ON};have O:=jm f;have J:=m.len;obtain⟨y,N,t,rfl,R,B,-,-,-,F⟩:=m.at_ (k:=i) oy;have W:=m.cap;have U:i<n:=oy;have G:=hJ (show cX ts i 4=true from f);(have u:b=decide (t.2.2=s):=by rw[<-v,xq B];rw[kO B]at f;rw[f];rfl);let⟨L,I⟩:=xR t.2.2;rw[I]at u F;have M:=hJ F;refine Sh λC E=>?_;clear f v m B I F J O;by_cases x:L=s;{(obtain rfl:b:=by rw[u];exact bG x);have q:=p;clear p;subst q;clear u;subst x;go_enter func320,ntmps320;go_wp2;refine Pd λK a d z g hH=>?_;have m1:=bC hH (l.o.cell 1);simp at m1;have S:=(l.o.below hH o).frozen 1;go_wp2;go_ret;exact⟨rfl,Rd.ay (l.o.below hH o),(ax.of hH).setCell 1 _⟩};(obtain rfl:b=false:=by rw[u];exact bj x);have q:=p.symm;clear p;subst q;have V:=ym x;clear u;go_enter func320,ntmps320;go_wp2;refine Pd λK a d z g hH=>?_;exact ON
def Mo (r A n c i ts e0) (q:gZ ts i=e0) (s0) (x:s0=if e0=0 then dz ts i else⟨#[]⟩) (j) (o:j=if e0=0 then i+1 else i) (w) (l:bP w r A n c ts) (D:Rd w r A n c i):
 Calls prog 319 #[bK r] w λe w'=>e= .returned (tuple #[string s0,int .i64 e0])/\Rd w' r A n c j/\ax r w w':=by have g:=D.lt;have X:=l.len;let⟨d,Q⟩:=aq D (l.more (dH g));clear D;cases f:cX ts i 1;{have J:=hJ (show cX ts i 1=false from f);(have I:e0=fg ts i/\e0≠0:=by rcases b:ts[i]? with _|t;{have S:=List.getElem?_eq_none_iff.1 b;rw[tW b]at q;unfold fg;rw[aK S];omega};have S:=(bZ.1 b).1;rw[kO b]at f;rw[uc b,aG (by simpa using f)]at q;unfold fg;rw[aG oy];omega);rw[aG I.2]at x o;have W:=o.symm;clear o;subst x W;have a3:=hJ I.1;clear f l q I;go_enter func319,ntmps319;(go_wp2_with fail);have b:=sG r A n c i ts 1 w Q.o d.o;rw[J.o]at b;refine mB b λU a=>?_;(go_wp2_with fail);refine mB (wZ r A n c i ts U X (d.o.below a g)) λa7 Z=>?_;have v:=bU a Z;go_wp2;go_ret2;exact⟨by rw[a3.o];rfl,d.o.below v g,ax.of v⟩};have a2:=jm f;obtain⟨y,a1,t,rfl,a4,z,-,-,-,H⟩:=l.at_ (k:=i) oy;have a6:=l.cap;have a5:i<n:=oy;have J:=hJ (show cX ts i 1=true from f);(have u:e0=if aa.name t.2.2=true then 0 else 7:=by rw[<-q,uc z];rw[kO z]at f;rw[aK (by simpa using f)]);have L:=ji z;let⟨G,R⟩:=xR t.2.2;rw[R]at u H L;let⟨a0,M⟩:=aq H L;refine Sh λC E=>?_;clear f q l z R H a2 L;let⟨K,B⟩:=xR (aa.name G);rw[B]at u;have O:=hJ B;(have Y:(K=false/\e0=7/\s0=⟨#[]⟩/\i=j)\/(K/\e0=0/\s0=G/\j=i+1):=by cases K;{have F:e0=7:=u;subst F;exact .inl ⟨rfl,rfl,x,o.symm⟩};have F:e0=0:=u;subst F;exact .inr ⟨rfl,rfl,x.trans M.o,o⟩);clear B u x o M;go_enter func319,ntmps319;(go_wp2_with fail);have b:=sG r (some (y a1)) n c i ts 1 w Q.o d.o;rw[J.o]at b;refine mB b λU a=>?_;have V:=dS g a.size;have m0:=bC a (d.o.cell 0);have m1:=bC a (d.o.cell 1);have m:=bC a a0.o;have N:=(d.o.below a g).frozen 1;simp at m0 m1;go_wp2;refine yF λhH=>?_;have m1:=bC hH m1;have N:=(hH.frozen (p:=(r 1)) V).trans N;have v:=bU a hH;obtain⟨rfl,rfl,rfl,rfl⟩|⟨rfl,rfl,rfl,rfl⟩:=Y;{(go_wp2_with fail);refine mE (fB G false O.o _) ?_;go_wp2;go_ret2;exact⟨rfl,d.o.below v g,ax.of v⟩};(go_wp2_with fail);refine mE (fB _ true O.o _) ?_;go_wp2;go_ret2;exact⟨rfl,Rd.ay (d.o.below a g),((ax.of a).setCell 1 _).drew⟩
def LG (r:Nat) (f:ah ak) (n c i:Nat) (ts:List Tk) (w:Wd) (d:bP w r f n c ts) (m:Rd w r f n c i) (h:i<n):
 ∃b a t,f=some (b a)/\b<r/\ts[i]?=some t/\n<=c/\c<= ""/\t.2.2.size<= ""/\w.cell? (b (a+i*3+2))=(t.2.2:ai):=by obtain⟨b,a,t,e,l,j,g,-,-,k⟩:=d.at_ h;exact⟨b,a,t,e,l,j,d.cap.1,d.cap.2,g,k⟩
def Lo (r:Nat) (g:ah ak) (n c i k:Nat) (ts:List Tk) (m:aj.Mt) (j:Nat) (F:Int) (d:mG ts i k=(m,j,F)) (w:Wd) (c3:bP w r g n c ts) (c4:Rd w r g n c i):
 Calls prog 321 #[pointer (some (r 0)),k] w λe w'=>e= .returned (tuple #[agg #[m.1,m.2.1,m.2.2],F])/\Rd w' r g n c j/\ax r w w':=by have b:=c4.lt;have c5:=c3.len;obtain⟨a5,a6⟩:=aq c4 c3;unfold mG at d;by_cases y:gZ ts i≠0;{rw[aK y]at d;injection d with C l;injection l with l E;subst C l E;obtain⟨F,c2⟩:=xR (gZ ts i);rw[c2]at y⊢;have a3:=hJ c2;go_enter func321,ntmps321;(go_wp2_with fail);have D:MS 287 #["s","s",false] w r g n c ts (w.alloc (.cells #["s","s",false] 287)) i:=⟨af.alloc a5.o _,af.new w 287 #["s","s",false],(ax.refl r w).alloc _,a6.o.alloc (dH b) _⟩;obtain⟨G,L⟩:=xS (w.alloc (.cells #["s","s",false] 287));rw[<-L]at D⊢;have a:=hJ D;refine QZ ?_;rintro a1 ⟨q,o⟩;have a:=hJ (a.o.step b q o);obtain⟨W,N,V⟩:=wo a.o.aX;obtain⟨S,U,O⟩:=mX a.o.aX;go_wp2;have f:=hJ (((a.o.aI b 0 "s").aI b 1 "s").aI b 2 false);obtain⟨u,z,A⟩:=mX f.o.aX;refine bodyPost_ret (v:=tuple #[agg #["s","s",false],F]) (by simp[results,results321,go_sem,u,z,A]) rfl ⟨rfl,f.o.rd,f.o.but⟩};rw[aG y]at d;have a3:=hJ (show gZ ts i=0 by omega);obtain⟨x,c6⟩:=xR (dz ts i);rw[c6]at d;have d0:=hJ c6;rcases R:cY ts (i+1) ql with _|_;{rcases o:cY ts (i+1) aj.kK with _|_;{rw[aK ⟨R,o⟩]at d;injection d with C l;injection l with l E;subst C l E;obtain⟨a7,b5⟩:=aq R o;go_enter func321,ntmps321;(go_wp2_with fail);have D:MS 287 #["s","s",false] w r g n c ts (w.alloc (.cells #["s","s",false] 287)) i:=⟨af.alloc a5.o _,af.new w 287 #["s","s",false],(ax.refl r w).alloc _,a6.o.alloc (dH b) _⟩;obtain⟨G,L⟩:=xS (w.alloc (.cells #["s","s",false] 287));rw[<-L]at D⊢;have a:=hJ D;refine tj ?_;rintro a1 ⟨q,o⟩;have a:=hJ (a.o.step b q o);(go_wp2_with fail);refine NS ?_;rintro b0 ⟨q,o⟩;have a:=hJ (a.o.step b q o);(go_wp2_with fail);refine mB (kS r g n c (i+1) ts aj.kK false b5.o (i+1) rfl b0 a.o.ct a.o.rd) ?_;rintro c' ⟨q,o⟩;have a:=hJ (a.o.step b q o);(go_wp2_with fail);refine mB (wZ r g n c _ ts _ c5 a.o.rd) λd4 H=>?_;have a:=hJ (a.o.keep H);obtain⟨W,N,V⟩:=wo a.o.aX;obtain⟨S,U,O⟩:=mX a.o.aX;go_wp2;have f:=hJ (((a.o.aI b 0 "s").aI b 1 "s").aI b 2 false);obtain⟨u,z,A⟩:=mX f.o.aX;refine bodyPost_ret (v:=tuple #[agg #[string (⟨#[]⟩),string (⟨#[]⟩),bool false],int .i64 (fg ts (i+1))]) (by simp[results,results321,go_sem,u,z,A]) rfl ⟨rfl,f.o.rd,f.o.but⟩};rw[aG (by rw[o];simp),R]at d;obtain⟨a7,b5⟩:=aq R o;go_enter func321,ntmps321;(go_wp2_with fail);have D:MS 287 #["s","s",false] w r g n c ts (w.alloc (.cells #["s","s",false] 287)) i:=⟨af.alloc a5.o _,af.new w 287 #["s","s",false],(ax.refl r w).alloc _,a6.o.alloc (dH b) _⟩;obtain⟨G,L⟩:=xS (w.alloc (.cells #["s","s",false] 287));rw[<-L]at D⊢;have a:=hJ D;refine tj ?_;rintro a1 ⟨q,o⟩;have a:=hJ (a.o.step b q o);(go_wp2_with fail);refine NS ?_;rintro b0 ⟨q,o⟩;have a:=hJ (a.o.step b q o);(go_wp2_with fail);refine mB (kS r g n c (i+1) ts aj.kK true b5.o (i+2) rfl b0 a.o.ct a.o.rd) ?_;rintro c' ⟨q,o⟩;have a:=hJ (a.o.step b q o);obtain⟨p,a2⟩:=xR (i+2);rw[show i+3=p+1 by omega,a2]at d;rw[a2]at a;rcases J:cX ts p 3 with _|_;{exact SR};have d2:=jm J;have b3:p<n:=oy;have a':=hJ J;(go_wp2_with fail);refine Pf λK I H a=>?_;obtain⟨c8,d3,t,rfl,b2,X,c9,d1,b9,Z⟩:=LG r g n c p ts I a.o.ct a.o.rd b3;have c7:=Nat.lt_trans b2 a.o.rd.lt;have M:=Md (n:=k) J X;have a4:=ji X;obtain⟨B,b'⟩:=xR t.2.2;rw[b']at M a4 Z b9;rw[M,a4]at d;have c1:=hJ Z;by_cases b6:64<B.size;{have c0:decide ((64:Int)<B.size):=bG oy;rw[aK (Or.inl b6),aK dy]at d;exact zz};have c0:decide ((64:Int)<B.size)=false:=bj oy;by_cases b4:8<=k;{have b7:decide ((8:Int)<=k):=bG oy;rw[aK (Or.inr b4),aK dy]at d;exact zz};have b7:decide ((8:Int)<=k)=false:=bj oy;rw[aG oy]at d;injection d with C l;injection l with l E;subst C l E;refine SH λb8=>?_;go_wp2;refine Pt λhH a9 a=>?_;generalize I.drew=b1 at a⊢;refine Rv λfr a8 Y a m0 m1 W N V S U O=>?_;go_wp2;have f:=hJ (((a.o.aI b 0 x).aI b 1 B).aI b 2 false);obtain⟨u,z,A⟩:=mX f.o.aX;refine bodyPost_ret (v:=tuple #[agg #[x,B,false],""]) (by simp[results,results321,go_sem,u,z,A]) rfl ⟨rfl,f.o.rd,f.o.but⟩};rw[aG (by rw[R];simp),R]at d;have a7:=hJ R;go_enter func321,ntmps321;(go_wp2_with fail);have D:MS 287 #["s","s",false] w r g n c ts (w.alloc (.cells #["s","s",false] 287)) i:=⟨af.alloc a5.o _,af.new w 287 #["s","s",false],(ax.refl r w).alloc _,a6.o.alloc (dH b) _⟩;obtain⟨G,L⟩:=xS (w.alloc (.cells #["s","s",false] 287));rw[<-L]at D⊢;have a:=hJ D;refine tj ?_;rintro a1 ⟨q,o⟩;have a:=hJ (a.o.step b q o);(go_wp2_with fail);refine mB (kS r g n c (i+1) ts ql true a7.o (i+2) rfl a1 a.o.ct a.o.rd) ?_;rintro b0 ⟨q,o⟩;have a:=hJ (a.o.step b q o);obtain⟨p,a2⟩:=xR (i+2);rw[show i+3=p+1 by omega,a2]at d;rw[a2]at a;rcases J:cX ts p 3 with _|_;{exact SR};have d2:=jm J;have b3:p<n:=oy;have a':=hJ J;(go_wp2_with fail);refine Pf λK I H a=>?_;obtain⟨c8,d3,t,rfl,b2,X,c9,d1,b9,Z⟩:=LG r g n c p ts I a.o.ct a.o.rd b3;have c7:=Nat.lt_trans b2 a.o.rd.lt;have M:=Md (n:=k) J X;have a4:=ji X;obtain⟨B,b'⟩:=xR t.2.2;rw[b']at M a4 Z b9;rw[M,a4]at d;have c1:=hJ Z;by_cases b6:64<B.size;{have c0:decide ((64:Int)<B.size):=bG oy;rw[aK (Or.inl b6),aK dy]at d;exact zz};have c0:decide ((64:Int)<B.size)=false:=bj oy;by_cases b4:8<=k;{have b7:decide ((8:Int)<=k):=bG oy;rw[aK (Or.inr b4),aK dy]at d;exact zz};have b7:decide ((8:Int)<=k)=false:=bj oy;rw[aG oy]at d;injection d with C l;injection l with l E;subst C l E;refine SH λb8=>?_;go_wp2;refine Pt λhH a9 a=>?_;generalize I.drew=b1 at a⊢;refine Rv λfr a8 Y a m0 m1 W N V S U O=>?_;go_wp2;have f:=hJ (((a.o.aI b 0 x).aI b 1 B).aI b 2 true);obtain⟨u,z,A⟩:=mX f.o.aX;refine bodyPost_ret (v:=tuple #[agg #[x,B,true],""]) (by simp[results,results321,go_sem,u,z,A]) rfl ⟨rfl,f.o.rd,f.o.but⟩
def agR:(prog.info? 287).map (λi=>(i.zero,i.size,i.bytes))=some (some (agg #["s","s",false]),3,40):=ry
def lenOf:ah ai->Nat|some (slice _ n _)=>n|_=>0
def HJ {ts:List Tk} {f:Nat} {m:aj.Mt} (a:mG ts i ms.length=(m,j,e)):
 oe ts (f+1) i ms=if e≠0 then([],j,e)else if cY ts j aj.eY=true then(ms++[m],j+1,0)else if cY ts j aj.jD=true then oe ts f (j+1) (ms++[m])else([],j,fg ts j):=by rw[oe,a]
theorem Hz {ts:List Tk} {k:Nat} {m:aj.Mt} (a:mG ts i k=(m,j,0)):aa.name m.1/\m.2.1.size<=64/\k<8/\j=i+3:=by unfold mG at a;by_cases e:gZ ts i≠0;{grind};rw[aG e]at a;by_cases g:cY ts (i+1) ql=false/\cY ts (i+1) aj.kK=false;{rw[aK g]at a;injection a with _ a;injection a with _ a;exact absurd a (ni _ _)};rw[aG g]at a;by_cases d:lY ts (i+2) k≠0;{grind};rw[aG d]at a;injection a with h a;injection a with a _;have d:lY ts (i+2) k=0:=oy;have e:gZ ts i=0:=oy;have f:=congrArg (·.1) h;have l:=congrArg (·.2.1) h;simp only at f l;refine⟨?_,?_,?_,a.symm⟩;{rw[<-f];rcases b:ts[i]? with _|t;{rw[tW b]at e;cases e};rw[uc b]at e;rw[ji b];grind};{rw[<-l];rcases b:ts[i+2]? with _|t;{rw[uh b]at d;cases d};rw[ue b]at d;rw[ji b];omega};rcases b:ts[i+2]? with _|t;{rw[uh b]at d;cases d};rw[ue b]at d;omega
theorem kj (a:aa.name s):1<=s.size/\s.size<=64:=by grind[aa.name]
def uX (a:au) (x:List aj.Mt×Nat×Int):au×List aj.Mt×Nat×Int:=if x.2.2≠0 then(⟨#[]⟩,[],x.2.1,x.2.2)else(a,x.1,x.2.1,0)
def adm {b k:Nat} {e:ch} (d:w.ownsRow b e sz v n xs) (o:k<=b):w.ownsRow k e sz v n xs:=by let⟨a,h⟩:=d;refine⟨a,?_⟩;obtain f|⟨g,cap,i,l,m,rest⟩:=h;{exact .inl f};exact .inr ⟨g,cap,i,l,oy,rest⟩
def jL (W:Wd) (base:Nat) (A:ah ak) (n c:Nat) (ms:List aj.Mt):Prop:=
 W.ownsRow base 287 3 (slice A n c) ms.length (ms.flatMap qE)/\ ∀p∈ms,p.1.size<=64/\p.2.1.size<=64
def jL.none_ (W base):jL W base none 0 0 []:=⟨⟨rfl,.inl ⟨rfl,rfl⟩⟩,λp a=>absurd a iy⟩
def jL.nN {c:Nat} (a:jL W base A n c ms):cQ W W A n c ms:=by let⟨A',c',e,b⟩:=aA.dV wM dy a.1;cases e;exact⟨b,λp d=>aR (a.2 p d)⟩
def jL.ay {c:Nat} (b:jL W base A n c ms) {a:ak} (d:a.block<base) (u):jL (W a u) base A n c ms:=⟨ownsRow_setCell_below b.1 d u,b.2⟩
def jL.alloc {c:Nat} (b:jL W base A n c ms) (a:Obj):jL (W.alloc a) base A n c ms:=⟨b.1.alloc a,b.2⟩
structure SS (w:Wd) (r:Nat) (A:ah ak) (n c:Nat) (ts:List Tk) (gs:Nat) (nm:au) (v:ai) (ms:List aj.Mt) (wr:Wd) (j:Nat):Prop where
 rd:Rd wr r A n c j
 dL:af wr w 88 #["s",()]
 bI:af wr gs 88 #[nm,v]
 own:wr.ownsRow (gs+1) 287 3 v ms.length (ms.flatMap qE)
 but:ax r w wr
 ct:bP wr r A n c ts
 nB: ∀p∈ms,p.1.size<=64/\p.2.1.size<=64
section
variable{w wr w':Wd} {r:Nat} {A:ah ak} {n c gs j j':Nat} {ts:List Tk} {nm:au} {v v':ai} {ms:List aj.Mt}
theorem SS.step (a:SS w r A n c ts gs nm v ms wr j) (e:r<w) (f:w<gs) (d:Rd w' r A n c j') (b:ax r wr w'):SS w r A n c ts gs nm v ms w' j':=
 ⟨d,b.aX a.dL oy,b.aX a.bI oy,b.own a.own oy,a.but.trans b,a.ct.but b (aR a.rd.lt),a.nB⟩
theorem SS.keep (a:SS w r A n c ts gs nm v ms wr j) (d:r<w) (e:w<gs) (b:az wr w'):SS w r A n c ts gs nm v ms w' j:=
 a.step d e (a.rd.below b a.rd.lt) (ax.of b)
theorem SS.grown {G1:List aj.Mt} (a:SS w r A n c ts gs nm v ms wr j) (x:r<w) (q:w<gs) (d:wr.grownBy w' v.ownBlock) (u:w'.ownsRow (gs+1) 287 3 v' G1.length (G1.flatMap qE)) (m: ∀p∈G1,p.1.size<=64/\p.2.1.size<=64):
 SS w r A n c ts gs nm v' G1 (w' (gs 1) v') j:=by have h: ∀k,k<=gs->some k≠v.ownBlock:=λk f e=>aR (a.own.lt k e.symm).1;have t:Below (gs+1) wr w':=⟨d.os,d.tape,d.output,d.size,λk f=>by obtain g|g:=Nat.lt_or_ge k wr;{exact d.block k g (h k oy)};have:=a.bI.lt;omega⟩;have l:=(d.block gs a.bI.lt (h gs ny)).trans a.bI;have s:Below gs wr w':=t.mono oy;have b:=s.setCell (p:=(gs 1)) (Nat.le_refl gs) v';refine⟨a.rd.below b oy,a.dL.below b q,by simpa using af.ay (w:=w') l 1 v',?_,?_,a.ct.below (b.mono oy),m⟩;{grind[ownsRow_setCell_below]};have o:=a.but.size;refine⟨b.os.trans a.but.os,b.tape.trans a.but.tape,b.output.trans a.but.output,cK o b.size,λk f i=>?_⟩;exact(b.block k oy).trans (a.but.block k f i)
def SS.aI (a:SS w r A n c ts gs nm v ms wr j) (b:r<w) (d:w<gs) (s u):
 Rd (wr (an w 0) (string s) (an w 1) u) r A n c j/\af (wr (an w 0) (string s) (an w 1) u) w 88 #[string s,u]/\
 ax r w (wr (an w 0) s (an w 1) u):=
 ⟨(a.rd.aI (Nat.ne_of_lt b) _).aI (Nat.ne_of_lt b) _,by simpa using(a.dL.ay 0 s).ay 1 u,(a.but.aI ny _).aI ny _⟩
def SS.nN (d:SS w r A n c ts gs nm v ms wr j) (f:r<w) (g:w<gs) (s u): ∃A' n' c',v=slice A' n' c'/\
 jL (wr (an w 0) (string s) (an w 1) u) w A' n' c' ms:=by have b:=ownsRow_setCell_below (ownsRow_setCell_below d.own (a:=(an w 0)) (by show w<gs+1;omega) s) (a:=(an w 1)) (by show w<gs+1;omega) u;obtain⟨A',c',e,-⟩:=aA.dV wM dy b;subst e;exact⟨A',_,c',rfl,adm b oy,d.nB⟩
end
end Go.Proofs.YteagjoghhfngoaaGreatDoor
