import Derived.Test.YteagjoghhfngoaaGreatDoorSa
import Derived.Test.YteagjoghhfngoaaGreatDoorTa
set_option maxRecDepth 100000
set_option maxHeartbeats 32000000
set_option linter.all false
namespace Go.Proofs.YteagjoghhfngoaaGreatDoor
namespace Ev
end Ev
namespace Mem
end Mem
namespace Mg
end Mg
namespace aB
end aB
namespace aF
end aF
namespace aj
end aj
namespace ap
end ap
namespace aw
end aw
namespace cG
end cG
open Go.RowKit Tryz Value List Ev Mem Mg aB aF aj ap aw cG
def jn8 {a d f c Q e b P:Prop} (l:a) (a1:d) (a2:f) (j:c) (g:Q) (h:e) (k:b) (i:P):a/\d/\f/\c/\Q/\e/\b/\P:=⟨l,a1,a2,j,g,h,k,i⟩
namespace Mg
def Bt (but): ∀ (l:List Cm) {m:Mn},Inv m->Inv (behind but l m)
 |[],_,a=>a
 |c::l,m,a=>by
  unfold behind;refine Bt but l ?_;split;{exact a};exact pq a c
def eK (q:Qu) (a:List To) (b:List Bs) (m:Mn):Mn:={m with q:=q,told:=a,out:=b}
def abH (q td o i t m): ∃b a,look i t (eK q td o m)=eK b a o (look i t m):=by unfold look;simp only[show(eK q td o m).f=m.f from rfl,show(eK q td o m).bw=m.bw from rfl];obtain _|g:=m.f[i]?;{exact⟨q,td,rfl⟩};obtain _|x:=m.bw[i]?;{exact⟨q,td,rfl⟩};exact⟨_,_,rfl⟩
def WQ (q td o n s i): ∃b a,fC n (eK q td o s.1,s.2) i=(eK b a o (fC n s i).1,(fC n s i).2):=by unfold fC;simp only[show(eK q td o s.1).f=s.1.f from rfl,show(eK q td o s.1).last=s.1.last from rfl];obtain _|g:=s.1.f[i]?;{exact⟨q,td,rfl⟩};obtain _|t:=s.1.last[i]?;{exact⟨q,td,rfl⟩};simp only;obtain _|d:=jT g t n;{exact⟨q,td,rfl⟩};simp only;let⟨b,a,e⟩:=abH q td o i (d.1:Int) {s.1 with fN:=min (s.1.fN+(d.2:Int)) cj};refine⟨b,a,?_⟩;rw[<-e];rfl
theorem Vn (q a o n m k): ∃d c,fK n (eK q a o m) k=(eK d c o (fK n m k).1,(fK n m k).2):=by
 unfold fK;have: ∀ (b:List Nat) (q:Qu) (a:List To) (s:Mn×Int),∃d c,b.foldl (fC n) (eK q a o s.1,s.2)=(eK d c o (b.foldl (fC n) s).1,(b.foldl (fC n) s).2):=by intro b;induction b with|nil=>(intro q a s;exact⟨q,a,rfl⟩)|cons i b ih=>(intro q a s;let⟨d,c,e⟩:=WQ q a o n s i;simp_all)
 exact this _ q a ({m with clock:=n},0)
def ZM (q td o m):rows (eK q td o m)=rows m:=rfl
def IV {q:Qu} {H9:List To} {J0:List Bs} {m:Mn} (b:Inv m) (a:Inv (eK q H9 J0 m)):ep (eK q H9 J0 m)=ep m:=by unfold ep;rw[aK (eo.2 b.1),aK (eo.2 a.1),ZM]
theorem aex {q:Qu} {H9:List To} {J0:List Bs} {m:Mn} (j:Inv m) (k:Inv (eK q H9 J0 m)) (c) (g:c.bH≠4):
 (eF m c=none/\eF (eK q H9 J0 m) c=none)\/ ∃p i h l r,eF m c=some (p,r)/\eF (eK q H9 J0 m) c=some (eK i h l p,r):=by unfold eF;rw[aG g,aG g];by_cases a:c.bH=1;{rw[aK a,aK a];unfold load;obtain _|f:=parse c.s;{exact .inl ⟨rfl,rfl⟩};exact .inr ⟨_,q,H9,J0,_,rfl,rfl⟩};rw[aG a,aG a];by_cases a:c.bH=2;{rw[aK a,aK a];unfold add;rw[show(eK q H9 J0 m).st=m.st from rfl];by_cases b:aa.get c.l gd=some nu;{grind};rw[aG b,aG b];by_cases d:(js m.st c.l c.x).2≠0;{grind};rw[aG d,aG d];exact .inr ⟨_,q,H9,J0,_,rfl,rfl⟩};rw[aG a,aG a];by_cases a:c.bH=3;{rw[aK a,aK a];unfold clock;rw[show(eK q H9 J0 m).clock=m.clock from rfl,show(eK q H9 J0 m).f=m.f from rfl];by_cases b:bS c.n=false;{grind};rw[aG b,aG b];by_cases d:c.n<m.clock;{grind};rw[aG d,aG d];let⟨i,h,e⟩:=Vn q H9 J0 c.n m m.f.length;grind};rw[aG a,aG a];by_cases a:c.bH=5;{rw[aK a,aK a];unfold pT;rw[IV j k];exact .inr ⟨_,q,H9,J0,_,rfl,rfl⟩};rw[aG a,aG a];by_cases a:c.bH=6;{rw[aK a,aK a];exact .inr ⟨_,aB.zero,[],[],_,rfl,rfl⟩};rw[aG a,aG a];by_cases a:c.bH=7;{rw[aK a,aK a];unfold query;rw[show(eK q H9 J0 m).f=m.f from rfl];obtain _|p:=aS.find m.f c.k;{exact .inl ⟨rfl,rfl⟩};exact .inr ⟨_,q,H9,J0,_,rfl,rfl⟩};grind
theorem aav {q:Qu} {H9:List To} {J0:List Bs} {m:Mn} (b:Inv m) (d:Inv (eK q H9 J0 m)) (c) (g:c.bH≠4): ∃e a f,(step (eK q H9 J0 m) c).1=eK e a f (step m c).1:=by unfold step;rw[fp (eo.2 b.1),fp (eo.2 d.1)];obtain⟨i,h⟩|⟨p,e,a,f,r,i,h⟩:=aex b d c g;{grind};grind
def ZL {m:Mn} (a:Inv m) (c) (e:c.bH=4): ∃q b d,(step m c).1=eK q b d m:=by refine EM ?_;unfold eF;rw[e];show ∃q b d,(match send m c.ok with|none=>(m,none)|some x=>(x.1,some x.2):Mn×ah Rp).1=eK q b d m;unfold send;obtain _|f:=aB.ready m.q m.clock;{exact⟨m.q,m.told,m.out,rfl⟩};cases c.ok;{exact⟨_,m.told,m.out,rfl⟩};exact⟨_,m.told,_,rfl⟩
def BO: ∀ (l:List Cm) (m:Mn) (q:Qu) (a:List To) (d:List Bs),Inv m->Inv (eK q a d m)-> ∃o n p,behind [] l (eK q a d m)=eK o n p (behind [4] l m)
 |[],m,q,a,d,_,_=>⟨q,a,d,rfl⟩
 |c::l,m,q,a,d,i,g=>by
  unfold behind;rw[aG iy];by_cases f:c.bH=4;{rw[aK (by rw[f];simp)];let⟨h,j,k,e⟩:=ZL g c f;have b:=pq g c;rw[e]at b⊢;exact BO l m h j k i b};rw[aG (by simp[f])];let⟨h,j,k,e⟩:=aav i g c f;have b:=pq g c;rw[e]at b⊢;exact BO l _ h j k (pq i c) b
end Mg
section
attribute [local go_sem↓] CZ rO
def aah (R Y:ah ak) (n c m d:Nat) (xs ys:List Sr) (e:xs.map Sr.val=ys.map Sr.val) (w:Wd) (b:ef w w R n c xs) (g:ef w w Y m d ys):
 Calls prog 13 #[slice R n c,slice Y m d] w (bO w true):=by
 refine vN λv I j=>?_;subst j;refine sW λJ L=>?_;obtain⟨N,a6,a5⟩:=aM e b g;go_enter func13,ntmps13;go_wp2;go_loopw[5] (λi wr=> ∃k:Nat,k<=n/\i=k/\az w wr) (λi _=>n- (intOf i).toNat);case atStart=>exact⟨0,dR _,rfl,aN⟩
 case round=>obtain⟨k,c2,rfl,a⟩:=hrel;by_cases S:k<n;{refine EL λE o A r=>?_;obtain⟨b8,c0,s,a8,G,p,a1,Z,O,W,U⟩:=a6.at_ S;obtain⟨b',b9,t,a4,H,q,hit,M,D,X,V⟩:=a5.at_ S;(have z:(Sr.val) s=(Sr.val) t:=by exact vF);have b6:s.g=t.g:=congrArg Sv.g z;have a':s.r=t.r:=congrArg Sv.r z;have z:s.x.val=t.x.val:=congrArg Sv.x z;rw[<-b6]at M;rw[<-a']at D;have a3:=hJ z;refine oF λB F=>?_;obtain⟨a2,a7,a9,b2,b0,b1,b5,b3,b4,b7⟩:=zV (bC a Z) (bC a O) (bC a W) (bC a U) (bC a M) (bC a D) (bC a X) (bC a V) ((show bp _ _ _ _ _ _ from a1).below a|>.more a.size) ((show bp _ _ _ _ _ _ from hit).below a|>.more a.size);refine vR λu C=>?_;subst a8 a4;clear o p q a1 hit Z O W U M D X V z;go_wp2;refine cO λhH=>?_;refine tg [0,1,2,3,4,5,6,7,8,9,10,11,12,13,14,15,16,17,18,19,20,21] (λ_ s=>jn8 (bC s a2) (bC s a7) (bC s b0) (bC s b1) (bC s a9) (bC s b2) (bC s b5) (bC s b3)) ?_;refine aV 22 λK f=>?_;go_simp;refine mB (Cf s.x t.x a3 _ (b4.later hH) (b7.later hH)) λc1 x=>?_;refine qe λhH=>?_;refine te [23,24] ?_;exact yz};exact vI
end
def abJ (b a:ah ak) (n c m d:Nat) (xs ys:List Se) (f:xs.map Se.val=ys.map Se.val) (w:Wd) (e:cU w w b n c xs) (g:cU w w a m d ys):
 Calls prog 14 #[slice b n c,slice a m d] w (bO w true):=by have:=Ia b a n c m d xs ys w e g;rw[bG f]at this;exact this
def Wq (z:ah ak) (n v:Nat) (xs:List Cr) (w:Wd) (e7:iG w w z n v xs) (d4:jw w):
 Calls prog 4 #[slice z n v] w (vz w):=by
 obtain⟨V,U⟩:=aq e7 d4;go_enter func4,ntmps4;go_wp2_with fail
 refine(Bg w U).mono ?_;rintro e c9 ⟨rfl,C⟩;go_wp2_with fail
 refine(AL z n v xs c9 ((V.below C).more C.size)).mono ?_;rintro e c8 ⟨b,rfl,a6,D⟩;have D:=bU C D;obtain _|_:=b;{clear C a6;have c':=hJ D;go_wp2;go_ret;exact⟨rfl,c'⟩};obtain⟨a5,E⟩:=aq (show ∀c∈xs,c.s.size<=60000 from λc f4=>aR (a6 rfl c f4)) D;(go_wp2_with fail);have j:=xg z n v xs none 0 0 [] Mr.zero [] qC c8 ((V.below E).more E.size) (aA.none_ _ _) (Mr.se _ _) a5 (U.below E);refine zO λj=>?_;rintro e u ⟨f,y,d8,c2,H,-⟩;unfold Mr.cells at y;subst y;obtain⟨Z,a9,q⟩:=aM d8 (bU E H) c2;(go_upto_region 5 with fail);have g:=(Below.refl u u).alloc ny (.cells f.cells 39);have l:=af.new u 39 f.cells;obtain⟨a,a7⟩:=xR u.heap.size;rw[a7]at l;have L:=bU a9 g;have q:=hJ (q.later g);rw[nr]at g L q l;rw[a7]at*;generalize u.alloc (.cells _ 39)=R at g L q l⊢;(go_wp2_with fail);generalize a0:World.alloc _ _=e5;have g:=bQ (Below.refl R.heap.size R) a0;have e':=nQ a0;have I:=bU L g;have j:=xg z n v xs (some ⟨R,0,none⟩) 1 1 [4] Mr.zero [] qC e5 ((V.below I).more I.size) (CC (xs:=[4]) e' rfl dy) (Mr.se _ _) a5 (U.below I);refine zO λj=>?_;rintro e A ⟨d,y,e2,b6,t,-⟩;unfold Mr.cells at y;subst y;have a4:=l.below g l.lt;obtain⟨Y,q,d0,a3,d7⟩:=de (a4.below t a4.lt) ((q.later g).later t) (bU I t) e2 b6;(go_upto_region 6 with fail);have g:=(Below.refl A A).alloc ny (.cells d.cells 39);have G:=af.new A 39 d.cells;have l:=Y.below g Y.lt;have W:=bU d0 g;have Q:=q.later g;have X:=d7.later g;rw[nr d]at g G l W Q X;obtain⟨b,d'⟩:=xR A.heap.size;rw[d']at G⊢;generalize A.alloc (.cells _ 39)=S at g G l W Q X⊢;obtain⟨m,o,e8,M,O⟩:=de l G W Q X;obtain⟨f2,d6,d9,d2⟩:=BO (xs.map Cr.val) Mg.zero aB.zero [] [] sa sa;have e3:=Bt [] (xs.map Cr.val) sa;have d5:=Bt [4] (xs.map Cr.val) sa;have r:=Z.trans (d2.trans (congrArg (eK f2 d6 d9) a3.symm));(have a2:Mg.Inv f.val:=by rw[Z.o];exact e3);(have a1:Mg.Inv d.val:=by rw[a3.o];exact d5);(have b7:=hJ (show ep f.val=ep d.val by rw[r];exact IV a1 (by rw[<-r];exact a2)));obtain⟨d3,c7,e1,b1⟩:=bJ a2.1 a1.1 (show f.es.map Se.val=d.es.map Se.val from congrArg Mg.Mn.st r) (show f.ls=d.ls from congrArg Mg.Mn.last r);(have f8:(f.ck==d.ck):=by simpa using(show f.ck=d.ck from congrArg Mg.Mn.clock r));(have f6:(f.sk==d.sk):=by simpa using(show f.sk=d.sk from congrArg Mg.Mn.fN r));(have f5:(f.cS==d.cS):=by simpa using(show f.cS=d.cS from congrArg Mg.Mn.off r));refine cO λhH=>?_;refine tg [0,1,2,4] (λ_ s=>gG (eV (m.below s m.lt)) (eV (o.below s o.lt))) ?_;refine aV 3 λK i=>?_;go_simp;have x:=tS f d3 S.drew (M.later (Below.refl _ S).drew);unfold Mr.cells at x;refine x.mono ?_;rintro e f3 ⟨b9,f0,c3,b8,rfl,e0,b3,F⟩;obtain⟨N,f1⟩:=aq e0 b3;have F:=(Below.refl _ S).drew.trans F;have a8:=hJ F;show K _ _;refine be i F λhH=>?_;refine aV 5 λK i=>?_;go_simp;have x:=tS d c7 f3 (O.later a8);unfold Mr.cells at x;refine x.mono ?_;rintro e e4 ⟨e9,a',c4,b5,rfl,b4,b',H⟩;obtain⟨b0,e6,N,J⟩:=bJ b4 b' (N.later H) (bT a8 H);show K _ _;refine be i J λhH=>?_;refine aV 6 λK i=>?_;go_simp;refine(aah b9 e9 f0 c3 a' c4 b8 b5 (f1.trans (b7.trans e6.symm)) e4 N b0).mono ?_;rintro e d1 ⟨rfl,c1⟩;have B:=hJ (J.trans (c1.mono J.size));show K _ _;refine be i B λhH=>?_;refine tg [7,8,9,10,11,12] (λ_ s=>gG (eV (m.below s m.lt)) (eV (o.below s o.lt))) ?_;refine aV 13 λK i=>?_;go_simp;refine(abJ f.SA d.SA f.Sn f.Sc d.Sn d.Sc f.es d.es e1 d1 (M.s.later B) (O.s.later B)).mono ?_;rintro e c0 ⟨rfl,b2⟩;have p:=hJ (B.trans (b2.mono B.size));show K _ _;refine be i p λhH=>?_;refine tg [14,15,16,17,18,19] (λ_ s=>gG (eV (m.below s m.lt)) (eV (o.below s o.lt))) ?_;refine aV 20 λK i=>?_;go_simp;refine(Je f.LA d.LA f.Ln f.Lc d.Ln d.Lc f.ls d.ls b1 c0 ((M.l.below p).more p.size) ((O.l.below p).more p.size)).mono ?_;rintro e f7 ⟨rfl,t⟩;have c6:=hJ (p.trans (t.mono p.size));show K _ _;refine be i c6 λhH=>?_;refine th [21,22,23,24,25,26,27,28,29,30,31,32,33,34,35,36,37,38,39,40,41,42,43] (λ_ s=>gG (eV (m.below s m.lt)) (eV (o.below s o.lt))) ?_;have c5:=hJ (bU e8 hH);go_wp2;go_ret;exact⟨rfl,c5⟩
end Go.Proofs.YteagjoghhfngoaaGreatDoor
