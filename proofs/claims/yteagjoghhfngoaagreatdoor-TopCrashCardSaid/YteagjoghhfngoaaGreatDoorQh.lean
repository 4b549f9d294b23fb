import Derived.Test.YteagjoghhfngoaaGreatDoorQg
set_option maxRecDepth 100000
set_option maxHeartbeats 32000000
set_option linter.all false
namespace Go.Proofs.YteagjoghhfngoaaGreatDoor
open Go.RowKit Tryz Value List Mem aB aC aW aa ae aj av aw bF cG cu dZ dd
variable{s:au} {W W' w w':Wd} {B N base c n:Nat} {F0:ah ak} {bs:List aU} {G8 b r:Bs} {T:ch} {G7:ah (List aU)} {F8:ah Nat} {e:Ending} {v:ai}
namespace Mg
def behind (a:List Int):List Cm->Mn->Mn
 |[],m=>m
 |c::l,m=>behind a l (if c.bH∈a then m else(step m c).1)
def ey (x y:Bs) (m:Mn):Mn:={m with da:=x,db:=y}
theorem abf (x y i t m):look i t (ey x y m)=ey x y (look i t m):=by grind[look,ey]
def Wl (x y n s i):fC n (ey x y s.1,s.2) i=(ey x y (fC n s i).1,(fC n s i).2):=by unfold fC;simp only[show(ey x y s.1).f=s.1.f from rfl,show(ey x y s.1).last=s.1.last from rfl];obtain _|g:=s.1.f[i]?;{rfl};obtain _|t:=s.1.last[i]?;{rfl};simp only;obtain _|d:=jT g t n;{rfl};simp only;rw[<-abf];rfl
theorem UR (x y n m k):fK n (ey x y m) k=(ey x y (fK n m k).1,(fK n m k).2):=by
 unfold fK;have: ∀ (a:List Nat) (s:Mn×Int),a.foldl (fC n) (ey x y s.1,s.2)=(ey x y (a.foldl (fC n) s).1,(a.foldl (fC n) s).2):=by intro a;induction a with|nil=>(intro s;rfl)|cons i a ih=>simp_all[foldl_cons,Wl]
 exact this _ ({m with clock:=n},0)
theorem KZ (x y m c) (a:c.bH≠5) (b:c.bH≠6):eF (ey x y m) c=(eF m c).map λp=>(ey x y p.1,p.2):=by unfold eF;rw[aG a,aG b,aG a,aG b];split;{unfold load;obtain _|f:=parse c.s<;>rfl};split;{grind[add,ey]};split;{grind[UR,clock,ey]};split;{unfold send;grind[ey,aB.ready]};grind[query,ey,aS.find]
end Mg
namespace aa
def LH {H6:List au} (a:named H6 s=false): ∀x∈H6,x≠s:=by unfold named at a;simp only[Bool.not_eq_false',fa]at a;intro x c e;let⟨k,b⟩:=fF c;have:=a k (bZ.1 b).1;rw[JU b,e]at this;simp at this
def acy {rs:List Ru} (d:cI (jV rs) rs.length):rs.Pairwise λa b=>a.nm≠b.nm:=by rw[pairwise_iff_getElem];intro i j e c f;have:=fa.1 d j c;rw[uM (br c)]at this;simp only[cm,Bool.not_eq_true']at this;exact LH this.2 _ (fx.2 ⟨rs[i],mem_take_iff_getElem.2 ⟨i,oy,rfl⟩,rfl⟩)
def abd {gs:List Gr} (c:dl gs):gs.Pairwise λa b=>a.nm≠b.nm:=by unfold dl at c;rw[cm]at c;rw[pairwise_iff_getElem];intro i j e d f;have:=fa.1 c.2 j d;rw[qI (br d)]at this;simp only[cm,Bool.not_eq_true']at this;exact LH this.2 _ (fx.2 ⟨gs[i],mem_take_iff_getElem.2 ⟨i,oy,rfl⟩,rfl⟩)
theorem DH {gs:List Gr} (a:dl gs) {g:Gr} (c:g∈gs):eS g:=by unfold dl at a;rw[cm]at a;let⟨k,b⟩:=fF c;have:=fa.1 a.2 k (bZ.1 b).1;rw[qI b]at this;grind
theorem xE {g:Gr} (a:eS g):name g.nm/\g.rs.length<=16/\cI (jV g.rs) g.rs.length:=by simp_all[cm,dP,eS,lI]
theorem ahV {g:Gr} (c:eS g) {r:Ru} (b:r∈g.rs):gz r/\name r.nm:=by let⟨k,a⟩:=fF b;have:=fa.1 (xE c).2.2 k (bZ.1 a).1;rw[uM a]at this;simp_all[cm,gz]
end aa
namespace aw
def uK {l:List Sv} (g:l.length<=256) (e: ∀s∈l,aa.name s.g/\aa.name s.r/\ae.ar s.x) (f:l.Pairwise λa b=>eI a.k b.k<0):ar l:=by unfold ar;rw[bG g,Bool.true_and,fa];intro i d;have c:=e _ (getElem_mem d);rw[gY (br d),c.1,c.2.1,c.2.2,Bool.true_and,Bool.true_and,Bool.true_and];cases i with|zero=>rfl|succ k=>(simp only;rw[br (show k<l.length by omega)];exact bG (pairwise_iff_getElem.1 f k (k+1) oy d oy))
end aw
namespace Mg
def LM:cu.gV oK:=(mF.pre).pY (λs:Sv=>s.k)
theorem Cp {m:Mn} {s:Sv} (a:s∈rows m): ∃ (i j:Nat) (g:Gr) (r:Ru) (x:List Tb),m.f[i]?=some g/\m.bw[i]?=some x/\g.rs[j]?=some r/\x[j]?=some s.x/\s.g=g.nm/\s.r=r.nm:=by unfold rows at a;let⟨⟨g,x⟩,d,c⟩:=mem_flatMap.1 a;let⟨i,b⟩:=fF d;let⟨j,e⟩:=fF c;rw[getElem?_zip_eq_some]at b;grind
def LO: ∀ (p:List (Gr×List Tb)),(∀q∈p,q.1.rs.length<=16)->(p.flatMap λp=>zipWith (λr x=>(⟨p.1.nm,r.nm,x⟩:Sv)) p.1.rs p.2).length<=16*p.length
 |[],_=>iy
 |q::p,b=>by
  have d:=b q (gl ..);have e:=LO p (λa c=>b a (gW _ c));rw[gX,bu,length_zipWith,cH];omega
theorem aed {m:Mn} (a:oQ m):(rows m).length<=256:=by
 have c:=LO (zip m.f m.bw) (λq b=>(xE (DH a.f (of_mem_zip b).1)).2.1);have d:(zip m.f m.bw).length<=16:=by rw[length_zip];have:=a.f;grind[dl]
 unfold rows;omega
theorem MI {m:Mn} (d:oQ m):(rows m).Pairwise λa b=>a.k≠b.k:=by unfold rows;rw[pairwise_flatMap];refine⟨λq k=>?_,?_⟩;{have c:=DH d.f (of_mem_zip k).1;have n:=acy (xE c).2.2;grind[pairwise_iff_getElem,length_zipWith,Prod.mk.injEq,Sv.k]};have c:=abd d.f;rw[pairwise_iff_getElem]at c⊢;intro i j h l s a f b g e;rw[length_zip]at h l;simp only[getElem_zip]at f g;let⟨p,o⟩:=fF f;let⟨v,r⟩:=fF g;grind[Prod.mk.injEq,Sv.k]
def agl {m:Mn} (a:oQ m): ∀s∈rows m,aa.name s.g/\aa.name s.r/\ae.ar s.x:=by intro s e;let⟨i,j,g,r,x,c,h,f,d,l,k⟩:=Cp e;have b:=DH a.f (cz c);rw[l,k];exact⟨(xE b).1,(ahV b (cz f)).2,a.g.tab (cz h) _ (cz d)⟩
def aeL {m:Mn} (b:fy m): ∀s∈rows m,ae.fy s.x:=by intro s c;let⟨i,j,g,r,x,e,d,f,a,k,h⟩:=Cp c;exact b x (cz d) _ (cz a)
def Iq {m:Mn} (a:Inv m):aw.ar (ep m)/\ ∀s∈ep m,ae.fy s.x:=by have c:=jf oK (rows m);unfold ep;rw[aK (eo.2 a.1)];refine⟨aw.uK (by rw[c.length_eq];exact aed a.1) (λs d=>agl a.1 s (c.mem_iff.1 d)) ?_,λs d=>aeL a.2 s (c.mem_iff.1 d)⟩;have f:=rH LM (rows m);have h:=(c.pairwise_iff (λa e=>a e.symm)).2 (MI a.1);rw[pairwise_iff_getElem]at f h⊢;intro i j g k l;have b:=f i j g k l;have n:=h i j g k l;unfold oK at b;obtain b|b:=Int.lt_or_eq_of_le b;{exact b};exact absurd ((mF.eq _ _).1 b) n
def keep (m:Mn) (c:Cm) (saved:List Sv):List Sv:=
 if c.bH=5/\0<(eb (aW.gen m.da m.db) (aw.put (ep m))).length/\((eb (aW.gen m.da m.db) (aw.put (ep m))).length:Int)<=c.n then ep m else saved
structure Has (m:Mn) (saved:List Sv):Prop where
 inv:Inv m
 ok:aw.ar saved
 fy: ∀s∈saved,ae.fy s.x
 zt:(aW.read m.da m.db=none/\saved=[])\/ ∃g,aW.read m.da m.db=some (g,aw.put saved)
def aeH {m:Mn} {c:Cm} (e:c.bH≠5) {p:Mn×Rp} (a:eF m c=some p):p.1.da=m.da/\p.1.db=m.db:=by by_cases d:c.bH=6;{unfold eF at a;rw[d]at a;cases a;exact⟨rfl,rfl⟩};have b:=KZ m.da m.db m c e d;rw[show ey m.da m.db m=m from rfl,a]at b;simp only[Option.map_some,Option.some.injEq]at b;have:=congrArg Prod.fst b;simp only at this;rw[this];exact⟨rfl,rfl⟩
theorem Cy {m:Mn} {saved:List Sv} (a:Has m saved) (c):Has (step m c).1 (keep m c saved):=by have i:=fp (eo.2 a.inv.1);by_cases h:c.bH=5;{(have j:(step m c).1=(ey (aW.write m.da m.db (aW.gen m.da m.db) (aw.put (ep m)) c.n).1 (aW.write m.da m.db (aW.gen m.da m.db) (aw.put (ep m)) c.n).2 m):=by unfold step;rw[i];unfold eF;rw[h];rfl);have e:=pq a.inv c;rw[j]at e⊢;have g:=Iq a.inv;by_cases f:eb (aW.gen m.da m.db) (aw.put (ep m))≠ []/\((eb (aW.gen m.da m.db) (aw.put (ep m))).length:Int)<=c.n;{(have b:keep m c saved=ep m:=by simp_all[keep]);rw[b];exact⟨e,g.1,g.2,.inr ⟨_,VQ f.1 f.2⟩⟩};(have b:keep m c saved=saved:=by grind[keep]);rw[b];have d:=YW f;refine⟨e,a.ok,a.fy,?_⟩;have k:aW.read (ey (aW.write m.da m.db (aW.gen m.da m.db) (aw.put (ep m)) c.n).1 (aW.write m.da m.db (aW.gen m.da m.db) (aw.put (ep m)) c.n).2 m).da (ey (aW.write m.da m.db (aW.gen m.da m.db) (aw.put (ep m)) c.n).1 (aW.write m.da m.db (aW.gen m.da m.db) (aw.put (ep m)) c.n).2 m).db=aW.read m.da m.db:=d;rw[k];exact a.zt};(have b:keep m c saved=saved:=by grind[keep]);rw[b];refine⟨pq a.inv c,a.ok,a.fy,?_⟩;(have d:(step m c).1.da=m.da/\(step m c).1.db=m.db:=by unfold step;rw[i];rcases l:eF m c with _|p;{exact⟨rfl,rfl⟩};exact aeH h l);rw[d.1,d.2];exact a.zt
def qC:Has zero []:=⟨sa,dy,λs a=>absurd a iy,.inl ⟨dy,rfl⟩⟩
def Lu {m:Mn} {saved:List Sv} (b:Has m saved):(mI m).getD []=saved:=by unfold mI;obtain⟨a,c⟩|⟨g,a⟩:=b.zt;{rw[a,c];rfl};rw[a];simp only[Option.bind_some];rw[aw.pD b.ok (λs d=>b.fy s d)];rfl
end Mg
namespace di.aT
def xm (d):(print d).length<=115:=by unfold print;split;{rename_i a;split;{simp};unfold ar at a;simp only[cm,dP]at a;have:=JC 5 d.toNat oy;omega};simp
end di.aT
namespace av
theorem ZH (t i p) (a:p.1.size<=64) (d:p.2.size<=64):(vS t i p).size<=t.size+300:=by unfold vS;have:=xU p.2;have c:jD.size=1:=rfl;have b:kK.size=1:=rfl;grind
def IU {ls:List Pr} (b: ∀p∈ls,p.1.size<=64/\p.2.size<=64) (t): ∀k,(ky ls t k).size<=t.size+300*k
 |0=>by simp[ky]
 |k+1=>by
  have ih:=IU b t k;unfold ky;split;{exact cK ih (Nat.add_le_add_left (Nat.mul_le_mul_left _ (Nat.le_succ k)) _)};rename_i p c;have a:=b p (cz c);have d:=ZH (ky ls t k) k p a.1 a.2;rw[Nat.mul_succ,<-Nat.add_assoc];exact cK d (Nat.add_le_add_right ih 300)
end av
def Hg (d t) (a:av.sp (di.aT.print d)=t) (w) (hG:di.dW w):
 Calls prog 201 #[int .i64 d] w (bO w (string t)):=by subst a;exact di.Ci d w hG
def VI (nm sn MA Mn Mc ms op v fo ke LA Ln Lc ls r) (z:r=⟨nm,sn,MA,Mn,Mc,ms,op,v,fo,ke,LA,Ln,Lc,ls⟩) (t) (X:av.print r=t) (w) (d7:kx w) (a0:di.dW w) (Z:ev w w r):
 Calls prog 156 #[agg #[string nm,string sn,slice MA Mn Mc,int .i64 op,int .i64 v,int .i64 fo,int .i64 ke,slice LA Ln Lc]] w (bO w (string t)):=by let⟨d',d5,f3,O,g4,b8⟩:=dN Z (show ∀b W,gz r=b->ev W W r->Calls prog 98 #[agg #[nm,sn,slice MA Mn Mc,op,v,fo,ke,slice LA Ln Lc]] W λe w'=>e= .returned b/\az W w' by intro b W e2 c9;have:=Cd r b e2 W c9;rw[z]at this;exact this) (show cQ w w MA Mn Mc ms by have:=Z.1;rw[z]at this;exact this) (show aH w w LA Ln Lc ls by have:=Z.2.1;rw[z]at this;exact this) (show vi w from⟨d7,a0.2⟩) a0;have d4:=O.o.len;have g9:=(⟨O.o.1.2.1,O.o.1.2.2.1⟩:Ln<=Lc/\Lc<= "");clear d7 a0 Z;cases j:gz r;{have a9:=hJ j;(have u:t=⟨#[]⟩:=by rw[<-X];unfold av.print;rw[j];rfl);subst u;clear j X;go_enter func156,ntmps156;(go_wp2_with fail);refine yB λa1 c4 F d1=>?_;refine mB (d5.o false a1 a9.o (d'.o.later F)) λf6 N=>?_;go_wp2;go_ret;exact⟨rfl,bU F N⟩};have n:=j;rw[z]at n;unfold gz at n;simp only[cm]at n;have h1:=aw.kj n.1.1.1.1.1;have b6:=jG n.1.2;(have b':t=yk r++nF:=by rw[<-X];unfold av.print;rw[aK j]);let⟨C,J⟩:=xR (bF.print sn ms op v);(have i':C.size<=1800:=by rw[<-J];exact Yl _ _ _ _);let⟨D,I⟩:=xR (av.sp (di.aT.print fo));let⟨y,E⟩:=xR (av.sp (di.aT.print ke));(have i6:D.size<=115:=by rw[<-I];exact di.aT.xm fo);(have h0:y.size<=115:=by rw[<-E];exact di.aT.xm ke);let⟨A,L⟩:=xR (⟨#[114,117,108,101,32]⟩++nm++⟨#[58,32]⟩++C);(have h3:A.size<=1900:=by rw[<-L];simp only[ByteArray.size_append];show 5+nm.size+2+C.size<=1900;omega);let⟨d,S⟩:=xR (nI EK A fo);let⟨a,V⟩:=xR (nI DJ d ke);(have j5:d.size<=2100:=by rw[<-S];unfold nI;rw[I];split<;>(try simp only[ByteArray.size_append])<;>(try(have:EK.size=5:=rfl))<;>omega);(have j6:a.size<=2300:=by rw[<-V];unfold nI;rw[E];split<;>(try simp only[ByteArray.size_append])<;>(try(have:DJ.size=6:=rfl))<;>omega);(have b7:=hJ (show yk r=if ls.length=0 then a else ky ls (a++CW) ls.length++av.eY by rw[z];unfold yk Dr NE;simp only;rw[J,L,S,V]));(have e8: ¬ ""<5+nm.size:=by omega);(have f7: ¬ ""<5+nm.size+2:=by omega);(have m: ¬ ""<5+nm.size+2+C.size:=by omega);let⟨a9,b2,c7,g7,e1,c8,f',c3,e3⟩:=Ax j b6 b' J I E L S V;clear j n b6 b' J I E L S V X;go_enter func156,ntmps156;(go_wp2_with fail);refine yB λa1 c4 F d1=>?_;refine mB (d5.o true a1 a9.o (d'.o.later F)) λf6 N=>?_;have g2:=bU F N;have b5:=c4.o.below N d1;have f4:=b5.lt;let⟨l,b4⟩:=aq b5 g2;clear b5;(go_wp2_with fail);refine cO λhH=>?_;refine tg [0,1,2,3,4,5] (λ_ s=>Tz (bC s (bD l.o)) (bC s (bL l.o)) (bC s (dp l.o)) (bC s (dF l.o)) (bC s (eW l.o))) ?_;refine aV 6 λK f=>?_;go_simp;refine mB (abm sn MA Mn Mc ms op v C g7.o _ (g4.o.below (bU b4.o hH)) ((f3.o.later b4.o).later hH)) λj4 x=>?_;refine qe λhH=>?_;refine te [7,8] ?_;rw[f'.o];clear e8 f7 m;have d8:=bU b4.o hH;have U:=hJ (l.o.below hH f4);have g0:=U.o.lt;clear hH l;have c2:=jd U.o;have a8:=hJ d8;clear d8;(go_upto_if 19 with fail);go_cut [3]from 6 (λm g=>m=d/\az w g/\af g w 92 #[nm,sn,slice MA Mn Mc,op,v,fo,ke,slice LA Ln Lc]);(case first=>by_cases a4:0<fo;{(have a6:A++(⟨#[32,102,111,114,32]⟩++D)=d:=by rw[<-c3.o];unfold nI;rw[aK a4,e1.o];rfl);(have h6: ¬ ""<5+D.size:=by omega);(have j2: ¬ ""<A.size+(5+D.size):=by omega);have e4:=hJ a6;clear a6;(go_wp2_with fail);refine mB (Hg fo D e1.o _ (b8.o.below a8.o)) λi8 d3=>?_;go_wp2;go_meet;exact⟨by rw[e4.o],bU a8.o d3,U.o.below d3 g0⟩};have I:decide (0<fo)=false:=bj a4;(have a6:A=d:=by rw[<-c3.o];unfold nI;rw[aG a4]);go_wp2;go_meet;exact⟨rfl,a8.o,U.o⟩);case rest=>obtain⟨rfl,c1,R⟩:=hcut;let⟨a7,d6⟩:=aq c1 R;have f8:=R.lt;have h7:=jA R;clear c1 R;(go_upto_if 28 with fail);go_cut [3]from 6 (λm g=>m=a/\az w g/\af g w 92 #[nm,sn,slice MA Mn Mc,op,v,fo,ke,slice LA Ln Lc]);(case first=>by_cases b1:0<ke;{(have a5:d++(⟨#[32,107,101,101,112,32]⟩++y)=a:=by rw[<-e3.o];unfold nI;rw[aK b1,c8.o];rfl);(have h9: ¬ ""<6+y.size:=by omega);(have j1: ¬ ""<d.size+(6+y.size):=by omega);have g1:=hJ a5;clear a5;(go_wp2_with fail);refine mB (Hg ke y c8.o _ (b8.o.below a7.o)) λi4 o=>?_;go_wp2;go_meet;exact⟨by rw[g1.o],bU a7.o o,d6.o.below o f8⟩};have E:decide (0<ke)=false:=bj b1;(have a5:d=a:=by rw[<-e3.o];unfold nI;rw[aG b1]);go_wp2;go_meet;exact⟨rfl,a7.o,d6.o⟩);case rest=>obtain⟨rfl,c5,a2⟩:=hcut;let⟨c',i5⟩:=aq c5 a2;have j3:=kJ a2;clear c5 a2;by_cases i0:Ln=0;{(have f1: ¬ ""<a.size+1:=by omega);have a3:=hJ (show t=a++nF by rw[c7.o,b7.out,aK oy]);go_wp2;go_ret;exact⟨by rw[a3.o];rfl,c'.o⟩};(have f1: ¬ ""<a.size+9:=by omega);let⟨c,Q⟩:=xR (a++CW);(have h8:c.size<=2400:=by rw[<-Q];simp only[ByteArray.size_append];show a.size+9<=2400;omega);have b9:a++⟨#[32,108,97,98,101,108,115,32,123]⟩=c:=Q;let⟨a3,e'⟩:=aq (show t=ky ls c Ln++av.eY++nF by rw[c7.o,b7.out,aG oy,Q,d4]) b9;clear Q b9;go_wp2;rw[e'.o,show decide (0<Ln)=true from decide_eq_true oy];go_loopw[3,44] (λs i wr=> ∃k:Nat,k<=Ln/\i=k/\s=(ky ls c k)/\az w wr) (λ_ i _=>Ln- (intOf i).toNat);(case atStart=>exact⟨0,oy,rfl,rfl,c'.o⟩);case round=>obtain⟨k,i9,rfl,rfl,B⟩:=hrel;let⟨T,u⟩:=xR (ky ls c k);(have j0:T.size<=2400+300*16:=by rw[<-u];have e2:=IU b2.o.2 c k;have c9:=b2.o.1;omega);rw[u];have e0:=hJ u;clear u;by_cases d2:k<Ln;{let⟨g',i2,f2,g8,b0⟩:=O.o.at_ d2;obtain⟨p,G⟩: ∃p,ls[k]?=some p:=⟨_,br (by rw[d4];exact d2)⟩;have e7:=bC B (b0 k p G).1;have g3:=bC B (b0 k p G).2;have i3:=b2.o.2 p (cz G);let⟨H,M⟩:=xR (qB p.2);(have h':H.size<=130:=by rw[<-M];have:=xU p.2;omega);let⟨q,Y⟩:=xR (if 0<k then T++av.jD else T);(have h4:q.size<=7201:=by rw[<-Y];split<;>(try simp only[ByteArray.size_append])<;>(try(have:av.jD.size=1:=rfl))<;>omega);(have f9:=hJ (show ky ls c (k+1)=q++(p.1++⟨#[61]⟩++H)by rw[ky,G];show vS (ky ls c k) k p=_;unfold vS;rw[e0.o,Y,M];rfl));let⟨g5,c6⟩:=aq M Y;have o:az w (wr.alloc (.cells #[p.1,p.2] 69)):=B.alloc B.size _;(have d9: ¬ ""<T.size+1:=by omega);(have e6: ¬ ""<p.1.size+1:=by omega);(have i7: ¬ ""<p.1.size+1+H.size:=by omega);(have h5: ¬ ""<q.size+(p.1.size+1+H.size):=by omega);subst f2;clear b0 G M Y;(go_upto_if 50 with fail);generalize f5:World.alloc _ _=f0 at o⊢;have a':=nQ f5;go_cut [3,44]from 44 to 62 (λm i g=>m=q/\i=k/\g=f0);(case first=>by_cases c0:0<k;{have b3:=hJ (show T++⟨#[44]⟩=q by rw[<-c6.o,aK c0];rfl);go_wp2;go_meet;exact⟨by rw[b3.o],rfl,rfl⟩};(have b3:T=q:=by rw[<-c6.o,aG c0]);go_wp2;go_meet;exact⟨by first|rfl|rw[b3],rfl,rfl⟩);case rest=>obtain⟨rfl,rfl,rfl⟩:=hcut;let⟨d0,e9⟩:=aq a' o;have h2:=a'.lt;clear a' o e7 g3 d9;(go_wp2_with fail);refine cO λhH=>?_;refine tg [0,1,2,3,4,5] (λ_ s=>gG (bC s (bD d0.o)) (bC s (bL d0.o))) ?_;refine aV 6 λK f=>?_;go_simp;refine mB (KX p.2 H g5.o oy _) λi1 e5=>?_;show K _ _;refine be f (bU hH e5) λhH=>?_;refine te [7,8,9] ?_;rw[<-f9.o];go_wp2;go_roundw;(case rel=>exact⟨k+1,oy,bh,rfl,bU e9.o hH⟩);case measure=>simp[intOf];omega};obtain rfl:Ln=k:=oy;(have d9: ¬ ""<T.size+1:=by omega);(have e6: ¬ ""<T.size+1+1:=by omega);have g6:=hJ (show t=T++av.eY++nF by rw[a3.o,e0.o]);go_wp2;go_ret;exact⟨by rw[g6.o];rfl,B⟩
def VG (r t) (b:av.print r=t) (w) (c:kx w) (d:di.dW w) (a:ev w w r):
 Calls prog 156 #[agg (ic r)] w (bO w (string t)):=
 VI _ _ _ _ _ _ _ _ _ _ _ _ _ _ r rfl t b w c d a
def zi {F4:Type} (R:Wd->Wd->F4->ai->Prop) (z:ai) (get:List aU->ah (F4×List aU)) (w:Wd) (b:ah ak) (bs:List aU) (e:Ending) (w':Wd):Prop:=
 ∃ (v:ai) (A':ah ak) (n' c':Nat) (a:Int),e= .returned (tuple #[v,slice A' n' c',a])/\Below w w w'/\
  ((get bs=none/\a≠0/\v=z/\A'=none/\n'=0/\c'=0)\/ ∃x r,get bs=some (x,r)/\a=0/\R w w' x v/\aY w w A' n' c' r/\iS b A')
abbrev yw (_ _:Wd) (n:Nat) (v:ai):Prop:=v=n
abbrev NJ (_ _:Wd) (n:Int) (v:ai):Prop:=v=n
abbrev yO (_ _:Wd) (s:au) (v:ai):Prop:=v=s
def Hb (a:ah ak) (n c:Nat) (bs:List aU) (w:Wd) (i:aY w w a n c bs):
 Calls prog 181 #[slice a n c] w (zi yw "" cr w a bs):=by refine(ub a n c bs w i).mono ?_;rintro e w' ⟨N,A',n',c',f,rfl,g,⟨b,d,rfl,rfl,rfl,rfl⟩|⟨v,r,b,d,rfl,j,h⟩⟩;{exact⟨_,_,_,_,f,rfl,g,.inl ⟨b,d,rfl,rfl,rfl,rfl⟩⟩};exact⟨_,_,_,_,f,rfl,g,.inr ⟨v,r,b,d,rfl,j,h⟩⟩
def aaK (g:ah ak) (n c:Nat) (bs:List aU) (w:Wd) (l:aY w w g n c bs):
 Calls prog 223 #[slice g n c] w (zi NJ "" iV w g bs):=by
 have y:=hJ l;clear l;go_enter func223,ntmps223;go_wp2_with fail
 refine(ub g n c bs w y.o).mono ?_;rintro e C ⟨N,q,s,c1,v,rfl,i,⟨a,t,rfl,rfl,rfl,rfl⟩|⟨b,r,a,rfl,rfl,m,u⟩⟩;{(have o:(v !=0):=by simp[t]);have f:=hJ (show iV bs=none by unfold iV;rw[a]);clear a;go_wp2;refine EJ ?_;exact⟨_,none,0,0,v,rfl,i,.inl ⟨f.o,t,rfl,rfl,rfl,rfl⟩⟩};have A:b<=1152921504606846976:=Ct a;obtain⟨x,p⟩:=aq m u;clear m u;by_cases j:b%2=1;{(have o:(Int.tmod (b:Int) 2==1):=by exact Tl);obtain⟨k,d⟩: ∃k:Int,-(((b:Int)+1)/2)=k:=⟨_,rfl⟩;(have B:Int.tdiv (-((b:Int)+1)) 2=k:=by rw[Int.neg_tdiv,Int.tdiv_eq_ediv_of_nonneg oy];exact d);(have z:wrap64 k=k:=by unfold wrap64;omega);have f:=hJ (show iV bs=some (k,r)by unfold iV;rw[a];simp only;rw[if_pos j,d]);clear a d;go_wp2;refine EJ ?_;exact⟨(wrap64 k),q,s,c1,0,rfl,i,.inr ⟨k,r,f.o,rfl,by rw[z],x.o,p.o⟩⟩};(have o:(Int.tmod (b:Int) 2==1)=false:=by exact Tl);obtain⟨k,d⟩: ∃k:Int,(b:Int)/2=k:=⟨_,rfl⟩;have f:=hJ (show iV bs=some (k,r)by unfold iV;rw[a];simp only;rw[if_neg j,d]);clear a;go_wp2;refine EJ ?_;exact⟨_,q,s,c1,0,rfl,i,.inr ⟨k,r,f.o,rfl,by first|exact congrArg (Value.int .i64) d|rfl,x.o,p.o⟩⟩
def aY.ahR {k:Nat} (a:aY W B F0 n c bs) (b:k<=n):aY W B F0 k c (bs.take k):=aA.take a b
def aY.str (f:aY W B F0 n c bs):(convert 34 9 (slice F0 n c)).run prog W= .ok (string ⟨bs.toArray⟩) W:=by have i:=f.1;obtain _|p:=F0;{(have d:n=0:=by obtain d|d:=jY n;{exact d};exact Em);subst d;have a:=je i;subst a;exact run_convert_bytes_nil W 34 5 underlying34 underlying5 0 c _ underlying9};subst i;refine run_convert_bytes_back W 34 9 5 p c bs underlying34 underlying5 underlying9 (λj k=>?_);obtain⟨b,g,x,e,o,a,m⟩:=f.at_ k;injection e with e;subst e;have l:((b g):ak).add j=(b (g+j)):=Ai;rw[l,m];rw[br k]at a;injection a with a;rw[a]
theorem Cu (b a k:Nat):((b a):ak).add k=(b (a+k)):=by unfold Addr.add;split<;>simp_all
def aY.cut {k:Nat} (d:aY W B F0 n c bs) (h:k<=n):aY W B (if c=k then F0 else F0.map (·.add k)) (n-k) (c-k) (bs.drop k)/\iS F0 (if c=k then F0 else F0.map (·.add k)):=by have j:=d.1;have g:=d.2.1;have i:=d.2.2.1;refine⟨?_,λp e=>?_⟩;{split;{rename_i f;subst f;rw[Nat.sub_self];exact d.end_ g};obtain l|m:=Nat.lt_or_ge k n;{obtain⟨b,o,rfl,q,f⟩:=aA.at_ d oy;rw[Option.map_some,Cu];exact d.DB h};rw[drop_of_length_le oy,show n-k=0 by omega];exact⟨rfl,oy,oy,λd=>absurd d oy⟩};split at e;{exact⟨p,e,rfl⟩};obtain _|a:=F0;{cases e};injection e with e;exact⟨a,rfl,by rw[<-e,rG]⟩
def aC.Kp {r:List aU} (d:cr bs=some (n,r)) (a:65536<n\/r.length<n):dC bs=none:=by unfold dC;rw[d];simp only;split;{rfl};rename_i b;split;{rfl};rename_i c;obtain a|a:=a;{exact absurd a b};exact absurd a c
def aC.afZ {r:List aU} (a:cr bs=some (n,r)) (b:n<=65536) (c:n<=r.length):dC bs=some (⟨(r.take n).toArray⟩,r.drop n):=by unfold dC;rw[a];simp only;rw[aG oy,aG oy]
def IH (i:ah ak) (n c:Nat) (bs:List aU) (w:Wd) (o:aY w w i n c bs):
 Calls prog 185 #[slice i n c] w (zi yO "s" dC w i bs):=by
 have I:=hJ o;clear o;go_enter func185,ntmps185;go_wp2_with fail
 refine(ub i n c bs w I).mono ?_;rintro e Y ⟨N,j,d,c1,A,rfl,a,⟨f,y,rfl,rfl,rfl,rfl⟩|⟨v,r,f,rfl,rfl,b,z⟩⟩;{(have t:(A !=0):=by simp[y]);have g:=hJ (show dC bs=none by unfold dC;rw[f]);clear f;go_wp2;refine zk ?_;exact⟨ "s",none,0,0,A,rfl,a,.inl ⟨g,y,rfl,rfl,rfl,rfl⟩⟩};obtain⟨m,B,D⟩:=aM f (show aY w w j d c1 r from b) z;have U:=b.1;have X:d<=c1/\c1<= "":=⟨b.2.1,b.2.2.1⟩;clear f b z;by_cases Q:65536<v;{have t:decide ((65536:Int)<v):=bG oy;have g:=hJ (Kp m (.inl Q));go_wp2;refine zk ?_;exact⟨ "s",none,0,0,4,rfl,a,.inl ⟨g,dy,rfl,rfl,rfl,rfl⟩⟩};have t:decide ((65536:Int)<v)=false:=bj oy;by_cases R:d<v;{have g:=hJ (Kp m (.inr oy));go_wp2;refine zk ?_;exact⟨ "s",none,0,0,3,rfl,a,.inl ⟨g,dy,rfl,rfl,rfl,rfl⟩⟩};have H:=hJ (afZ m oy oy);obtain⟨T,l⟩: ∃q:au,(⟨(r.take v).toArray⟩:au)=q:=⟨_,rfl⟩;have V:v<=c1:=oy;have x:v<=d:=oy;(have K:=hJ (show ∀W:Wd,az w W->(convert 34 9 (slice j v c1)).run prog W= .ok T W by intro W E;rw[<-l];exact((B.ahR x).below E).str));have J:=hJ l;clear l;go_wp2;refine cO λhH=>?_;refine ts [0,1,2] ?_;refine tk 3 ?_ (hy:=by intro wq hSw;have S:=K wq (a.trans (hSw.mono a.size));exact bM);refine te [4,5,6,7,8,9] ?_;have hcut:=B.cut x;generalize(if c1=v then j else j.map (·.add v))=O at hcut⊢;have u:=hJ hcut;clear hcut;go_wp2;refine zk ?_;refine⟨T,O,d-v,c1-v,0,rfl,bU a hH,.inr ⟨_,_,H,rfl,by rw[<-J.o],u.1,λp e=>?_⟩⟩;obtain⟨q,L,F⟩:=u.2 p e;obtain⟨M,C,G⟩:=D q L;exact⟨M,C,F.trans G⟩
def yD (base:Nat) (a:ah ak):Prop:= ∀p:ak,a=some p->p.block<base
def aY.narrow (a:aY W B F0 n c bs) (h:yD base F0):aY W base F0 n c bs:=
 ⟨a.1,a.2.1,a.2.2.1,λd=>by
  let⟨b,f,e,_,g⟩:=a.2.2.2 d;exact⟨b,f,e,h _ e,g⟩⟩
def iS.iD {A':ah ak} (a:iS F0 A') (d:yD base F0):yD base A':=λp e=>by
 let⟨q,c,b⟩:=a p e;rw[b];exact d q c
def iS.refl (A):iS A A:=λp e=>⟨p,e,rfl⟩
theorem iS.trans {B C:ah ak} (a:iS F0 B) (g:iS B C):iS F0 C:=λp e=>by
 let⟨q,d,f⟩:=g p e;let⟨r,b,c⟩:=a q d;exact⟨r,b,f.trans c⟩
def aY.back (a:aY W' B F0 n c bs) (f:Below B W W'):aY W B F0 n c bs:=aA.keep a λb e d=>(f.cell (p:=(b e)) d).symm
def aY.iD (d:aY W B F0 n c bs) (f:bs≠ []):yD B F0:=λp a=>by
 have h:=d.1;have:=length_pos_iff.2 f;let⟨b,i,e,g,_⟩:=aA.at_ d oy;rw[e]at a;injection a with a;rw[<-a];exact g
def dY (T:ch) (b:ah ak) (W:Wd) (base q:Nat) (d:ah (List aU)):Prop:=
 ∃ (a:ah ak) (n c:Nat) (e:Int),af W q T #[slice a n c,e]/\match d with
  |none=>e≠0
  |some bs=>e=0/\aY W base a n c bs/\iS b a
def dY.below {q:Nat} (f:dY T F0 W base q G7) (b:Below B W W') (d:base<=B) (g:q<B):dY T F0 W' base q G7:=by let⟨i,n,c,e,h,a⟩:=f;refine⟨i,n,c,e,h.below b g,?_⟩;cases G7 with|none=>exact a|some bs=>exact⟨a.1,a.2.1.below (b.mono d),a.2.2⟩
def dY.grown {q:Nat} (f:dY T F0 W base q G7) (b:W.grownBy W' F8) (i:F8≠some q) (h: ∀g,F8=some g->base<=g) (d:base<=W):dY T F0 W' base q G7:=by let⟨k,n,c,e,j,a⟩:=f;refine⟨k,n,c,e,j.grown b (λe=>i e.symm),?_⟩;cases G7 with|none=>exact a|some bs=>exact⟨a.1,a.2.1.below (aN.grown b d h),a.2.2⟩
def gD {F4:Type} (get:List aU->ah (F4×List aU)) (a:ah (List aU)):ah (List aU):=a.bind λbs=>(get bs).map (·.2)
def kD {F4:Type} (get:List aU->ah (F4×List aU)) (a:ah (List aU)):ah F4:=a.bind λbs=>(get bs).map (·.1)
def sV {F4:Type} (T:ch) (c:ah ak) (R:Wd->Wd->F4->ai->Prop) (z:ai) (get:List aU->ah (F4×List aU)) (w:Wd) (base q:Nat) (b:ah (List aU)) (e:Ending) (w':Wd):Prop:=
 ∃v,e= .returned v/\w.grownBy w' (some q)/\dY T c w' base q (gD get b)/\match kD get b with
  |none=>v=z
  |some x=> ∃a,az w a/\a.grownBy w' (some q)/\R w a x v
def fH (w:Wd) (q i:Nat) (a:ai):w.grownBy (w (q i) a) (some q):=mA (mK _ _) (.inl rfl) a
def abV (A0 base q o w) (Z:base<=q) (M:dY 367 A0 w base q o):
 Calls prog 250 #[bK q,.func (.func 181) #[] #[]] w (sV 367 A0 yw "" cr w base q o):=by let⟨y,n,c,g,s,d⟩:=M;let⟨V,Q⟩:=bE s.a;let⟨W,U⟩:=bE s.f;have O:=s.lt;have C:=hJ s;clear s;cases o with|none=>((have X:(g==0)=false:=by simpa using d);go_enter func250,ntmps250;exact Rf)|some bs=>(obtain⟨rfl,E,F⟩:=d;let⟨J,R,N⟩:=aM F (E.more (show base<=w by omega)) E;clear E F;go_enter func250,ntmps250;(go_wp2_with fail);refine(Hb y n c bs w R).mono ?_;rintro e j ⟨v,A,z,c1,D,rfl,m,I⟩;have S:=hJ I;have u:=C.below m O;let⟨Y,a0⟩:=bE u.f;let⟨g,b⟩:=bE u.a;have G:=hJ u;clear I u V Q W U;go_wp2;go_ret;refine NO λp f t=>?_;obtain⟨a,H,l,rfl,rfl,rfl⟩|⟨x,r,a,rfl,l,K,B⟩:=S;{have b:gD cr (some bs)=none:=Ao;have i:kD cr (some bs)=none:=Au;exact Rj};have b:gD cr (some bs)=some r:=Ao;have i:kD cr (some bs)=some x:=Au;rw[b,i];have L:=B.iD (N.iD (λe=>by rw[e,show cr []=none from rfl]at a;cases a));exact RR)
def JJ (A0 base q o w) (a0:base<=q) (N:dY 367 A0 w base q o):
 Calls prog 251 #[bK q,.func (.func 185) #[] #[]] w (sV 367 A0 yO "s" dC w base q o):=by let⟨y,n,c,g,u,d⟩:=N;let⟨W,R⟩:=bE u.a;let⟨X,V⟩:=bE u.f;have Q:=u.lt;have C:=hJ u;clear u;cases o with|none=>((have Y:(g==0)=false:=by simpa using d);go_enter func251,ntmps251;exact Rf)|some bs=>(obtain⟨rfl,F,I⟩:=d;let⟨J,S,O⟩:=aM I (F.more (show base<=w by omega)) F;clear F I;go_enter func251,ntmps251;(go_wp2_with fail);refine(IH y n c bs w S).mono ?_;rintro e j ⟨v,A,z,c1,D,rfl,m,M⟩;have U:=hJ M;have E:=C.below m Q;let⟨Z,a1⟩:=bE E.f;let⟨g,b⟩:=bE E.a;have G:=hJ E;clear M E W R X V;go_wp2;go_ret;refine NO λp f t=>?_;obtain⟨a,H,l,rfl,rfl,rfl⟩|⟨x,r,a,rfl,l,K,B⟩:=U;{have b:gD dC (some bs)=none:=Ao;have i:kD dC (some bs)=none:=Au;exact Rj};have b:gD dC (some bs)=some r:=Ao;have i:kD dC (some bs)=some x:=Au;rw[b,i];have L:=B.iD (O.iD (λe=>by rw[e,show dC []=none from rfl]at a;cases a));exact RR)
namespace aC
def mw (n:Nat) (a:Bs) (ls:List Pr):ah Bs->Prop
 |none=>jr n a=none
 |some bs=>jr n a=(jr (n-ls.length) bs).map λp=>(ls++p.1,p.2)
theorem mw.start (n r0):mw n r0 [] (some r0):=by show jr n r0=(jr (n-0) r0).map λp=>([]++p.1,p.2);rw[Nat.sub_zero];obtain _|⟨l,r⟩:=jr n r0<;>rfl
def tx (a:ah Bs):au:=(kD dC a).getD ⟨#[]⟩
theorem mw.step {bs:Bs} {ls:List Pr} (a:mw n G8 ls (some bs)) (g:ls.length<n):
 mw n G8 (ls++[(tx (some bs),tx (gD dC (some bs)))]) (gD dC (gD dC (some bs))):=by obtain⟨k,f⟩: ∃k,n-ls.length=k+1:=⟨n-ls.length-1,oy⟩;unfold mw at a;simp only at a;rw[f,jr]at a;unfold tx kD gD;rw[Option.bind_some,Option.bind_some];rcases b:dC bs with _|⟨s,d⟩;{rw[b]at a;exact a};rw[b]at a;simp only[Option.map_some,Option.bind_some,Option.getD_some]at a⊢;rcases c:dC d with _|⟨t,e⟩;{rw[c]at a;exact a};rw[c]at a;simp only[Option.map_some,Option.getD_some]at a⊢;unfold mw;simp only;rw[a,bu,length_singleton,show n- (ls.length+1)=k by omega];obtain _|⟨l,r⟩:=jr k e;{rfl};simp
theorem mw.done {bs:Bs} {ls:List Pr} (a:mw n G8 ls (some bs)) (b:ls.length=n):jr n G8=some (ls,bs):=by unfold mw at a;simp only at a;rw[a,b,Nat.sub_self];simp[jr]
def abW (a:dC b=some (s,r)):s.size<=65536:=by unfold dC at a;split at a;{cases a};split at a;{cases a};split at a;{cases a};injection a with a;injection a with c d;rw[<-c];show(take _ _).toArray.size<=65536;rw[size_toArray,et];omega
def MJ (o):(tx o).size<=65536:=by unfold tx kD;obtain _|bs:=o;{show 0<=65536;omega};rw[Option.bind_some];rcases a:dC bs with _|⟨s,r⟩;{show 0<=65536;omega};exact abW a
def XG (a:cr b=none):gU b=none:=by unfold gU;rw[a]
def Yv (c:cr b=some (n,r)) (a:16<n):gU b=none:=by unfold gU;rw[c];simp only;rw[aK a]
def Zm (c:cr b=some (n,r)) (a:jr n r=none):gU b=none:=by unfold gU;rw[c];simp only;split;{rfl};rw[a]
def aao {l:List Pr} (c:cr b=some (n,r)) (d:n<=16) (a:jr n r=some (l,G8)):gU b=if aa.ar l=true then some (l,G8)else none:=by unfold gU;rw[c];simp only;rw[aG oy,a]
end aC
def Nx:ai->Nat| slice _ n _=>n|_=>0
def GL (N:Nat) (bs:List aU) (ls:List Pr):ah (List aU)->Prop
 |none=>gU bs=none
 |some b=>N<=16/\ls.length<=N/\ ∃a,cr bs=some (N,a)/\mw N a ls (some b)
theorem GL.step {b:List aU} {ls:List Pr} (f:GL N bs ls (some b)) (g:ls.length<N):
 GL N bs (ls++[(aC.tx (some b),aC.tx (gD dC (some b)))]) (gD dC (gD dC (some b))):=by let⟨d,j,h,c,e⟩:=f;have:=e.step g;rcases a:gD dC (gD dC (some b))with _|i;{rw[a]at this;exact Zm c this};rw[a]at this;exact⟨d,by rw[bu,length_singleton];omega,h,c,this⟩
theorem GL.done {b:List aU} {ls:List Pr} (d:GL N bs ls (some b)) (f: ¬ls.length<N):gU bs=if aa.ar ls=true then some (ls,b)else none:=by let⟨a,g,h,e,c⟩:=d;exact aao e a (c.done oy)
def dY.fail {q:Nat} (a:dY T F0 W base q G7) {e:Int} (b:e≠0):dY T F0 (W (q 1) e) base q none:=by let⟨f,n,c,g,d,_⟩:=a;exact⟨f,n,c,e,d.ay 1 e,b⟩
def sV.str {q:Nat} (c:sV T F0 yO "s" dC w base q G7 e w'):e= .returned (aC.tx G7)/\w.grownBy w' (some q)/\dY T F0 w' base q (gD dC G7):=by obtain⟨v,rfl,f,d,a⟩:=c;refine⟨?_,f,d⟩;unfold aC.tx;rcases b:kD dC G7 with _|x;{rw[b]at a;rw[a];rfl};exact Tg
def sV.int {q:Nat} (c:sV T F0 yw "" cr w base q G7 e w'):e= .returned ((kD cr G7).getD 0)/\w.grownBy w' (some q)/\dY T F0 w' base q (gD cr G7):=by obtain⟨v,rfl,f,d,a⟩:=c;refine⟨?_,f,d⟩;rcases b:kD cr G7 with _|x;{rw[b]at a;rw[a];rfl};exact Tg
def PV (w w':Wd) (l:List Pr) (v:ai):Prop:= ∃a n c,v=slice a n c/\aH w' w' a n c l/\ ∀p:ak,a=some p->w<=p.block
def Vh (A n c bs w) (d:aY w w A n c bs):
 Calls prog 222 #[slice A n c] w (zi PV () gU w A bs):=by
 have g6:=hJ d;clear d;go_enter func222,ntmps222;let⟨f4,g9,f8,e7,h1⟩:=info_parts sK;go_wp2_with fail
 refine yA λb3 f3 d5 i1 Z=>?_;have d1:dY 367 A b3 w w (some bs):=⟨A,n,c,0,f3,rfl,g6.below d5,iS.refl A⟩;refine(abV A w w (some bs) b3 ny d1).mono ?_;rintro e f' l;obtain⟨rfl,c9,W⟩:=l.int;let⟨N,b1⟩:=xR ((kD cr (some bs)).getD 0);have e2:=d5.grown c9 oy rz;rw[b1];let⟨z,a'⟩:=xR (gD cr (some bs));rw[a']at W;have e1:(z=none->gU bs=none)/\ ∀a,z=some a->cr bs=some (N,a):=by rw[<-a',<-b1];unfold gD kD;rw[Option.bind_some,Option.bind_some];rcases e8:cr bs with _|⟨v,r⟩;{exact⟨λ_=>XG e8,λ_ d=>(by cases d)⟩};exact⟨λd=>(by cases d),λa d=>(by injection d with d;rw[<-d];rfl)⟩
 let⟨H,G,L⟩:=aM W e2 e1;let⟨h7,h3,c2,f5,K,c1⟩:=W;have C:=bL K;have I:=K.frozen 1;have h':=K.lt;clear K d1 c9 l b1 a' e2 e1;go_upto_region 3 with fail
 go_cut [6,19]from 10 (λa1 e5 F=>a1=N/\e5=(z.isSome&&decide (16<N))/\F=f');case first=>obtain _|a:=z;{(have g3:(f5==0)=false:=by simpa using c1);go_wp2;go_meet;exact⟨rfl,rfl,rfl⟩};obtain⟨rfl,-,-⟩:=c1;(have i3:decide ((16:Int)<N)=decide (16<N):=by simp only[decide_eq_decide];omega);go_wp2;go_meet;exact⟨rfl,iy,rfl⟩
 case rest=>
 obtain⟨rfl,rfl,rfl⟩:=hcut;go_upto_if 19 with fail
 go_cut [6]from 10 (λa1 F=>a1=N/\az w F/\ ∃m,dY 367 A F w w m/\GL N bs [] m);case first=>obtain _|a:=z;{have g1:=hJ (L.1 rfl);simp only[Option.isSome_none,Bool.false_and];go_wp2;go_meet;exact⟨rfl,G,none,H,g1⟩};by_cases a4:16<N;{rw[bG a4];simp only[Option.isSome_some,Bool.true_and];go_wp2;go_meet;exact⟨rfl,G.setCell ny _,none,H.fail dy,Yv (L.2 a rfl) a4⟩};rw[bj a4];simp only[Option.isSome_some,Bool.true_and];go_wp2;go_meet;exact⟨rfl,G,some a,H,oy,iy,a,L.2 a rfl,mw.start N a⟩
 case rest=>
  obtain⟨rfl,c7,m,b',d4⟩:=hcut
  let⟨h0,e6,f7⟩:=aM c7 b' d4
  clear c7 b' d4 C I H G L
  go_wp2
  go_loopw[7] (λa3 wr=> ∃ (ls:List Pr) (m:ah (List aU)),dY 367 A wr w w m/\GL N bs ls m/\wr.ownsRow (w+1) 69 2 a3 ls.length (ls.flatMap cW)/\(∀p∈ls,p.1.size<=65536/\p.2.size<=65536)/\az w wr) (λa3 _=>N-Nx a3)
  case atStart=>exact⟨[],m,e6,f7,World.ownsRow_nil _ _ _ _,λp i=>absurd i iy,h0⟩
  case round=>
   let⟨ls,g',c0,D,a2,d0,d3⟩:=hrel
   obtain⟨B,u,rfl,e4⟩:=aA.dV jF dy a2
   let⟨e3,S,d6,g7,t⟩:=de c0 a2 d0 e4 d3
   let⟨i4,h4,c4,V,E,M⟩:=c0
   let⟨d8,C⟩:=bE E.a
   have I:=E.frozen 1
   have i7:=E.lt
   clear E a2 e4 d0 d3
   obtain _|b:=g'
   ·have g3:(V==0)=false:=by simpa using M
    have h9:(V !=0):=by simpa using M
    have y:=hJ (show gU bs=none from D)
    clear D
    go_wp2_with fail
    go_quiet (fail)
    go_wp2
    refine DX ?_
    exact⟨_,none,0,0,V,rfl,Mem.below_drewN t _,.inl ⟨y,M,rfl,rfl,rfl,rfl⟩⟩
   ·obtain⟨rfl,-,-⟩:=M
    have a6:=hJ D
    clear D
    by_cases c6:ls.length<N
    ·have i5:N<=16:=a6.1
     go_wp2_with fail
     refine(JJ A w w (some b) wr ny e3).mono ?_
     rintro e c' l
     obtain⟨rfl,U,d7⟩:=l.str
     have s:=S.kept U (.inr (λe=>aR (S.o.lt _ e).1))
     have f:=t.grown U (t.size) rz
     go_wp2_with fail
     refine(JJ A w w (gD dC (some b)) c' ny d7).mono ?_
     rintro e X l
     obtain⟨rfl,R,d'⟩:=l.str
     have Q:=s.kept R (.inr (λe=>aR (S.o.lt _ e).1))
     have o:=f.grown R (f.size) rz
     have Z:(aC.tx (some b)).size<=65536:=MJ _
     have c8:(aC.tx (gD dC (some b))).size<=65536:=MJ _
     have b2:=a6.step c6
     obtain⟨p,i⟩: ∃p:Pr,(aC.tx (some b),aC.tx (gD dC (some b)))=p:=⟨_,rfl⟩
     rw[i]at b2
     have a0:aC.tx (some b)=p.1:=by rw[<-i]
     have a5:aC.tx (gD dC (some b))=p.2:=by rw[<-i]
     rw[a0,a5]
     rw[a0]at Z
     rw[a5]at c8
     let⟨f6,g4,d9,J⟩:=bJ b2 d' (Q.alloc (.cells #[p.1,p.2] 69)) o
     have c3:=o.size
     have h5:w<X.heap.size:=by have:=U.size;have:=R.size;omega
     clear b2 d' d7 s Q f o l i a0 a5 U R d8 C I
     go_wp2_with(at_builtin;go_loud (refine wpList_append_own _ rfl _ _ 47 rfl (w+1) 69 f4 _ 2 32 underlying47 g9 f8 e7 h1 rfl dy _ _ _ bq d9 (an X 0) 1 1 [p.1,p.2] bq bq po jc my oy jB ?_);intro g8 g0 b6 a9 _)
     have b7:g0.ownsRow (w+1) 69 2 g8 (ls++[p]).length ((ls++[p]).flatMap cW):=by
      rw[eX,bu]
      exact b6
     have O: ∀k,(Value.slice B ls.length u).ownBlock=some k->w.heap.size+1<=k:=λk e=>(d9.lt k e).1
     have b8:=(g4.grown (World.grownBy_alloc X (.cells #[p.1,p.2] 69) none) iy (λg e=>by cases e) c3).grown a9 (λe=>aR (O _ e)) (λg e=>aR (O _ e)) uy
     have b5:=(J.alloc c3 (.cells #[p.1,p.2] 69)).grown a9 uy (λk e=>aR (O _ e))
     let⟨b4,g2,f1⟩:=aM b7 b8 b5
     clear b6 b7 a9 b5 b8 O
     go_wp2
     go_roundw
     case rel=>exact⟨ls++[p],_,g2,f6,b4,λx q=>by
      obtain q|q:=eQ.1 q
      ·exact d6 x q
      ·rw[fS]at q
       subst q
       exact⟨Z,c8⟩,f1⟩
     case measure=>
      have:=b4.o
      obtain⟨h8,i2,rfl,-⟩:=aA.dV jF dy this
      simp only[Nx,bu,length_singleton]
      omega
    ·go_wp2_with fail
     let⟨bs',a7⟩:=xR (aa.ar ls)
     have b9:=hJ (a6.done c6)
     have Y:aH wr wr B ls.length u ls:=⟨g7,λp i=>aR (d6.o p i)⟩
     refine mB (ng B ls.length u ls bs' a7 wr Y) λc' f=>?_
     let⟨e9,f0,c5,i0,b0,e',s,d2⟩:=e3
     subst e'
     have a8:=b0.below f b0.lt
     have Q:=s.more (show w<=w.heap.size from Nat.le_refl _)
     let⟨h6,i6⟩:=bE a8.a
     have h2:=a8.frozen 1
     have o:=bU t f
     let⟨J,f2,f9,g5,e0⟩:=de o (Y.later f) (s.back t) d2 a7
     clear b0 a8 o Y d8 C I s Q f a7 d2
     cases bs'
     ·have y:=hJ (show gU bs=none by rw[b9.o,e0.o];rfl)
      go_wp2_with fail
      go_quiet (fail)
      go_wp2
      refine DX ?_
      exact⟨_,none,0,0,1,rfl,Mem.below_drewN (J.setCell ny _) _,.inl ⟨y,dy,rfl,rfl,rfl,rfl⟩⟩
     ·have y:=hJ (show gU bs=some (ls,b)by rw[b9.o,e0.o];rfl)
      go_wp2_with fail
      go_quiet (fail)
      go_wp2
      refine DX ?_
      exact⟨slice B ls.length u,e9,f0,c5,0,rfl,Mem.below_drewN J _,.inr ⟨ls,b,y,rfl,⟨B,_,u,rfl,f2,λp e=>by
       have:=(S.lt p.block nP).1
       omega⟩,f9,g5⟩⟩
def MP (bs cs:List aU):Lib.byteCells bs++Lib.byteCells cs=Lib.byteCells (bs++cs):=by unfold Lib.byteCells;rw[ir]
def aY.src (f:aY W B F0 n c bs):Src prog 1 34 (slice F0 n c) n (Lib.byteCells bs) W:=by have q:=f.1;obtain _|p:=F0;{(have d:n=0:=by obtain d|d:=jY n;{exact d};exact Em);subst d;have k:=je q;subst k;exact Src.ofNil W underlying34 c};refine Src.ofSlice W underlying34 p n c _ (by rw[uE];omega) (λj s i=>?_) (sl bs);(have m:j<n:=by have:=(bZ.1 i).1;rw[uE]at this;omega);obtain⟨b,g,x,e,t,k,r⟩:=f.at_ m;injection e with e;subst e;have l:((b g):ak).add j=(b (g+j)):=Ai;rw[l,r];unfold Lib.byteCells at i;rw[dw,k]at i;simpa using i
def aY.sx {b:Nat} {t:ch} {cs:Array ai} (d:af W b t cs) (k:cs.toList=Lib.byteCells bs) (l:bs.length<=1000000):aY W W (some (b 0)) bs.length bs.length bs:=by
 refine⟨rfl,ny,oy,λ_=>⟨b,0,rfl,d.lt,λj x h i m c=>?_⟩⟩;have g:i=0:=by have:=(bZ.1 c).1;simp at this;exact this
 subst g;simp at c;subst c;have f:=d.cell (0+j*1+0);rw[f];have e:(Lib.byteCells bs)[j]?=some (Value.int .u8 (x.toNat:Nat)):=by unfold Lib.byteCells;rw[dw,h];rfl
 rw[<-k]at e;simpa using e
section
variable{ops:Array Oper} {rest:List Oper} {o:Oper} {a:Act} {Q:Exit->Act->Wd->Prop} {w:Wd}
theorem AF (S:o.guard=none) (s x:Operand) (L:o.op= .call {callee:= .builtin .append,args:= #[s,x],argTypes:= #[34,34]})
 (base:Nat) (v:ai) (bs:List aU) (F:a.eval s=v) (q:ki w base v bs) (r:base<=w)
 (B:ah ak) (m d:Nat) (cs:List aU) (J:a.eval x=slice B m d) (E:aY w w B m d cs) (X:bs.length+m<=100000000000000)
 (i: ∀c w',ki w' base c (bs++cs)->(0<m->dJ w' base c (bs++cs))->Below base w w'->wpList prog ops Q rest (a.put o.dst c) w'):wpList prog ops Q (o::rest) a w:=by
 obtain⟨l,y,H,z,M⟩:=info_parts uW;have G:Src prog l.size 34 (slice B m d) m (Lib.byteCells cs) w:=by rw[z];exact E.src
 have D:=E.1;refine wpList_plain S λK C=>?_;obtain q|⟨b,f,rfl,N,I⟩:=q;{obtain⟨c,w',g,A,t,W⟩:=FP (P:=prog) w base 34 o.type 5 l (int .u8 0) 1 1 underlying34 y H z M rfl dy v bs.length (Lib.byteCells bs) q w B m d (Lib.byteCells cs) E.reads (sl cs) my oy r;refine vU ?_;(have p:dJ w' base c (bs++cs):=by unfold dJ;rw[<-MP,bu,D];exact A);exact C _ _ (i c w' (.inl p) (λ_=>p) (aN.grown t r (λk e=>(q.lt k e).1)))};obtain u|u:=jY m;{subst u;have U:=je D;subst U;have g:=run_append_room_src (P:=prog) w 34 34 o.type 5 l underlying34 y b f bs.length bs.length (slice B 0 d) 0 _ G oy (λj n=>absurd n (by simp[Lib.byteCells])) (λj n=>absurd n (by simp[Lib.byteCells]));have V:w.setCells b (f+bs.length*l.size) (Lib.byteCells [])=w:=rfl;rw[V]at g;refine vU ?_;refine C _ _ (i _ w ?_ (λi=>absurd i oy) aN);rw[na];exact .inr ⟨b,f,rfl,N,I⟩};obtain⟨c,w',g,A,t,W⟩:=FO (P:=prog) w 34 o.type 5 l underlying34 y H z M (b f) bs.length (Lib.byteCells bs) (uE bs) (by intro j O n;have R:((b f):ak).add j=(b (f+j)):=(by unfold Addr.add;split<;>simp_all);rw[R];exact I j O n) (sl bs) (slice B m d) m (Lib.byteCells cs) G u oy;refine vU ?_;(have p:dJ w' base c (bs++cs):=by unfold dJ;rw[<-MP,bu,D];exact nk A r);exact C _ _ (i c w' (.inl p) (λ_=>p) (aN.grown t r Ag))
end
def afg {S:Nat} (j:S<4294967296) (c:ki w base v bs) (g:base<=w):
 ki (w.alloc (.cells #[Value.int .u8 ((S:Int)%256),int .u8 ((S:Int)/256%256),int .u8 ((S:Int)/65536%256),int .u8 ((S:Int)/16777216)] 5)) base v bs/\
 aY (w.alloc (.cells #[Value.int .u8 ((S:Int)%256),int .u8 ((S:Int)/256%256),int .u8 ((S:Int)/65536%256),int .u8 ((S:Int)/16777216)] 5)) (w.alloc (.cells #[Value.int .u8 ((S:Int)%256),int .u8 ((S:Int)/256%256),int .u8 ((S:Int)/65536%256),int .u8 ((S:Int)/16777216)] 5)).heap.size (some (an w 0)) 4 4 (dZ.four S):=by
 have e:(#[Value.int .u8 ((S:Int)%256),int .u8 ((S:Int)/256%256),int .u8 ((S:Int)/65536%256),int .u8 ((S:Int)/16777216)]:Array ai).toList=Lib.byteCells (dZ.four S):=by have i:((UInt8.ofNat S).toNat:Int)=(S:Int)%256:=Aw;have f:((UInt8.ofNat (S/256)).toNat:Int)=(S:Int)/256%256:=Aw;have d:((UInt8.ofNat (S/65536)).toNat:Int)=(S:Int)/65536%256:=Aw;have b:((UInt8.ofNat (S/16777216)).toNat:Int)=(S:Int)/16777216:=Aw;show _=[Value.int .u8 ((UInt8.ofNat S).toNat:Nat),int .u8 ((UInt8.ofNat (S/256)).toNat:Nat),int .u8 ((UInt8.ofNat (S/65536)).toNat:Nat),int .u8 ((UInt8.ofNat (S/16777216)).toNat:Nat)];rw[i,f,d,b]
 refine⟨c.below (aN.alloc ny _) g,?_⟩;exact aY.sx (af.new w 5 _) e (by show 4<=1000000;omega)
def GP (h:ah ak) (n c:Nat) (b:List aU) (w:Wd) (l:aY w w h n c b):
 Calls prog 129 #[(),slice h n c] w λe w'=> ∃B,e= .returned B/\dJ w' w B (dZ.put b)/\az w w':=by have z:=l.1;have A:=hJ l;clear l;by_cases a4:65536<n;{have L:decide ((65536:Int)<n):=bG oy;have s:=hJ (show dZ.put b=[]by unfold dZ.put;rw[aK oy]);go_enter func129,ntmps129;(go_wp2_with fail);refine(Bq none 0 0 [] w (aY.none_ _ _) oy).mono ?_;rintro e H ⟨N,rfl,R,p⟩;go_wp2;go_ret;exact⟨N,rfl,by rw[s.o];exact R,p⟩};have L:decide ((65536:Int)<n)=false:=bj oy;have D:=Nl b;obtain⟨S,g⟩:=xR (dd.sum b);have s:=hJ (show dZ.put b=(cZ n++b)++dZ.four S by unfold dZ.put;rw[aG oy,z,g]);rw[g]at D;go_enter func129,ntmps129;(go_wp2_with fail);refine mB (Kb h n c b w A.o) λH p=>?_;rw[g];clear g;(go_wp2_with fail);refine(jg none 0 0 [] (n:Nat) oy oy H (aY.none_ _ _)).mono ?_;rintro e k ⟨a2,rfl,i,M⟩;have r:=bU p M;rw[jb,Int.toNat_natCast]at i;obtain⟨a8,c2,rfl,f,a6⟩:=i.wv;have E:=Ku n;have a1:=fJ n;obtain⟨d,m⟩:=xR (cZ n);rw[m]at E a1 f i⊢;have T:=hJ m;clear m;obtain⟨t,I,rfl,U,C⟩:=aA.at_ f E;have a3:d.length<=c2/\c2<= "":=⟨f.2.1,f.2.2.1⟩;(have u:ki k k (slice (some (t I)) d.length d.length) d:=by refine .inr ⟨t,I,rfl,U,λj O q=>?_⟩;unfold Lib.byteCells at q;rw[dw]at q;obtain⟨x,W,V⟩:=Option.map_eq_some_iff.1 q;have:=C j x W 0 O (by rw[<-V];rfl);simpa using this);obtain⟨a0,X⟩:=aq u (A.o.later r);clear u C f i;have a7:d.length+n<=70000:=oy;(go_wp2_with(first|(at_builtin;refine AF rfl _ _ rfl k _ d rfl a0.o ny h n c b rfl X.o oy ?_;intro a5 Z v _ y;have G:=y.size;have F:=hJ (afg D v G);clear v)|(at_builtin;refine AF rfl _ _ rfl k _ (d++b) rfl F.o.1 uy (some (an Z 0)) 4 4 (dZ.four S) rfl F.o.2 (by rw[bu,z];omega) ?_;intro Y a9 _ J P)));go_ret;have K:=y.trans ((aN.alloc G _).trans P);refine⟨Y,rfl,?_,bU r K⟩;rw[s.o,T.o];exact nk (J oy) r.size
def aim (w:Wd) (g:ah ak) (bs:List aU) (e:Ending) (w':Wd):Prop:=
 ∃ (a:ah ak) (f c1:Nat) (c:ah ak) (d c2:Nat) (b:Int),e= .returned (tuple #[slice a f c1,slice c d c2,b])/\az w w'/\
  ((dZ.get bs=none/\b≠0/\d=0)\/ ∃p r,dZ.get bs=some (p,r)/\b=0/\aY w w a f c1 p/\aY w w c d c2 r/\iS g a/\iS g c)
def dZ.CX {r:List aU} (c:cr bs=some (n,r)) (a:65536<n\/r.length<n+4\/dd.sum (r.take n)≠sM (r.drop n)):dZ.get bs=none:=by unfold dZ.get;rw[c];simp only;split;{rfl};rename_i b;split;{rfl};rename_i e;split;{rfl};rename_i d;obtain a|a|a:=a;{exact absurd a b};{exact absurd a e};exact absurd a d
def dZ.agS {r:List aU} (b:cr bs=some (n,r)) (d:n<=65536) (e:n+4<=r.length) (c:dd.sum (r.take n)=sM (r.drop n)):dZ.get bs=some (r.take n,r.drop (n+4)):=by unfold dZ.get;rw[b];simp only;rw[aG oy,aG oy,aG (λa=>a c)]
def aY.Nz {k:Nat} (a:aY W B F0 n c bs) (d:k<=n):aY W B F0 k k (bs.take k):=by have b:=aA.take a d;have:=a.2.1;have:=a.2.2.1;exact⟨b.1,ny,oy,b.2.2.2⟩
def ahF (b a c d:aU):bits .or .u32 (bits .or .u32 (bits .or .u32 ((b.toNat:Nat):Int) (IntKind.u32.wrap ((a.toNat:Nat)*256))) (IntKind.u32.wrap ((c.toNat:Nat)*65536))) (IntKind.u32.wrap ((d.toNat:Nat)*16777216))=((b.toNat+256*a.toNat+65536*c.toNat+16777216*d.toNat:Nat):Int):=by have k:=b.toNat_lt;have i:=a.toNat_lt;have l:=c.toNat_lt;have j:=d.toNat_lt;have h:IntKind.u32.wrap ((a.toNat:Int)*256)=(a.toNat:Int)*256:=wraps_u32 _ oy oy;have g:IntKind.u32.wrap ((c.toNat:Int)*65536)=(c.toNat:Int)*65536:=wraps_u32 _ oy oy;have e:IntKind.u32.wrap ((d.toNat:Int)*16777216)=(d.toNat:Int)*16777216:=wraps_u32 _ oy oy;rw[h,g,e];have a1:bits .or .u32 ((b.toNat:Nat):Int) ((a.toNat:Int)*256)=b.toNat+(a.toNat:Int)*256:=u32_or8 _ _ oy oy oy oy oy;have a2:bits .or .u32 ((b.toNat:Int)+a.toNat*256) ((c.toNat:Int)*65536)=b.toNat+a.toNat*256+(c.toNat:Int)*65536:=u32_or16 _ _ oy oy oy oy oy;have f:bits .or .u32 ((b.toNat:Int)+a.toNat*256+c.toNat*65536) ((d.toNat:Int)*16777216)=b.toNat+a.toNat*256+c.toNat*65536+(d.toNat:Int)*16777216:=u32_or24 _ _ oy oy oy oy oy;rw[a1,a2,f];omega
def Wt (A n c bs w) (a':aY w w A n c bs):
 Calls prog 180 #[slice A n c] w (aim w A bs):=by
 have c8:=hJ a';clear a';go_enter func180,ntmps180;go_wp2_with fail
 refine(ub A n c bs w c8.o).mono ?_;rintro e c3 ⟨N,b3,g,c1,Y,rfl,t,⟨u,a2,rfl,rfl,rfl,rfl⟩|⟨v,r,u,rfl,rfl,z,X⟩⟩;{(have a5:(Y !=0):=by simp[a2]);have C:=hJ (show dZ.get bs=none by unfold dZ.get;rw[u]);clear u;go_wp2;refine vG ?_;exact⟨none,0,0,none,0,0,Y,rfl,t,.inl ⟨C.o,a2,rfl⟩⟩};let⟨F,y,U⟩:=aM u (show aY w w b3 g c1 r from z) X;have e5:=z.1;have c5:g<=c1/\c1<= "":=⟨z.2.1,z.2.2.1⟩;have e8:=Ct u;clear u z X;by_cases c7:65536<v;{have a5:decide ((65536:Int)<v):=bG oy;have C:=hJ (CX F.o (.inl c7));go_wp2;refine vG ?_;exact⟨none,0,0,none,0,0,4,rfl,t,.inl ⟨C.o,dy,rfl⟩⟩};have a5:decide ((65536:Int)<v)=false:=bj oy;by_cases d5:g<v+4;{have b':decide ((g:Int)<v+4):=bG oy;have C:=hJ (CX F.o (.inr (.inl oy)));go_wp2;refine vG ?_;exact⟨none,0,0,none,0,0,3,rfl,t,.inl ⟨C.o,dy,rfl⟩⟩};have b':decide ((g:Int)<v+4)=false:=bj oy;obtain⟨b,I,rfl,b2,a7⟩:=aA.at_ y.o oy;(have B: ∀j (c9:v+j<g),w.cell? (b (I+(v+j)))=some (int .u8 ((r[v+j]' oy).toNat:Nat)):=by intro j c9;have:=a7 (v+j) _ (br oy) 0 _ rfl;simpa using this);let⟨i,a8⟩:=xR (r[v+0]' oy);let⟨o,W⟩:=xR (r[v+1]' oy);let⟨m,a3⟩:=xR (r[v+2]' oy);let⟨l,b0⟩:=xR (r[v+3]' oy);have G:=B 0 oy;have H:=B 1 oy;have E:=B 2 oy;have D:=B 3 oy;rw[a8]at G;rw[W]at H;rw[a3]at E;rw[b0]at D;(have Q:sM (r.drop v)=i.toNat+256*o.toNat+65536*m.toNat+16777216*l.toNat:=by (have b8:r.drop v=i::r.drop (v+1):=by rw[jE (show v<r.length by omega)];congr 1);(have c':r.drop (v+1)=o::r.drop (v+2):=by rw[jE (show v+1<r.length by omega)];congr 1);(have b9:r.drop (v+2)=m::r.drop (v+3):=by rw[jE (show v+2<r.length by omega)];congr 1);(have b7:r.drop (v+3)=l::r.drop (v+4):=by rw[jE (show v+3<r.length by omega)];congr 1);rw[b8,c',b9,b7];rfl);have d1:=hJ Q;rw[Nat.add_zero]at G;rw[<-Nat.add_assoc]at H E D;let⟨b1,d0,c0,b6⟩:=bJ G H E D;(have e7:IntKind.u32.wrap (i.toNat:Int)=(i.toNat:Int):=by have:=i.toNat_lt;rw[IntKind.wrap_u32];omega);(have d7:IntKind.u32.wrap (o.toNat:Int)=(o.toNat:Int):=by have:=o.toNat_lt;rw[IntKind.wrap_u32];omega);(have d9:IntKind.u32.wrap (m.toNat:Int)=(m.toNat:Int):=by have:=m.toNat_lt;rw[IntKind.wrap_u32];omega);(have e4:IntKind.u32.wrap (l.toNat:Int)=(l.toNat:Int):=by have:=l.toNat_lt;rw[IntKind.wrap_u32];omega);clear G H E D B a7 a8 W a3 b0 Q;go_wp2;refine cO λhH=>?_;let⟨a,Z⟩:=xR (v+4);(have e3:IntKind.i64.wrap ((v:Int)+4)=((a:Nat):Int):=by rw[Di _ oy oy,<-Z];rfl);have d8:v<=c1:=oy;have e1:v<=a:=oy;have d6:a<=c1:=oy;have c4:a<=g:=oy;(have e6: ¬c1=v:=by omega);refine te [0,1,2,3,4,5,6,7,8,9,10,11,12,13,14,15] ?_;generalize a6:(if c1=a then some ((b I):ak)else some (b (I+a)))=d4;have V:=hJ a6;clear a6;have O:=bU t hH;let⟨d,a1⟩:=aq O ((y.o.Nz (show v<=g by omega)).later O);clear hH O;generalize c3.drew=d' at d a1⊢;have e0:=dS b2 d.o.size;let⟨c2,b4,c6,d2⟩:=bJ (bC d.o b1.o) (bC d.o d0.o) (bC d.o c0.o) (bC d.o b6.o);(go_wp2_with fail);rw[show a-v=4 by omega];refine cO λhH=>?_;refine tg [0,2,3,4,5,6,7,8,9,10,11,12,13,14,15,16,17,18,19,20,21,22,23] (λ_ s=>FH (bC s c2.o) (bC s b4.o) (bC s c6.o) (bC s d2.o)) ?_;rw[ahF i o m l];let⟨R,J⟩:=xR (i.toNat+256*o.toNat+65536*m.toNat+16777216*l.toNat);rw[J];refine aV 1 λK f=>?_;go_simp;refine mB (Kb _ v v (r.take v) _ (a1.o.later hH)) λe9 x=>?_;refine qe λhH=>?_;let⟨S,L⟩:=xR (dd.sum (r.take v));rw[L];let⟨a4,a0⟩:=aq (show sM (r.drop v)=R by rw[d1.o,J]) L;clear J L;by_cases a9:S=R;{have M:=hJ (agS F.o oy oy (by rw[a0.o,a4.o,a9]));refine te [24] ?_;go_wp2;refine vG ?_;refine⟨_,_,_,_,_,_,0,rfl,bU d.o hH,.inr ⟨_,_,M.o,rfl,y.o.Nz oy,?_,U.o,?_⟩⟩;{rw[show v+4=a from Z,<-V.o];split;{rename_i d3;subst d3;rw[Nat.sub_self];exact y.o.end_ c5.1};exact y.o.DB c4};exact λp e=>by let⟨q,b5,t⟩:=U.o _ rfl;refine⟨q,b5,?_⟩;rw[<-t];rw[<-V.o]at e;split at e;{injection e with e;rw[<-e]};injection e with e;rw[<-e]};have e2:((S:Int) !=(R:Int)):=uy;have M:=hJ (CX F.o (.inr (.inr (by rw[a0.o,a4.o];exact a9))));refine te [24] ?_;go_wp2;refine vG ?_;exact⟨none,0,0,none,0,0,5,rfl,bU d.o hH,.inl ⟨M.o,dy,rfl⟩⟩
namespace aB
structure Nr where
 LA:ah ak
 Ln:Nat
 Lc:Nat
 nt:Nt
end aB
def jk (a:Nr):List ai:=[slice a.LA a.Ln a.Lc,a.nt.dq,a.nt.t,a.nt.cN,a.nt.next]
abbrev oY (r:Nr):Array Value:= #[.slice r.LA r.Ln r.Lc,r.nt.dq,r.nt.t,r.nt.cN,r.nt.next]
def rJ (a):(jk a).length=5:=rfl
def tz (W:Wd) (b:Nat) (a:Nr):Prop:=aH W b a.LA a.Ln a.Lc a.nt.l
def cV (W:Wd) (b:Nat) (A:ah ak) (n c:Nat) (ys:List Nr):Prop:=aA jk 5 W b A n c ys/\ ∀a∈ys,tz W b a
def fq (q:Nat) (A:ah ak) (n:Nat) (ys:List Nr):Prop:=aO q A n/\ ∀a∈ys,aO q a.LA a.Ln
section
variable{W W':Wd} {B B' n c:Nat} {A:ah ak} {ys:List Nr}
def cV.len (a:cV W B A n c ys):ys.length=n:=a.1.1
theorem cV.cap (a:cV W B A n c ys):n<=c/\c<= "":=⟨a.1.2.1,a.1.2.2.1⟩
def cV.below (b:cV W B A n c ys) (a:Below B W W'):cV W' B A n c ys:=⟨b.1.below a,λx d=>(show aH _ _ _ _ _ _ from b.2 x d).below a⟩
def cV.more (b:cV W B A n c ys) (a:B<=B'):cV W B' A n c ys:=⟨b.1.more a,λx d=>(show aH _ _ _ _ _ _ from b.2 x d).more a⟩
def cV.later (b:cV W W A n c ys) (a:az W W'):cV W' W' A n c ys:=(b.below a).more a.size
def cV.none_ (W B):cV W B none 0 0 []:=⟨aA.none_ _ _,λx a=>absurd a iy⟩
def cV.at_ (g:cV W B A n c ys) {k:Nat} (i:k<n): ∃b d a,A=some (b d)/\b<B/\ys[k]?=some a/\tz W B a/\W.cell? (b (d+k*5))=some (slice a.LA a.Ln a.Lc)/\W.cell? (b (d+k*5+1))=(a.nt.dq:ai)/\W.cell? (b (d+k*5+2))=(a.nt.t:ai)/\W.cell? (b (d+k*5+3))=(a.nt.cN:ai)/\W.cell? (b (d+k*5+4))=(a.nt.next:ai):=by let⟨b,d,e,j,h⟩:=g.1.at_ oy;have f:ys[k]?=some (ys[k]' vX):=br _;exact⟨b,d,_,e,j,f,g.2 _ (cz f),h k _ f 0 _ rfl,h k _ f 1 _ rfl,h k _ f 2 _ rfl,h k _ f 3 _ rfl,h k _ f 4 _ rfl⟩
def fq.of {q:Nat} (d:cV W B A n c ys) (b:B<=q):fq q A n ys:=⟨aO.dh d.1 b,λa e=>aO.dh (show aH _ _ _ _ _ _ from d.2 a e).1 b⟩
theorem cV.kept (d:cV W B A n c ys) (i:W.grownBy W' F8) (g:B<=W) (b: ∀q,F8=some q->fq q A n ys):cV W' B A n c ys:=
 ⟨d.1.kept i g rq,λa f=>(show aH _ _ _ _ _ _ from d.2 a f).kept i g (λq e=>(b q e).2 a f)⟩
end
def bW (ys:List Nr) (d l:Int):Qu:=⟨ys.map (·.nt),d,l⟩
def aB.kp {q:Qu} {k:Nat} (a:k<q.n.length) (b:aB.bN q.n k=false):aB.ar q=false:=by unfold aB.ar;rw[kM a b,Bool.and_false]
def rK (t b) (a:aB.bS t=b) (w):Calls prog 58 #[int .i64 t] w λe w'=>e= .returned (bool b)/\w=w':=by
 subst a;go_enter func58,ntmps58;go_wp2;all_goals go_ret
 all_goals exact⟨vD (by unfold aB.bS aB.cj;first|(simp;omega)|(rw[bG im,Bool.true_and])|(simp[*])),rfl⟩
def wO (t r) (a:dD t=r) (w):Calls prog 124 #[int .i64 t] w λe w'=>e= .returned (int .i64 r)/\w=w':=by
 subst a;go_enter func124,ntmps124;go_wp2;all_goals go_ret
 all_goals exact⟨by unfold dD aB.cj;congr 2<;>omega,rfl⟩
def Br (A n c ys dr lo b) (d:aB.ar (bW ys dr lo)=b) (w) (g:cV w w A n c ys):
 Calls prog 37 #[agg #[slice A n c,int .i64 dr,int .i64 lo]] w (bO w (bool b)):=by
 subst d;have a1:=g.len;have d9:=g.cap;have c6:=hJ g;let⟨es,q⟩:=xR (ys.map (·.nt));have a0:es.length=n:=by rw[<-q,cC];exact a1
 unfold bW;rw[q];let⟨c0,y⟩:=aq q a0;clear g a1 q a0;by_cases d3:16<n;{have C:decide ((16:Int)<n):=bG oy;have m:=hJ (show aB.ar ⟨es,dr,lo⟩=false by unfold aB.ar;simp only;rw[y.o,bj (by omega: ¬n<=16)];rfl);go_enter func37,ntmps37;(go_wp2_with fail);exact nz};refine sS λC=>?_;let⟨E,s⟩:=xR (aB.bS dr);let⟨v,x⟩:=xR (aB.bS lo);let⟨V,l,a9,b1⟩:=bJ (show aB.ar ⟨es,dr,lo⟩=(E&&v&&cI (aB.bN es) n)by unfold aB.ar;simp only;rw[y.o,bG (oy:n<=16),s,x];rfl) (show ∀k,k<n->aB.bN es k=false->aB.ar ⟨es,dr,lo⟩=false from λk a5 g=>aB.kp (by simp only;rw[y.o];exact a5) g) s x;clear s x;go_enter func37,ntmps37;(go_wp2_with fail);refine yB λr R a3 d6=>?_;refine mE (rK dr E a9.o r) ?_;have d5:=dp R.o;cases E;{exact Sb};(go_wp2_with fail);refine mE (rK lo v b1.o r) ?_;have d':=bD R.o;cases v;{exact Sb};go_wp2;go_loopw[24] (λi wr=> ∃k:Nat,k<=n/\i=int .i64 (k:Nat)/\cI (aB.bN es) k=true/\az r wr) (λi _=>n- (intOf i).toNat);(case atStart=>exact⟨0,oy,rfl,rfl,aN⟩);case round=>obtain⟨k,a5,rfl,X,L⟩:=hrel;have I:=hJ X;have d:=bU a3 L;clear X;by_cases e:k<n;{let⟨d0,d4,a,b2,c9,N,Y,a7,a6,H,S,K⟩:=c6.o.at_ e;(have O:es[k]?=some a.nt:=by rw[<-c0.o,dw,N];rfl);have G:=aB.gY O;have a8:=bC d a7;have c4:=bC d a6;have b9:=bC d H;have b3:=bC d S;have b7:=bC d K;have j:az wr (wr.alloc (.cells #[slice a.LA a.Ln a.Lc,a.nt.dq,a.nt.t,a.nt.cN,a.nt.next] 123)):=aN.alloc ny _;have Z:wr<(wr.alloc (.cells #[slice a.LA a.Ln a.Lc,a.nt.dq,a.nt.t,a.nt.cN,a.nt.next] 123)).heap.size:=iy;have a2:=hJ (((show tz _ _ a from Y):aH _ _ _ _ _ _).below d|>.below (j.mono d.size)|>.more (cK d.size j.size));have J:=bU d j;let⟨c1,u⟩:=xR (aa.ar a.nt.l);let⟨c2,z⟩:=xR (aB.bS a.nt.t);let⟨c3,F⟩:=xR (aB.bS a.nt.next);let⟨o,b0,c7,b4⟩:=bJ (show aB.bN es k=(c1&&c2&&c3&&decide (0<=a.nt.cN)&&decide (a.nt.cN<8))by rw[G];unfold lT;rw[u,z,F]) u z F;have Q:=bU L j;subst b2;clear a7 a6 H S K Y N u z F G O;(go_wp2_with fail);generalize a':World.alloc _ _=b5 at j Z a2 J Q⊢;have a4:=nQ a';have b8:=hJ a4;clear a8 c4 b9 b3 b7 a4;refine mB (ng a.LA a.Ln a.Lc a.nt.l c1 b0.o b5 a2.o) λM t=>?_;have D:=bU J t;have b':=bU Q t;have p:=b8.o.below t Z;have c':=dp p;have d8:=dF p;have d1:=eW p;clear p;cases c1;{have f:=hJ (l.o k e FD);exact pR};(go_wp2_with fail);refine mE (rK a.nt.t c2 c7.o M) ?_;cases c2;{have f:=hJ (l.o k e FD);exact pR};(go_wp2_with fail);refine mE (rK a.nt.next c3 b4.o M) ?_;cases c3;{have f:=hJ (l.o k e FD);exact pR};by_cases c8:a.nt.cN<0;{have f:=hJ (l.o k e (by rw[o.o,bj (by omega: ¬0<=a.nt.cN)];rfl));exact pR};have d2:decide (a.nt.cN<0)=false:=bj c8;by_cases c5:8<=a.nt.cN;{have f:=hJ (l.o k e (by rw[o.o,bj (by omega: ¬a.nt.cN<8)];simp));exact pR};have d7:decide (8<=a.nt.cN)=false:=bj c5;have b6:=hJ (ig I.o (show aB.bN es k=true by rw[o.o,bG (oy:0<=a.nt.cN),bG (oy:a.nt.cN<8)];rfl));go_wp2;go_roundw;(case rel=>exact⟨k+1,by omega,by go_num,b6.o,b'⟩);case measure=>simp[intOf];omega};obtain rfl:k=n:=oy;have U:=hJ (show aB.ar ⟨es,dr,lo⟩=true by rw[V.o,I.o];rfl);exact Fb
structure Sl where
 A:ah ak
 n:Nat
 c:Nat
def pI (s:Sl):List ai:=[slice s.A s.n s.c]
def Bo (s):(pI s).length=1:=rfl
def uD (x:Int):List ai:=[x]
def AY (x):(uD x).length=1:=rfl
def qF {F4:Type} {f:F4->List ai} (d: ∀x,∀a∈f x,a.oneCell') (xs:List F4): ∀a∈xs.flatMap f,a.oneCell':=by intro a b;let⟨x,_,c⟩:=mem_flatMap.1 b;exact d x a c
def IB (s): ∀a∈pI s,a.oneCell':=by intro a b;simp[pI]at b;subst b;rfl
def Hj (s): ∀a∈uD s,a.oneCell':=by intro a b;simp[uD]at b;subst b;rfl
def VX (s): ∀a∈jk s,a.oneCell':=by intro a b;simp[jk]at b;obtain rfl|rfl|rfl|rfl|rfl:=b<;>rfl
def Ks (w a n c):(binOp .eql 29 (slice a n c) ()).run prog w= .ok (bool a.isNone) w:=Lib.run_eql_slice_nil w _ _ a n c 0 0 underlying29
def Dl:(prog.info? 123).map (λi=>(i.zero,i.size,i.bytes))=some (some (agg #[(),false,"","",""]),5,56):=ry
def Xk (A n c xs w) (b:aA jk 5 w w A n c xs) (u:n<=10000):
 Calls prog 216 #[slice A n c] w λe w'=> ∃v,e= .returned v/\w'.ownsRow w 123 5 v n (xs.flatMap jk)/\az w w':=by let⟨o,f,l,m,s⟩:=info_parts Dl;have j:=aA.reads rJ dy b;obtain _|a:=A;{have d:=Ks w none n c;simp only[Option.isNone]at d;go_enter func216,ntmps216;exact yu};have d:=Ks w (some a) n c;simp only[Option.isNone]at d;go_enter func216,ntmps216;have t:(w.alloc (.cells #[] 123)).ownsRow w 123 5 (bR w 0 0) 0 []:=⟨iy,.inr ⟨w,0,#[],rfl,ny,heap_alloc_new w _,ny,by unfold maxLen;omega,rfl,rfl⟩⟩;obtain⟨p,q,r⟩:=aM (j.alloc ny (.cells #[] 123)) (qF VX xs) t;(go_wp2_with(at_builtin;refine nd _ rfl (.tmp 5) (.tmp 6) 29 rfl w 123 o _ 5 56 underlying29 f l m s rfl dy (bR w 0 0) 0 [] rfl r w (some a) n c _ rfl p q my oy iy ?_;intro z x g i y));exact pZ
def BN (w a n c):(binOp .eql 27 (slice a n c) ()).run prog w= .ok (bool a.isNone) w:=Lib.run_eql_slice_nil w _ _ a n c 0 0 underlying27
def xT:(prog.info? 3).map (λi=>(i.zero,i.size,i.bytes))=some (some (int .i64 0),1,8):=ry
def UY (A n c xs w) (b:aA uD 1 w w A n c xs) (u:n<=10000):
 Calls prog 67 #[slice A n c] w λe w'=> ∃v,e= .returned v/\w'.ownsRow w.heap.size 3 1 v n (xs.flatMap uD)/\az w w':=by let⟨o,f,l,m,s⟩:=info_parts xT;have j:=aA.reads AY dy b;obtain _|a:=A;{have d:=BN w none n c;simp only[Option.isNone]at d;go_enter func67,ntmps67;exact yu};have d:=BN w (some a) n c;simp only[Option.isNone]at d;go_enter func67,ntmps67;have t:(w.alloc (.cells #[] 3)).ownsRow w 3 1 (bR w 0 0) 0 []:=⟨iy,.inr ⟨w,0,#[],rfl,ny,heap_alloc_new w _,ny,by unfold maxLen;omega,rfl,rfl⟩⟩;obtain⟨p,q,r⟩:=aM (j.alloc ny (.cells #[] 3)) (qF Hj xs) t;(go_wp2_with(at_builtin;refine nd _ rfl (.tmp 5) (.tmp 6) 27 rfl w 3 o _ 1 8 underlying27 f l m s rfl dy (bR w 0 0) 0 [] rfl r w (some a) n c _ rfl p q my oy iy ?_;intro z x g i y));exact pZ
def BS (w a n c):(binOp .eql 28 (slice a n c) ()).run prog w= .ok (bool a.isNone) w:=Lib.run_eql_slice_nil w _ _ a n c 0 0 underlying28
def xP:(prog.info? 93).map (λi=>(i.zero,i.size,i.bytes))=some (some (slice none 0 0),1,24):=ry
def VF (A n c xs w) (b:aA pI 1 w w A n c xs) (u:n<=10000):
 Calls prog 68 #[slice A n c] w λe w'=> ∃v,e= .returned v/\w'.ownsRow w.heap.size 93 1 v n (xs.flatMap pI)/\az w w':=by let⟨o,f,l,m,s⟩:=info_parts xP;have j:=aA.reads Bo dy b;obtain _|a:=A;{have d:=BS w none n c;simp only[Option.isNone]at d;go_enter func68,ntmps68;exact yu};have d:=BS w (some a) n c;simp only[Option.isNone]at d;go_enter func68,ntmps68;have t:(w.alloc (.cells #[] 93)).ownsRow w 93 1 (bR w 0 0) 0 []:=⟨iy,.inr ⟨w,0,#[],rfl,ny,heap_alloc_new w _,ny,by unfold maxLen;omega,rfl,rfl⟩⟩;obtain⟨p,q,r⟩:=aM (j.alloc ny (.cells #[] 93)) (qF IB xs) t;(go_wp2_with(at_builtin;refine nd _ rfl (.tmp 5) (.tmp 6) 28 rfl w 93 o _ 1 24 underlying28 f l m s rfl dy (bR w 0 0) 0 [] rfl r w (some a) n c _ rfl p q my oy iy ?_;intro z x g i y));exact pZ
def JP (w a n c):(binOp .eql 33 (slice a n c) ()).run prog w= .ok (bool a.isNone) w:=Lib.run_eql_slice_nil w _ _ a n c 0 0 underlying33
def MC:(prog.info? 34).map (λi=>(i.zero,i.size,i.bytes))=some (some (slice none 0 0),1,24):=ry
def Va (A n c xs w) (b:aA pI 1 w w A n c xs) (u:n<=10000):
 Calls prog 73 #[slice A n c] w λe w'=> ∃v,e= .returned v/\w'.ownsRow w.heap.size 34 1 v n (xs.flatMap pI)/\az w w':=by let⟨o,f,l,m,s⟩:=info_parts MC;have j:=aA.reads Bo dy b;obtain _|a:=A;{have d:=JP w none n c;simp only[Option.isNone]at d;go_enter func73,ntmps73;exact yu};have d:=JP w (some a) n c;simp only[Option.isNone]at d;go_enter func73,ntmps73;have t:(w.alloc (.cells #[] 34)).ownsRow w 34 1 (bR w 0 0) 0 []:=⟨iy,.inr ⟨w,0,#[],rfl,ny,heap_alloc_new w _,ny,by unfold maxLen;omega,rfl,rfl⟩⟩;obtain⟨p,q,r⟩:=aM (j.alloc ny (.cells #[] 34)) (qF IB xs) t;(go_wp2_with(at_builtin;refine nd _ rfl (.tmp 5) (.tmp 6) 33 rfl w 34 o _ 1 24 underlying33 f l m s rfl dy (bR w 0 0) 0 [] rfl r w (some a) n c _ rfl p q my oy iy ?_;intro z x g i y));exact pZ
section
def aaF (w a c b d):(Op.equalIn 10000 71 (agg #[bool a,int .i64 b,bool c,int .i64 d]) (agg #[bool a,int .i64 b,bool c,int .i64 d])).run prog w= .ok true w:=by have i:=underlying3;have k:=isAgg3;have g:=sizeOf3;have j:=underlying4;have h:=isAgg4;have l:=sizeOf4;have e:prog.underlying 71=some (.struct (prog.fieldsOf 71)):=ry;have f:prog.stoodInHeld 71=false:=ry;rw[show(10000:Nat)=9999+1 from rfl,run_equalIn_agg w 9999 71 _ _ e f];simp only[Program.fieldsOf,underlying71];go_simp
def adI (w a c b d):(binOp .eql 71 (agg #[bool a,int .i64 b,bool c,int .i64 d]) (agg #[bool a,int .i64 b,bool c,int .i64 d])).run prog w= .ok (bool true) w:=by rw[run_eql_struct,aaF];rfl
def Zs (w) (op:BinOp) (x y xs ys):(eqGuard op 71 x y (agg xs) (agg ys)).run prog w= .ok () w:=run_eqGuard_agg w op _ x y xs ys ry
attribute [local go_sem↓] adI Zs
def Vk (s t) (m:s.al=t.al) (w) (e:aH w w s.LA s.Ln s.Lc s.al.l) (g:aH w w t.LA t.Ln t.Lc t.al.l):
 Calls prog 49 #[agg (kL s),agg (kL t)] w (bO w true):=by
 let⟨n,o,q,a⟩:=s;let⟨z,p,r,b⟩:=t;simp only at m e g⊢;subst m;let⟨x,v⟩:=aq e g;clear e g;go_enter func49,ntmps49;go_wp2_with fail
 refine gh λH G u C=>?_;let⟨f,i,l,y,A⟩:=mr G C;let⟨f,i⟩:=aq f i;clear G C;refine mB (ul n z o q p r a.l a.l true (bG rfl) u (x.later l) (v.later l)) λL j=>?_;let⟨d,c⟩:=aq (f.below j y) (i.below j A);have a1:=bL d;have a2:=dp d;have N:=dF d;have D:=eW d;have E:=jd d;have K:=jA d;have M:=bL c;have B:=dp c;have O:=dF c;have J:=eW c;have F:=jd c;have I:=jA c;go_wp2;go_ret;exact⟨rfl,bU l j⟩
def UC (A D n c m d xs ys) (e:xs.map (·.al)=ys.map (·.al)) (w) (b:bp w w A n c xs) (g:bp w w D m d ys):
 Calls prog 24 #[slice A n c,slice D m d] w (bO w true):=by
 refine vN λv I j=>?_;subst j;refine sW λJ L=>?_;let⟨N,b3,b2⟩:=aM e b g;clear b g e v I;go_enter func24,ntmps24;go_wp2;go_loopw[5] (λi wr=> ∃k:Nat,k<=n/\i=k/\az w wr) (λi _=>n- (intOf i).toNat);case atStart=>exact⟨0,dR _,rfl,aN⟩
 case round=>obtain⟨k,c9,rfl,a⟩:=hrel;by_cases Q:k<n;{let⟨E,o⟩:=xS (k+1);refine pP λz=>?_;have r:=hJ o;let⟨c4,c7,s,b6,G,p,a4,a2,y,W,S,a0,M,X⟩:=b3.at_ Q;let⟨c6,c5,t,b0,H,q,hit,a1,U,Y,V,a3,R,O⟩:=b2.at_ Q;(have Z:((·.al)) s=((·.al)) t:=by exact vF);have a8:=hJ Z;refine oF λB F=>?_;let⟨a5,b4,b7,b',a6,a',b5,b8,b9,c2,c0,a7⟩:=EX (bC a a2) (bC a y) (bC a W) (bC a S) (bC a a0) (bC a M) (bC a X) (bC a a1) (bC a U) (bC a Y) (bC a V) (bC a a3);let⟨b1,a9,c1,c3⟩:=bJ (bC a R) (bC a O) ((show aH _ _ _ _ _ _ from a4).below a|>.more a.size) ((show aH _ _ _ _ _ _ from hit).below a|>.more a.size);refine vR λu C=>?_;subst b6 b0;clear o p q a4 hit a2 y W S a0 M X a1 U Y V a3 R O Z;go_wp2;refine cO λhH=>?_;refine tg [0,1,2,3,4,5,6] (λ_ s=>Fu (bC s a5) (bC s b4) (bC s b7) (bC s b') (bC s a6) (bC s a') (bC s b5)) ?_;refine tf 7 (λ_ s=>Fu (bC s b8) (bC s b9) (bC s c2) (bC s c0) (bC s a7) (bC s b1) (bC s a9)) ?_;refine aV 8 λK f=>?_;go_simp;refine mB (Vk s t a8 _ (c1.later hH) (c3.later hH)) λc8 x=>?_;refine qe λhH=>?_;refine te [9] ?_;exact yz};exact vI
end
def Gy: ∀a b:List aU,Lib.compareBytes a b=if Op.bytesLess a b=true then-1 else if(a==b)=true then 0 else 1
 |[],[]=>rfl
 |[],_::_=>rfl
 |_::_,[]=>rfl
 |x::a,y::b=>by
  have ih:=Gy a b;rw[show Lib.compareBytes (x::a) (y::b)=if x<y then-1 else if y<x then 1 else Lib.compareBytes a b from rfl,show Op.bytesLess (x::a) (y::b)=(decide (x<y)||(x==y&&Op.bytesLess a b))from rfl,show((x::a)==(y::b))=(x==y&&a==b)from rfl,ih];by_cases e:x=y;{subst e;simp[UInt8.lt_irrefl]};(have g:(x==y)=false:=by simpa using e);rw[g];by_cases d:x<y;{simp[d]};(have f:y<x:=by obtain k|k|k:=Nat.lt_trichotomy x.toNat y.toNat;{exact absurd (UInt8.lt_iff_toNat_lt.2 k) d};{exact absurd (UInt8.toNat_inj.1 k) e};exact UInt8.lt_iff_toNat_lt.2 k);simp[d,f]
def xp (a b:au) (c:Int) (d:fD a b=c) (w:Wd):Calls prog 23 #[a,b] w λe w'=>e= .returned c/\w=w':=by subst d;refine(strings_Compare a b w).mono ?_;rintro e w' ⟨rfl,rfl⟩;refine⟨?_,rfl⟩;rw[Gy];unfold fD;rw[ByteArray.toList_eq,ByteArray.toList_eq]
def agI (p q:Pr) (c:Int) (J:eI p q=c) (w:Wd):
 Calls prog 178 #[agg #[p.1,p.2],agg #[q.1,q.2]] w λe w'=>e= .returned c/\Below w w w':=by
 obtain⟨F,I⟩:=p;obtain⟨G,E⟩:=q;obtain⟨c1,z⟩: ∃c,fD F G=c:=⟨_,rfl⟩;obtain⟨c2,v⟩: ∃c,fD I E=c:=⟨_,rfl⟩;obtain⟨D,N,L⟩:=aM (show(if c1≠0 then c1 else c2)=c by rw[<-J];unfold eI;rw[z,v]) z v;clear z v J;go_enter func178,ntmps178;go_wp2;generalize H:w.alloc _=M;generalize C:M.alloc _=u;obtain⟨a,b,y,f,i⟩:=mr H C;obtain⟨a,b⟩:=aq a b;clear H C;refine cO λhH=>?_;refine tk 0 ?_;refine tk 1 ?_ (hy:=by intro wq hSw;have t:=(hSw.cell (p:=an w 0) f).trans (a.cell 0);have l:=(hSw.cell (p:=an w 1) f).trans (a.cell 1);have j:=(hSw.cell (p:=an (w+1) 0) i).trans (b.cell 0);have m:=(hSw.cell (p:=an (w+1) 1) i).trans (b.cell 1);simp at t l j m;exact bM);refine tk 2 ?_;refine tk 3 ?_ (hy:=by intro wq hSw;have t:=(hSw.cell (p:=an w 0) f).trans (a.cell 0);have l:=(hSw.cell (p:=an w 1) f).trans (a.cell 1);have j:=(hSw.cell (p:=an (w+1) 0) i).trans (b.cell 0);have m:=(hSw.cell (p:=an (w+1) 1) i).trans (b.cell 1);simp at t l j m;exact bM);refine tk 5 ?_;refine tk 6 ?_ (hy:=by intro wq hSw;have t:=(hSw.cell (p:=an w 0) f).trans (a.cell 0);have l:=(hSw.cell (p:=an w 1) f).trans (a.cell 1);have j:=(hSw.cell (p:=an (w+1) 0) i).trans (b.cell 0);have m:=(hSw.cell (p:=an (w+1) 1) i).trans (b.cell 1);simp at t l j m;exact bM);refine tk 7 ?_;refine tk 8 ?_ (hy:=by intro wq hSw;have t:=(hSw.cell (p:=an w 0) f).trans (a.cell 0);have l:=(hSw.cell (p:=an w 1) f).trans (a.cell 1);have j:=(hSw.cell (p:=an (w+1) 0) i).trans (b.cell 0);have m:=(hSw.cell (p:=an (w+1) 1) i).trans (b.cell 1);simp at t l j m;exact bM);refine aV 4 λK o=>?_;go_simp;refine mE (xp F G c1 N _) ?_;refine eL λhH=>?_;refine aV 9 λK o=>?_;go_simp;refine mE (xp I E c2 L _) ?_;refine eL λhH=>?_;refine aV 10 λK o=>?_;go_simp;refine o.out _ _ (aN.alloc ny _).drew (λhH=>?_);clear o K;try simp only[Act.put,setIfInBounds_toArray,set_cons_zero,set_cons_succ]
 have s:af (u.alloc (.cells #[c1,c2] 3)).drew u 3 #[c1,c2]:=(af.new u _ _).drew;refine zK λg=>?_;generalize(u.alloc (.cells #[c1,c2] 3)).drew=d at s g hH⊢;refine Ti λx r=>?_;clear hH s;have hH:Below d d d:=aN;refine aV 11 λK o=>?_;refine ED ?_;refine eL λhH=>?_;refine te [12] ?_;exact EG
namespace aw
structure Sr where
 g:au
 r:au
 x:Tr
def Sr.val (s:Sr):Sv:=⟨s.g,s.r,s.x.val⟩
def kp {l:List Sv} {k:Nat} (b:k<l.length) (a:bN l k=false):ar l=false:=by exact SJ
end aw
def jj (s:Sr):List ai:=[s.g,s.r,slice s.x.A s.x.n s.x.c,s.x.full]
def Hi (s:Sr):(jj s).length=4:=rfl
def ef (W:Wd) (b:Nat) (A:ah ak) (n c:Nat) (ss:List Sr):Prop:=aA jj 4 W b A n c ss/\ ∀s∈ss,dI W b s.x
section
variable{W W':Wd} {B B' n c:Nat} {A:ah ak} {ss:List Sr}
def ef.len (a:ef W B A n c ss):ss.length=n:=a.1.1
theorem ef.cap (a:ef W B A n c ss):n<=c/\c<= "":=⟨a.1.2.1,a.1.2.2.1⟩
def ef.below (b:ef W B A n c ss) (a:Below B W W'):ef W' B A n c ss:=⟨b.1.below a,λx d=>(show bp _ _ _ _ _ _ from b.2 x d).below a⟩
def ef.more (b:ef W B A n c ss) (a:B<=B'):ef W B' A n c ss:=⟨b.1.more a,λx d=>(show bp _ _ _ _ _ _ from b.2 x d).more a⟩
def ef.later (b:ef W W A n c ss) (a:Below W W W'):ef W' W' A n c ss:=(b.below a).more a.size
def ef.none_ (W:Wd) (B:Nat):ef W B none 0 0 []:=⟨aA.none_ _ _,λx a=>absurd a iy⟩
def ef.at_ (g:ef W B A n c ss) {k:Nat} (h:k<n): ∃b a s,A=some ⟨b,a,none⟩/\b<B/\ss[k]?=some s/\dI W B s.x/\W.cell? ⟨b,a+k*4,none⟩=(s.g:ai)/\W.cell? ⟨b,a+k*4+1,none⟩=(s.r:ai)/\W.cell? ⟨b,a+k*4+2,none⟩=some (slice s.x.A s.x.n s.x.c)/\W.cell? ⟨b,a+k*4+3,none⟩=(s.x.full:ai):=by obtain⟨b,a,e,i,f⟩:=g.1.at_ oy;have d:ss[k]?=some (ss[k]'(by rw[g.len];exact h)):=getElem?_eq_getElem _;exact⟨b,a,_,e,i,d,g.2 _ (mem_of_getElem? d),f k _ d 0 _ rfl,f k _ d 1 _ rfl,f k _ d 2 _ rfl,f k _ d 3 _ rfl⟩
end
def Bd (A:ah ak) (n c:Nat) (ss:List Sr) (b:Bool) (d:aw.ar (ss.map Sr.val)=b) (w:Wd) (m:ef w w A n c ss):
 Calls prog 130 #[slice A n c] w λe w'=>e= .returned b/\Below w w w':=by
 subst d;have b9:=m.len;have g4:=m.cap;have c7:=hJ m;obtain⟨es,G⟩: ∃es,ss.map Sr.val=es:=⟨_,rfl⟩;have b8:es.length=n:=by rw[<-G,length_map];exact b9
 rw[G];obtain⟨c5,Y⟩:=aq G b8;clear m b9 G b8;by_cases g2:256<n;{have e6:decide ((256:Int)<n):=decide_eq_true oy;have e4:=hJ (show aw.ar es=false by unfold aw.ar;rw[Y.o,decide_eq_false (by omega: ¬n<=256)];rfl);go_enter func130,ntmps130;go_wp2;go_ret;exact⟨by rw[e4.o];rfl,aN⟩}
 ·have e6:decide ((256:Int)<n)=false:=decide_eq_false oy
  obtain⟨d',Z⟩:=aq (show aw.ar es=cI (aw.bN es) n by unfold aw.ar;rw[Y.o,decide_eq_true (oy:n<=256)];rfl) (show ∀k,k<n->aw.bN es k=false->aw.ar es=false from λk c3 m=>aw.kp (by rw[Y.o];exact c3) m)
  go_enter func130,ntmps130
  go_wp2
  go_loopw[10] (λi wr=> ∃k:Nat,k<=n/\i=k/\cI (aw.bN es) k/\Below w w wr) (λi _=>n- (intOf i).toNat)
  case atStart=>exact⟨0,oy,rfl,rfl,aN⟩
  case round=>
   obtain⟨k,c3,rfl,b1,d⟩:=hrel
   have J:=hJ b1
   clear b1
   by_cases u:k<n
   ·refine oD λC=>?_
    obtain⟨E,S⟩: ∃y,y=k+1:=⟨_,rfl⟩
    refine Ey λe'=>?_
    obtain⟨g,l,s,e0,o,d6,b4,c9,c6,a4,a8⟩:=c7.at_ u
    have d7:es[k]?=some s.val:=by rw[<-c5.o,getElem?_map,d6];rfl
    have a1:=aw.gY d7
    have d3:=(d.cell (p:=g (l+k*4)) o).trans c9
    have f2:=(d.cell (p:=g (l+k*4+1)) o).trans c6
    have e9:=(d.cell (p:=g (l+k*4+2)) o).trans a4
    have e3:=(d.cell (p:=g (l+k*4+3)) o).trans a8
    have v:=af.new wr 58 #[s.g,s.r,slice s.x.A s.x.n s.x.c,s.x.full]
    have z:Below wr wr (wr.alloc (.cells #[s.g,s.r,slice s.x.A s.x.n s.x.c,s.x.full] 58)):=aN.alloc ny _
    have R:wr<(wr.alloc (.cells #[s.g,s.r,slice s.x.A s.x.n s.x.c,s.x.full] 58)).heap.size:=iy
    have c0:=hJ (((show bp _ _ _ _ _ _ from b4).below d).below (z.mono d.size)|>.more (Nat.le_trans d.size z.size))
    have x:=d.trans (z.mono d.size)
    have X:=hJ S
    obtain⟨a0,I⟩: ∃b,aa.name s.g=b:=⟨_,rfl⟩
    obtain⟨M,N⟩: ∃b,aa.name s.r=b:=⟨_,rfl⟩
    obtain⟨D,O⟩: ∃b,ae.ar ⟨s.x.ys.map (·.al),s.x.full⟩=b:=⟨_,rfl⟩
    have b6:ae.ar s.val.x=D:=O
    obtain⟨d5,d8,f7⟩:=aM I N O
    have a6:aw.bN es k=(a0&&M&&D&& (match(generalizing:=false) k with
     |0=>true
     |k+1=>match es[k]? with
      |none=>true
      |some q=>aw.ahead q s.val)):=by
     rw[a1,b6,show s.val.g=s.g from rfl,show s.val.r=s.r from rfl,I,N]
     cases k<;>rfl
    have F:=hJ a6
    subst e0
    clear S c9 c6 a4 a8 b4 I N O b6 a1 a6
    go_wp2_with fail
    generalize wr.alloc (.cells #[s.g,s.r,slice s.x.A s.x.n s.x.c,s.x.full] 58)=V at v z R c0 x⊢
    have e7:=hJ v
    have f3:=bL v
    have d0:=dp v
    have f0:=dF v
    clear d3 f2 e9 e3 v
    refine mE (fB s.g a0 d5 V) ?_
    obtain _|_:=a0
    ·exact QM
    ·go_wp2_with fail
     refine mE (fB s.r M d8 V) ?_
     obtain _|_:=M
     ·exact QM
     ·go_wp2_with fail
      refine mB (BF s.x.A s.x.n s.x.c s.x.ys s.x.full D f7 V c0) λg1 H=>?_
      have j:=x.trans (H.mono x.size)
      have c8:=e7.below H R
      have b':=hJ c8
      have c4:=Nat.lt_of_lt_of_le R H.size
      clear f3 d0 f0 c8
      obtain _|_:=D
      ·have f:=hJ (Z k u (by rw[F.o];rfl))
       exact vE
      ·go_wp2
       by_cases L:k=0
       ·have e5:decide (0<k)=false:=decide_eq_false oy
        have b5:=hJ (ig J (show aw.bN es k=true by rw[F.o,L];rfl))
        clear L
        refine yq λhH=>?_
        refine qY ?_
        refine te [13] ?_
        exact RE
       ·have e5:decide (0<k):=decide_eq_true oy
        obtain⟨a,a2⟩: ∃y,k=y+1:=⟨k-1,oy⟩
        have f9:IntKind.i64.wrap ((k:Int)-1)=((a:Nat):Int):=by rw[show(k:Int)-1=((a:Nat):Int)by omega];exact IntWalk.i64_in _ oy
        have e8:a<n:=oy
        obtain⟨d4,f5,t,a9,f',b7,d2,b2,a5,_⟩:=c7.at_ e8
        obtain⟨rfl,rfl⟩:g=d4/\l=f5:=by injection a9 with m;injection m with f6 e1;exact⟨f6,e1⟩
        have a3:es[a]?=some t.val:=by rw[<-c5.o,getElem?_map,b7];rfl
        obtain⟨r,Q⟩: ∃r,eI (t.g,t.r) (s.g,s.r)=r:=⟨_,rfl⟩
        have c1:aw.bN es k=decide (r<0):=by
         rw[F.o,a2]
         simp only
         rw[a3]
         show(true&&aw.ahead t.val s.val)=_
         rw[Bool.true_and]
         unfold aw.ahead
         rw[show eI t.val.k s.val.k=r from Q]
        obtain⟨c',f4⟩:=aq ((j.cell (p:=g (l+a*4)) o).trans b2) ((j.cell (p:=g (l+a*4+1)) o).trans a5)
        have b0:=Nat.lt_of_lt_of_le o j.size
        obtain⟨d9,b3⟩:=aq Q c1
        have g0:(0:Int)<=a:=oy
        have g3:a<(n:Int):=oy
        clear L a2 a9 b7 b2 a5 d2 a3 Q c1
        refine cO λhH=>?_
        refine ts [0,1,2,3,4,5,6,7] ?_
        refine tk 8 ?_ (hy:=by intro wq hSw;have c2:=(hSw.cell (p:=g (l+a*4)) b0).trans c';have a7:=(hSw.cell (p:=g (l+a*4+1)) b0).trans f4;exact bM)
        refine tk 9 ?_
        refine tk 10 ?_ (hy:=by intro wq hSw;have c2:=(hSw.cell (p:=an wr 0) c4).trans (b'.cell 0);have a7:=(hSw.cell (p:=an wr 1) c4).trans (b'.cell 1);simp at c2 a7;exact bM)
        refine aV 11 λK f1=>?_
        go_simp
        refine mB (agI (t.g,t.r) (s.g,s.r) r d9 _) λf8 d1=>?_
        show K _ _
        refine be f1 (hH.trans (d1.mono hH.size)) λhH=>?_
        refine te [12,13] ?_
        by_cases a':r<0
        ·have e2:decide ((0:Int)<=r)=false:=decide_eq_false oy
         have b5:=hJ (ig J (show aw.bN es k=true by rw[b3.o,decide_eq_true a']))
         exact RE
        ·have e2:decide ((0:Int)<=r):=decide_eq_true oy
         have f:=hJ (Z k u (by rw[b3.o,decide_eq_false a']))
         go_wp2
         go_ret
         exact⟨by rw[f.o];rfl,j.trans (hH.mono j.size)⟩
   ·obtain rfl:n=k:=oy
    have C:decide (n<n)=false:=decide_eq_false oy
    have U:=hJ (show aw.ar es=true by rw[d'.o,J.o])
    exact Fb
namespace aw
def aek (m:Int):(me m).length<=9:=by unfold me;split;{simp};split<;>exact fJ _
def CB {l:List Pr} (a:aa.ar l):(ml l).length<=9+l.length*146:=by
 have c:=(jG a).2;unfold ml tH;rw[aK a,bu];have f:=fJ l.length;have d: ∀ (m:List Pr),(∀p∈m,p.1.size<=64/\p.2.size<=64)->(m.flatMap mj).length<=m.length*146:=by intro m;induction m with|nil=>(intro _;simp)|cons p m ih=>(intro b;have g:=b p (gl ..);have:=ih (λq e=>b q (gW _ e));rw[gX,bu,cH];unfold mj;rw[bu];have a1:=uw p.1;have a2:=uw p.2;unfold mj at this;omega)
 have:=d l c;omega
def Kt {a:Al} (b:aa.ar a.l):(lW a).length<=2381:=by have c:=CB b;have g:=(jG b).1;have f:=fJ (pf a);have d:=fJ a.h.since.toNat;have e:=fJ a.h.cB.toNat;have h:=aek (clip a.v);unfold lW;simp only[bu];omega
end aw
def dJ.ia (e:dJ W base v bs): ∃a c n b,v=slice a n c/\b=bs/\n=b.length/\aY W W a n c b:=by obtain⟨a,c,f,d,_⟩:=e.wv;exact⟨a,c,_,bs,f,rfl,rfl,d⟩
def VP (L:ah ak) (n c:Nat) (bs:List aU) (a4:L=none\/0<n) (b0:n<=9900000) (s:Ar) (V:gi s.al) (w:Wd) (u:aY w w L n c bs) (g:aH w w s.LA s.Ln s.Lc s.al.l):
 Calls prog 132 #[slice L n c,agg (kL s)] w λe w'=> ∃a0,e= .returned a0/\dJ w' w a0 (bs++lW s.al)/\az w w':=by obtain⟨LA,Ln,Lc,l,⟨on,F,hit,C⟩,st,v⟩:=s;simp only at g V⊢;have z:=kR V;have Z:=bm.jJ z.2.1;simp only at z Z;have b1:=u.1;have b5:=z.2.2;have a6:0<=F/\F<=1152921504606846976:=oy;have a9:0<=C/\C<=1152921504606846976:=oy;have a5:=hJ z.1;have a8:=CB z.1;have b4:=(jG z.1).1;obtain⟨a3,a2⟩:=aq u g;have b6:IntKind.i64.wrap (st+4)=st+4:=fA _ oy;have b3:IntKind.i64.wrap (st+8)=st+8:=fA _ oy;have a':IntKind.i64.wrap (st+4+8)=st+4+8:=fA _ oy;obtain⟨X,R⟩:=xR (ml l);obtain⟨N,Y⟩:=xR (pf ⟨l,⟨on,F,hit,C⟩,st,v⟩);obtain⟨a7,a1⟩:=aq (show lW ⟨l,⟨on,F,hit,C⟩,st,v⟩=X++(cZ N++(cZ F.toNat++(cZ C.toNat++me (aw.clip v))))by unfold lW;simp only;rw[R,Y]) Y;rw[R]at a8;have Q:=hJ R;clear u g V z Z Y R;have b2:X.length<=2400:=oy;obtain _|_:=on<;>obtain _|_:=hit;{have d:st=((N:Nat):Int):=Am;have S:=hJ d;clear d;go_enter func132,ntmps132;(go_wp2_with fail);refine yB λM O G U=>?_;refine zI ?_;rintro e A ⟨W,rfl,a,J⟩;rw[Q.o]at a;obtain⟨B,c2,i,q,rfl,p,r,t⟩:=a.ia;refine Ae λK I=>?_;clear p r;refine Aa λD b E o m f j H=>?_;clear a t b;(go_wp2_with fail);refine(jg B i c2 q (st) oy oy A j).mono ?_;exact yZ};{have d:(st+8:Int)=N:=Am;have S:=hJ d;clear d;go_enter func132,ntmps132;(go_wp2_with fail);refine yB λM O G U=>?_;refine zI ?_;rintro e A ⟨W,rfl,a,J⟩;rw[Q.o]at a;obtain⟨B,c2,i,q,rfl,p,r,t⟩:=a.ia;refine Ae λK I=>?_;clear p r;refine Aa λD b E o m f j H=>?_;clear a t b;(go_wp2_with fail);refine(jg B i c2 q (st+8) oy oy A j).mono ?_;exact yZ};{have d:(st+4:Int)=N:=Am;have S:=hJ d;clear d;go_enter func132,ntmps132;(go_wp2_with fail);refine yB λM O G U=>?_;refine zI ?_;rintro e A ⟨W,rfl,a,J⟩;rw[Q.o]at a;obtain⟨B,c2,i,q,rfl,p,r,t⟩:=a.ia;refine Ae λK I=>?_;clear p r;refine Aa λD b E o m f j H=>?_;clear a t b;(go_wp2_with fail);refine(jg B i c2 q (st+4) oy oy A j).mono ?_;exact yZ};have d:(st+4+8:Int)=N:=Am;have S:=hJ d;clear d;go_enter func132,ntmps132;(go_wp2_with fail);refine yB λM O G U=>?_;refine zI ?_;rintro e A ⟨W,rfl,a,J⟩;rw[Q.o]at a;obtain⟨B,c2,i,q,rfl,p,r,t⟩:=a.ia;refine Ae λK I=>?_;clear p r;refine Aa λD b E o m f j H=>?_;clear a t b;(go_wp2_with fail);refine(jg B i c2 q (st+4+8) oy oy A j).mono ?_;exact yZ
namespace aw
def Jt: ∀ {l:List Al},(∀a∈l,gi a)->(l.flatMap lW).length<=l.length*2381
 |[],_=>iy
 |a::l,b=>by
  have c:=Kt (kR (b a (gl ..))).1;have d:=Jt wB;rw[gX,bu,cH];omega
def xQ (a:s.size<=64):(iA s).length<=73:=by have:=uw s;omega
def Kh {F4 β:Type} {l:List F4} {k:Nat} {x:F4} (f:F4->List β) (a:l[k]?=some x):(l.take (k+1)).flatMap f=(l.take k).flatMap f++f x:=by rw[gK,a,eX];simp
end aw
def Yi (A n c ss) (F:aw.ar (ss.map Sr.val)) (w) (b':ef w w A n c ss):
 Calls prog 76 #[slice A n c] w λe w'=> ∃g',e= .returned g'/\dJ w' w g' (aw.put (ss.map Sr.val))/\az w w':=by
 have b5:=b'.len;have g8:=hJ b';have P:=F;unfold aw.ar at P;rw[cm,dP,cC,b5]at P;have p1:=P.1;let⟨l',k8,c0⟩:=aM (λs (o:s∈ss)=>rY F (fx.2 ⟨s,o,rfl⟩)) F (show aw.put (ss.map Sr.val)=cZ n++((ss.map Sr.val).take n).flatMap mQ by unfold aw.put;rw[aK F,cC,b5,dE (by rw[cC];omega)]);let⟨es,R⟩:=xR (ss.map Sr.val);have n7:es.length=n:=by rw[<-R,cC];exact b5
 rw[R]at c0⊢;have b9:=hJ R;clear b' F P R;go_enter func76,ntmps76;go_wp2_with fail
 refine mB (Bd A n c ss true k8 w g8) λk2 d2=>?_;go_wp2_with fail
 refine(jg none 0 0 [] (n:Nat) oy oy k2 (aY.none_ _ _)).mono ?_;rintro e o9 ⟨c9,rfl,u,j2⟩;have m6:=bU d2 j2;rw[jb,Int.toNat_natCast]at u;have u:=nk u d2.size;let⟨O,a7⟩:=xR (cZ n);have m9:0<O.length/\O.length<=9:=by rw[<-a7];exact⟨Ku n,fJ n⟩
 rw[a7]at u c0;have i3:=hJ u;clear u a7;go_wp2;go_loopw[3,16] (λv i wr=> ∃ (k:Nat) (d:List aU),k<=n/\i=k/\dJ wr w v d/\d=O++(es.take k).flatMap mQ/\0<d.length/\d.length<=9+k*38260/\az w wr) (λ_ i _=>n- (intOf i).toNat);case atStart=>exact⟨0,O,oy,rfl,i3,iy,m9.1,oy,m6⟩
 case round=>obtain⟨k,d,p8,rfl,Q,X,j4,j3,f⟩:=hrel;by_cases l2:k<n;{let⟨n5,o6,s,j6,n3,b2,p,h4,g0,a0,e7⟩:=g8.at_ l2;have o:=l' s (cz b2);(have f0:es[k]?=some s.val:=by rw[<-b9.o,dw,b2];rfl);have a4:=aw.kj o.1;have c3:=aw.kj o.2.1;have a4:s.g.size<=64:=a4;have c3:s.r.size<=64:=c3;have b7:=ae.jJ o.2.2;(have m8:0<=s.x.full/\s.x.full<=1152921504606846976:=by have:=b7.2.1;unfold ae.cj at this;simp only[Sr.val,Tr.val]at this;omega);have k3:=hJ (λa (m4:a∈s.x.ys.map (·.al))=>pA o.2.2 m4);(have o':s.x.n<=16:=by have:=b7.1;simp only[Sr.val,Tr.val,cC]at this;rw[(show bp _ _ _ _ _ _ from p).len]at this;exact this);have p:bp w w s.x.A s.x.n s.x.c s.x.ys:=p;let⟨f3,h0⟩:=xR s.x.A;rw[h0]at p a0;clear h0;have i0:=bC f h4;have m2:=bC f g0;have l4:=bC f a0;have k1:=bC f e7;have M:az wr (wr.alloc (.cells #[s.g,s.r,slice f3 s.x.n s.x.c,s.x.full] 58)):=aN.alloc ny _;have b1:wr<(wr.alloc (.cells #[s.g,s.r,slice f3 s.x.n s.x.c,s.x.full] 58)).heap.size:=iy;obtain⟨b8,l5⟩:=aq (show bp _ _ _ _ _ _ from p) ((show bp _ _ _ _ _ _ from p).below (f.trans (M.mono f.size)));have d7:=f.trans (M.mono f.size);obtain⟨i',c5,G,g9,rfl,rfl,H,J⟩:=Q.ia;rw[<-H]at j4 j3;have a':=hJ (J.later M);clear H;obtain⟨i4,n2⟩:=aq X f0;have i2:=f.size;subst j6;clear h4 g0 a0 e7 p Q J X f0 o b7 b2;(go_wp2_with fail);generalize i8:World.alloc _ _=k6 at M b1 l5 d7 a'⊢;have C:=nQ i8;let⟨o3,h1⟩:=xS wr;rw[<-h1]at C b1 i2⊢;clear h1;have l0:=hJ C;have g:=bL C;have h:=dp C;have m:=dF C;clear i0 m2 l4 k1 C;refine(ID i' G c5 g9 s.g oy oy k6 a').mono ?_;rintro e e2 ⟨c7,rfl,b6,d4⟩;obtain⟨f5,c6,q,c4,rfl,Y,g4,g2⟩:=b6.ia;(have p5:G<=q/\q<=G+73:=by rw[g4,Y,bu,show g9.length=G from a'.o.1];exact⟨Nat.le_add_right _ _,Nat.add_le_add_left (xQ a4) _⟩);have e0:=hJ Y;clear Y g4;have l6:=bU d7 d4;have B:=l0.below d4 b1;have i1:=B.lt;obtain⟨g1,i9,o8⟩:=aM g2 B (show dJ e2 _ (slice f5 q c6) c4 from by rw[e0.o];exact b6);clear b6 g2 g h m;have g:=bL B;have h:=dp B;have m:=dF B;clear B;(go_wp2_with fail);refine(ID f5 q c6 c4 s.r oy oy e2 g1).mono ?_;rintro e e8 ⟨o0,rfl,U,c8⟩;obtain⟨h3,e4,t,c2,rfl,b4,e1,d5⟩:=U.ia;(have p3:q<=t/\t<=q+73:=by rw[e1,b4,bu,show c4.length=q from g1.o.1];exact⟨Nat.le_add_right _ _,Nat.add_le_add_left (xQ c3) _⟩);have f2:=hJ b4;clear b4 e1;have k7:=bU l6 c8;have y:=i9.below c8 i1;have l9:=y.lt;obtain⟨d9,j9,o4⟩:=aM d5 y (show dJ e8 _ (slice h3 t e4) c2 from by rw[f2.o];exact U);clear U d5 g h m;have g:=bL y;have h:=dp y;have m:=dF y;clear y;(go_wp2_with fail);refine(jg h3 t e4 c2 s.x.full m8 oy e8 d9).mono ?_;rintro e V ⟨p0,rfl,b3,c'⟩;obtain⟨e3,f4,r,a6,rfl,a9,g7,f1⟩:=b3.ia;(have p2:t<=r/\r<=t+9:=by rw[g7,a9,bu,show c2.length=t from d9.o.1];exact⟨Nat.le_add_right _ _,Nat.add_le_add_left (fJ _) _⟩);have f':=hJ a9;clear a9 g7;have n0:=bU k7 c';have z:=j9.below c' l9;have n1:=z.lt;obtain⟨d8,m7,p6⟩:=aM f1 z (show dJ V _ (slice e3 r f4) a6 from by rw[f'.o];exact b3);clear b3 f1 g h m;have g:=bL z;have h:=dp z;have m:=dF z;clear z;(go_wp2_with fail);refine(jg e3 r f4 a6 (s.x.n:Nat) oy oy V d8).mono ?_;rintro e f6 ⟨q1,rfl,Z,d3⟩;obtain⟨m0,h8,I,D,rfl,a8,g5,h2⟩:=Z.ia;(have p9:r<=I/\I<=r+9:=by rw[g5,a8,bu,show a6.length=r from d8.o.1];exact⟨Nat.le_add_right _ _,Nat.add_le_add_left (fJ _) _⟩);have d6:=hJ a8;clear a8 g5;have j7:=bU n0 d3;have K:=m7.below d3 n1;obtain⟨g6,p',j0⟩:=aM h2 K (show dJ f6 _ (slice m0 I h8) D from by rw[d6.o];exact Z);clear Z h2 g h m;have g:=bL K;have h:=dp K;have m:=dF K;clear K;(go_wp2_with fail);have m1:=hJ (nk j0 (oy:w<=V.heap.size));go_loopw[3,45] (λv i W=> ∃ (j:Nat) (d:List aU),j<=s.x.n/\i=j/\dJ W w v d/\d=D++((s.x.ys.map (·.al)).take j).flatMap lW/\d.length<=G+164+j*2381/\0<d.length/\az f6 W) (λ_ i _=>s.x.n- (intOf i).toNat);(case atStart=>exact⟨0,D,oy,rfl,m1,iy,by have:D.length=I:=g6.1;omega,by have:D.length=I:=g6.1;omega,aN⟩);case round=>obtain⟨j,E,q2,rfl,L,S,l3,f7,c1⟩:=hrel;have b:=bU j7 c1;have l8:=b.size;by_cases h6:j<s.x.n;{let⟨q3,n4,a,k',o5,f9,f8,h5,a1,a2,e',g3,e5,e9⟩:=b8.at_ h6;have d0:=k3 a.al (fx.2 ⟨a,cz f9,rfl⟩);have d1:=Kh (k:=j) (x:=a.al) lW (show(s.x.ys.map (·.al))[j]?=some a.al by rw[dw,f9];rfl);have o1:=Kt (kR d0).1;have p7:=bC b h5;have o2:=bC b a1;have n6:=bC b a2;have n9:=bC b e';have q0:=bC b g3;have o7:=bC b e5;have n':=bC b e9;obtain⟨h',j1,a3,b0,rfl,rfl,H,J⟩:=L.ia;rw[<-H]at f7 l3;let⟨i5,a5,b9,k0⟩:=bJ (show aH _ _ _ _ _ _ from f8) J S d1;have e6:=af.new wr 73 (kL a);let⟨h7,m3,c9,l7,i6,k9,c7⟩:=qn e6.a;subst k';clear h5 a1 a2 e' g3 e5 e9 L J S d1 H f8 g h m e6;(go_wp2_with fail);generalize i7:World.alloc _ _=d' at h7 m3 c9 l7 i6 k9 c7⊢;have N:=bQ (Below.refl wr.heap.size wr) i7;have m':=N.size;have h9:=b.trans (N.mono l8);refine(VP h' a3 j1 b0 (.inr f7) oy a d0 d' (a5.later N) ((i5.below h9).more oy)).mono ?_;rintro e n8 ⟨p4,rfl,T,l1⟩;have T:=nk T (oy:w<=d'.heap.size);have j5:=hJ T;clear T;have k5:=c1.trans ((N.trans (l1.mono m')).mono c1.size);go_wp2;go_roundw;(case rel=>exact⟨j+1,_,oy,bh,j5,by rw[k0.o,b9.o,ed],by rw[bu,show b0.length=a3 from a5.o.1];omega,by rw[bu,show b0.length=a3 from a5.o.1];omega,k5⟩);case measure=>exact cn};obtain rfl:j=s.x.n:=oy;let⟨j8,k4⟩:=aq L S;clear L S;go_wp2;go_roundw;(case rel=>refine⟨k+1,_,oy,bh,j8,?_,oy,oy,b⟩;rw[k4.o,d6.o,f'.o,f2.o,e0.o,i4.o,Kh mQ n2.o,dE (l:=s.x.ys.map (·.al)) (by rw[cC,(show bp _ _ _ _ _ _ from b8.o).len];exact ny)];unfold mQ;have:=b8.len;simp only[Sr.val,Tr.val,cC,Int.toNat_natCast,this,ed]);case measure=>exact cn};obtain rfl:n=k:=oy;let⟨m5,j'⟩:=aq Q (X.trans c0.symm);clear Q;go_wp2;go_ret;exact⟨_,rfl,by rw[<-j'.o];exact m5,f⟩
def zN {F4:Type} (T:ch) (b:ah ak) (R:Wd->Wd->F4->ai->Prop) (w:Wd) (base q:Nat) (x:F4) (r:List aU) (e:Ending) (w':Wd):Prop:=
 ∃v,e= .returned v/\w.grownBy w' (some q)/\dY T b w' base q (some r)/\ ∃a,az w a/\a.grownBy w' (some q)/\R w a x v
def rI (A0 base q bs r x) (F:cr bs=some (x,r)) (w) (Z:base<=q) (H:dY 222 A0 w base q (some bs)):
 Calls prog 182 #[bK q,.func (.func 181) #[] #[]] w (zN 222 A0 yw w base q x r):=by
 obtain⟨J,n,c,I,o,rfl,B,D⟩:=H;let⟨S,M⟩:=bE o.a;let⟨U,R⟩:=bE o.f;have L:=o.lt;let⟨Q,C,u,O,K⟩:=de o F D (B.more (show base<=w by omega)) B;clear B D o F;go_enter func182,ntmps182;go_wp2_with fail
 refine(Hb J n c bs w O).mono ?_;rintro e f ⟨v,l,j,c1,a1,rfl,a,N⟩;obtain⟨i,Y,A,rfl,rfl,rfl⟩|⟨a2,V,i,rfl,A,G,E⟩:=N;{rw[C.o]at i;cases i};rw[C.o]at i;injection i with i;cases i;let⟨y,p,d⟩:=aM A G E;have t:=Q.below a L;let⟨W,a0⟩:=bE t.f;let⟨I,X⟩:=bE t.a;have s:=hJ t;clear A G E t S M U R;go_wp2;go_ret;refine zj λm b g=>?_;have z:=d.iD (K.iD (λe=>by have:=C.o;rw[e,show cr []=none from rfl]at this;cases this));exact zT
def Zd (A0 base q bs r x) (F:iV bs=some (x,r)) (w) (Z:base<=q) (H:dY 222 A0 w base q (some bs)):
 Calls prog 182 #[bK q,.func (.func 223) #[] #[]] w (zN 222 A0 NJ w base q x r):=by
 obtain⟨J,n,c,I,o,rfl,B,D⟩:=H;let⟨S,M⟩:=bE o.a;let⟨U,R⟩:=bE o.f;have L:=o.lt;let⟨Q,C,u,O,K⟩:=de o F D (B.more (show base<=w by omega)) B;clear B D o F;go_enter func182,ntmps182;go_wp2_with fail
 refine(aaK J n c bs w O).mono ?_;rintro e f ⟨v,l,j,c1,a1,rfl,a,N⟩;obtain⟨i,Y,A,rfl,rfl,rfl⟩|⟨a2,V,i,rfl,A,G,E⟩:=N;{rw[C.o]at i;cases i};rw[C.o]at i;injection i with i;cases i;let⟨y,p,d⟩:=aM A G E;have t:=Q.below a L;let⟨W,a0⟩:=bE t.f;let⟨I,X⟩:=bE t.a;have s:=hJ t;clear A G E t S M U R;go_wp2;go_ret;refine zj λm b g=>?_;have z:=d.iD (K.iD (λe=>by have:=C.o;rw[e,show iV []=none from rfl]at this;cases this));exact zT
def Iz (A0 base q bs r x) (F:dC bs=some (x,r)) (w) (Z:base<=q) (H:dY 222 A0 w base q (some bs)):
 Calls prog 184 #[bK q,.func (.func 185) #[] #[]] w (zN 222 A0 yO w base q x r):=by
 obtain⟨J,n,c,I,o,rfl,B,D⟩:=H;let⟨S,M⟩:=bE o.a;let⟨U,R⟩:=bE o.f;have L:=o.lt;let⟨Q,C,u,O,K⟩:=de o F D (B.more (show base<=w by omega)) B;clear B D o F;go_enter func184,ntmps184;go_wp2_with fail
 refine(IH J n c bs w O).mono ?_;rintro e f ⟨v,l,j,c1,a1,rfl,a,N⟩;obtain⟨i,Y,A,rfl,rfl,rfl⟩|⟨a2,V,i,rfl,A,G,E⟩:=N;{rw[C.o]at i;cases i};rw[C.o]at i;injection i with i;cases i;let⟨y,p,d⟩:=aM A G E;have t:=Q.below a L;let⟨W,a0⟩:=bE t.f;let⟨I,X⟩:=bE t.a;have s:=hJ t;clear A G E t S M U R;go_wp2;go_ret;refine zj λm b g=>?_;have z:=d.iD (K.iD (λe=>by have:=C.o;rw[e,show dC []=none from rfl]at this;cases this));exact zT
def Yk (A0 base q bs r x) (F:gU bs=some (x,r)) (w) (Z:base<=q) (H:dY 222 A0 w base q (some bs)):
 Calls prog 221 #[bK q,.func (.func 222) #[] #[]] w (zN 222 A0 PV w base q x r):=by
 obtain⟨J,n,c,I,o,rfl,B,D⟩:=H;let⟨S,M⟩:=bE o.a;let⟨U,R⟩:=bE o.f;have L:=o.lt;let⟨Q,C,u,O,K⟩:=de o F D (B.more (show base<=w by omega)) B;clear B D o F;go_enter func221,ntmps221;go_wp2_with fail
 refine(Vh J n c bs w O).mono ?_;rintro e f ⟨v,l,j,c1,a1,rfl,a,N⟩;obtain⟨i,Y,A,rfl,rfl,rfl⟩|⟨a2,V,i,rfl,A,G,E⟩:=N;{rw[C.o]at i;cases i};rw[C.o]at i;injection i with i;cases i;let⟨y,p,d⟩:=aM A G E;have t:=Q.below a L;let⟨W,a0⟩:=bE t.f;let⟨I,X⟩:=bE t.a;have s:=hJ t;clear A G E t S M U R;go_wp2;go_ret;refine zj λm b g=>?_;have z:=d.iD (K.iD (λe=>by have:=C.o;rw[e,show gU []=none from rfl]at this;cases this));exact zT
def oR (q a:Nat) (K:Wd->Prop):Prop:= ∀ (W W':Wd) (g:Nat),K W->W.grownBy W' (some g)->(g=q\/g=a\/g=a+1)->K W'
structure RA (t:ch) (z:Array ai) (A0:ah ak) (base q:Nat) (w:Wd) (K:Wd->Prop) (W:Wd) (cs:Array ai) (r:List aU):Prop where
 hg:w.grownBy W (some q)
 rd:dY 222 A0 W base q (some r)
 bz:af W w t z
 bc:af W (w+1) t cs
 k:K W
section
variable{t:ch} {z:Array ai} {A0:ah ak} {base q:Nat} {w:Wd} {K:Wd->Prop} {W:Wd} {cs:Array ai} {r:List aU}
def RA.call (b:RA t z A0 base q w K W cs r) (g:q<w) (f:oR q w K) {a:List aU} (c:W.grownBy W' (some q)) (d:dY 222 A0 W' base q (some a)):RA t z A0 base q w K W' cs a:=
 ⟨b.hg.trans c,d,b.bz.grown c TE,b.bc.grown c TE,f _ _ _ b.k c (.inl rfl)⟩
def RA.set (b:RA t z A0 base q w K W cs r) (e:base<=q) (d:q<w) (c:oR q w K) (i:Nat) (a:ai):RA t z A0 base q w K (W (an (w+1) i) a) (cs.setIfInBounds i a) r:=
 ⟨mA b.hg (.inr iy) a,b.rd.below (aN.setCell iy a) oy d,b.bz.aI iy a,b.bc.ay i a,c _ _ _ b.k (fH _ _ _ _) (.inr (.inr rfl))⟩
def RA.mP (b:RA t z A0 base q w K W cs r) (e:base<=q) (d:q<w) (c:oR q w K) (i:Nat) (a:ai):RA t (z.setIfInBounds i a) A0 base q w K (W (an w i) a) cs r:=
 ⟨mA b.hg (.inr iy) a,b.rd.below (aN.setCell iy a) oy d,b.bz.ay i a,b.bc.aI iy a,c _ _ _ b.k (fH _ _ _ _) (.inr (.inl rfl))⟩
def RA.NF {K':Wd->Prop} (a:RA t z A0 base q w K W cs r) (k:K' W):RA t z A0 base q w K' W cs r:=⟨a.hg,a.rd,a.bz,a.bc,k⟩
theorem RA.start (b:dY 222 A0 w base q (some r)) (e:base<=q) (c:q<w) (d:K ((w.alloc (.cells z t)).alloc (.cells z t))):RA t z A0 base q w K ((w.alloc (.cells z t)).alloc (.cells z t)) z r:=by have a:az w ((w.alloc (.cells z t)).alloc (.cells z t)):=(aN.alloc ny _).alloc iy _;refine⟨nV a _,b.below a oy c,(af.new w t z).alloc _,?_,d⟩;have:=af.new (w.alloc (.cells z t)) t z;rw[show(w.alloc (.cells z t)).heap.size=w+1 by simp]at this;exact this
def oR.Nq (q a:Nat):oR q a (λ_=>True):=λ_ _ _ _ _ _=>trivial
end
namespace aw
def Zq {a:Al} (c:oN b=some (a,r)): ∃l d s e i g h f v,gU b=some (l,d)/\cr d=some (s,e)/\s<=15/\cr e=some (i,g)/\cr g=some (h,f)/\iV f=some (v,r)/\a=⟨l,⟨decide (s/4%2=1),(i:Int),decide (s/8%2=1),(h:Int)⟩,((s%4:Nat):Int),v⟩:=by unfold oN at c;split at c;{cases c};rename_i l d j;split at c;{cases c};rename_i s e u;split at c;{cases c};rename_i y;split at c;{cases c};rename_i i g n;split at c;{cases c};rename_i h f k;split at c;{cases c};rename_i v x m;injection c with c;injection c with o p;subst p;exact⟨l,d,s,e,i,g,h,f,v,j,u,oy,n,k,m,o.symm⟩
def aik {s:Nat} (a:s<=15):bits .and .i64 (s:Int) 4=if s/4%2=1 then 4 else 0:=(by decide: ∀s:Fin 16,bits .and .i64 ((s.val:Nat):Int) 4=if s.val/4%2=1 then 4 else 0) ⟨s,oy⟩
def aiy {s:Nat} (a:s<=15):bits .and .i64 (s:Int) 8=if s/8%2=1 then 8 else 0:=(by decide: ∀s:Fin 16,bits .and .i64 ((s.val:Nat):Int) 8=if s.val/8%2=1 then 8 else 0) ⟨s,oy⟩
end aw
def Zo (A0:ah ak) (base q:Nat) (bs r:List aU) (a:Al) (a2:oN bs=some (a,r)) (w:Wd) (b:base<=q) (d:dY 222 A0 w base q (some bs)):
 Calls prog 187 #[bK q] w λe w'=> ∃s:Ar,e= .returned (agg (kL s))/\s.al=a/\w.grownBy w' (some q)/\dY 222 A0 w' base q (some r)/\eE w' w' s/\ ∀p:ak,s.LA=some p->w<=p.block:=by
 obtain⟨l,c9,s,a6,k,b2,o,c0,v,c8,b1,c7,a8,a5,b0,rfl⟩:=Zq a2;have f:q<w:=Az;obtain⟨f0,e8,f2,e1,d1,f7⟩:=dN d c8 b1 a8 a5 b0;have b3:=aik c7;have a9:=aiy c7;clear d c8 b1 a8 a5 b0 a2;go_enter func187,ntmps187;obtain⟨on,Y⟩:=xR (decide (s/4%2=1));obtain⟨hit,R⟩:=xR (decide (s/8%2=1));have h0:(bits .and .i64 (s:Int) 4 !=0)=on:=by rw[b3,<-Y];by_cases d:s/4%2=1<;>simp[d]
 have h':(bits .and .i64 (s:Int) 8 !=0)=hit:=by rw[a9,<-R];by_cases d:s/8%2=1<;>simp[d]
 have h2:decide ((15:Int)<s)=false:=bj oy;rw[Y,R];clear b3 a9 Y R;go_wp2_with fail
 have a1:=RA.start (t:=73) (z:= #[(),false,"",false,"","",""]) (K:=λ_=>True) f0 b f trivial;have y:=hJ a1;generalize World.alloc _ _=L at y⊢;clear a1;refine(Yk A0 base q bs c9 l e8 L b y.rd).mono ?_;rintro e g7 ⟨h9,rfl,b8,a3,C,e3,T,LA,Ln,Lc,rfl,a',x⟩;have h1:=y.bc.lt;have b5:oR q w (λW=>aH W C LA Ln Lc l/\C<=W.heap.size):=by intro W W' g u b4 h8;refine⟨u.1.kept b4 u.2 (λd4 e=>?_),cK u.2 b4.size⟩;injection e with e;subst e;exact aO.ge (N:=L) oy x
 have B:=(y.call f (oR.Nq _ _) b8 a3).NF (K':=λW=>aH W C LA Ln Lc l/\C<=W.heap.size) ⟨a'.kept T ny (λd4 e=>by injection e with e;subst e;exact aO.ge (N:=L) oy x),T.size⟩;obtain⟨d7,h,e7⟩:=aM x b5 B;have g3:=B.bc.frozen 0;have E:=bD B.bc;clear a' b5 B b8 a3 e3 T x;go_wp2_with fail
 have F:=hJ (e7.set b f h 0 (slice LA Ln Lc));generalize World.setCell _ _ _=e' at F⊢;clear g3 E;refine(rI A0 base q c9 a6 s f2 e' b F.rd).mono ?_;rintro e g4 ⟨h5,rfl,Z,a4,g8,e5,d5,rfl⟩;have j:=hJ (F.call f h Z a4);have g1:=j.bc.frozen 5;have e9:=j.bc.frozen 1;have d8:=j.bc.frozen 3;have c5:=jd j.bc;have c1:=bL j.bc;have c3:=dF j.bc;clear Z a4 e5 d5;go_wp2_with fail
 have M:=hJ (((j.set b f h 5 ((s:Int)%4:Int)).set b f h 1 on).set b f h 3 hit);generalize World.setCell _ _ _=f' at M⊢;clear e9 d8 g1 c1 c3 c5;refine(rI A0 base q a6 b2 k e1 f' b M.rd).mono ?_;rintro e h6 ⟨h4,rfl,b',b7,h7,d9,f4,rfl⟩;have H:=hJ (M.call f h b' b7);have f8:=H.bc.frozen 2;have c2:=dp H.bc;clear b' b7 d9 f4;go_wp2_with fail
 have S:=hJ (H.set b f h 2 k);generalize World.setCell _ _ _=f3 at S⊢;clear f8 c2;refine(rI A0 base q b2 c0 o d1 f3 b S.rd).mono ?_;rintro e g5 ⟨g',rfl,b6,b9,h3,g0,d',rfl⟩;have I:=hJ (S.call f h b6 b9);have f6:=I.bc.frozen 4;have c4:=eW I.bc;clear b6 b9 g0 d';go_wp2_with fail
 have J:=hJ (I.set b f h 4 o);generalize World.setCell _ _ _=f1 at J⊢;clear f6 c4;refine(Zd A0 base q c0 r v f7 f1 b J.rd).mono ?_;rintro e d6 ⟨i0,rfl,a7,a0,g9,d3,f9,rfl⟩;have A:=hJ ((J.call f h a7 a0));have e6:=hJ (A.set b f h 6 v);clear a7 a0 d3 f9;have i:=A.bc;simp only[gS]at i;obtain⟨E,c1,c2,c3,c4,c5,c6⟩:=qn i.a;have f5:=i.frozen 6;obtain⟨U,O,Q,V,D,X,G⟩:=qn A.bz.a;obtain⟨d2,g2,c',e2,e4,d0,e0⟩:=qn A.bz.f;clear i;go_wp2;have m:=hJ (((((((e6.mP b f h 0 (slice LA Ln Lc)).mP b f h 1 on).mP b f h 2 k).mP b f h 3 hit).mP b f h 4 o).mP b f h 5 ((s:Int)%4:Int)).mP b f h 6 v);clear E c1 c2 c3 c4 c5 c6 U O Q V D X G d2 g2 c' e2 e4 d0 e0 f5;generalize(d6 (an (w+1) 6) v (an w 0) (slice LA Ln Lc) (an w 1) on (an w 2) k (an w 3) hit (an w 4) o (an w 5) ((s:Int)%4:Int) (an w 6) v)=g6 at m⊢;have i:=m.bz;simp only[gS]at i;obtain⟨U,O,Q,V,D,X,G⟩:=qn i.a;refine bodyPost_ret (v:=agg #[slice LA Ln Lc,on,k,hit,o,((s:Int)%4:Int),v]) (by simp[results,results187,go_sem,U,O,Q,V,D,X,G]) rfl ⟨⟨LA,Ln,Lc,⟨l,⟨on,(k:Int),hit,(o:Int)⟩,((s%4:Nat):Int),v⟩⟩,rfl,rfl,m.hg,m.rd,?_,λp e=>?_⟩;{exact m.k.1.more m.k.2};have:=d7 p e;omega
def _root_.Go.World.grownBy.ahT {a:Wd} {g:Nat} (b:a.grownBy w (some g)) (c:w.grownBy w' F8) (f: ∀k,F8=some k->a.heap.size<=k):a.grownBy w' (some g):=
 ⟨c.os.trans b.os,c.tape.trans b.tape,c.output.trans b.output,cK b.size c.size,λi d h=>(c.block i (dS d b.size) (λe=>aR (f i e.symm))).trans (b.block i d h)⟩
def Vj (A0 base q bs r r2 n zs) (c':cr bs=some (n,r)) (f2:n<=16) (b0:lh n r=some (zs,r2)) (w) (a4:base<=q) (d:dY 222 A0 w base q (some bs)):
 Calls prog 186 #[bK q,(16:Int),.func (.func 187) #[bK q] #[]] w λe w'=> ∃ (m:ah ak) (c:Nat) (b:List Ar),e= .returned (slice m b.length c)/\b.map (·.al)=zs/\w.grownBy w' (some q)/\dY 222 A0 w' base q (some r2)/\bp w' w' m b.length c b/\(∀p:ak,m=some p->w<=p.block)/\ ∀s∈b,∀g,g<w.heap.size->aO g s.LA s.Ln:=by
 have c2:q<w:=Az;let⟨d8,e',d9,d3,f1⟩:=info_parts yb;let⟨e1,e0,e3⟩:=aM d c' b0;refine sS λC=>?_;clear d c' b0;go_enter func186,ntmps186;go_wp2_with fail
 refine(rI A0 base q bs r n e0 w a4 e1).mono ?_;rintro e f6 ⟨f9,rfl,c4,a3,f',d6,e7,rfl⟩;let⟨d4,e5⟩:=aq a3 c4;clear a3 d6 e7 c4;go_wp2;go_loopw[8,9] (λv i wr=> ∃ (k:Nat) (b:List Ar) (o:List aU) (rest:List Al),k<=n/\i=int .i64 (k:Nat)/\b.length=k/\lh (n-k) o=some (rest,r2)/\zs=b.map (·.al)++rest/\dY 222 A0 wr base q (some o)/\wr.ownsRow w 73 7 v b.length (b.flatMap gx)/\(∀s∈b,(eE wr wr s/\(∀g,v.ownBlock=some g->aO g s.LA s.Ln))/\ ∀g,g<w.heap.size->aO g s.LA s.Ln)/\w.grownBy wr (some q)) (λ_ i _=>n- (intOf i).toNat);case atStart=>exact⟨0,[],r,zs,oy,rfl,rfl,e3,rfl,d4,World.ownsRow_nil _ _ _ _,(λs B=>absurd B iy),e5⟩
 case round=>obtain⟨k,b,o,rest,u,rfl,c6,c8,a0,e4,a',b4,x⟩:=hrel;let⟨e2,d',f0,Z,J,e8,c5⟩:=e4;subst e8;have d2:=bL J;have N:=hJ (show dY 222 A0 wr base q (some o)from⟨e2,d',f0,0,J,rfl,c5⟩);have f5:=J.lt;let⟨A,H,a1,S,K,W⟩:=dN a' b4 c8 a0 c6 x;have f4:=x.size;clear J c5 a' b4 c8 a0 x c6;by_cases f8:k<n;{(obtain⟨a,t,z,d1,c9,a7⟩: ∃a t z,oN o=some (a,t)/\lh (n- (k+1)) t=some (z,r2)/\rest=a::z:=by have f:=a1.o;rw[show n-k=(n- (k+1))+1 by omega,lh]at f;split at f;{cases f};rename_i a d0 c7;split at f;{cases f};rename_i l f3 a9;exact OY);let⟨d7,b2,a5⟩:=aM d1 c9 a7;clear d1 c9 a7;(go_wp2_with fail);refine(Zo A0 base q o t a d7 wr a4 N).mono ?_;rintro e M ⟨s,rfl,a6,R,c1,b5,a8⟩;have c3:=ug A R c2;let⟨e6,b1,Q,b',U,b3⟩:=dN c3 c1 R b5 (show ∀g,g<wr.heap.size->aO g s.LA s.Ln from λg x=>aO.ge x a8) a6;have e9:=R.size;(have f7:b.length<=16:=by rw[K.o];omega);clear c3 c1 R b5 a8 a6 d2;(go_wp2_with(at_builtin;refine wpList_append_lies _ rfl _ _ 42 rfl w 73 d8 _ 7 72 underlying42 e' d9 d3 f1 rfl dy _ _ _ bq (e6.alloc _) (an M 0) 1 1 (TR s) bq bq FG jc oy my oy jB _ rfl ?_;intro X V I a2 E d5 g0));have L:=(Below.refl _ M).alloc ny (.cells (kL s) 73);refine SM λD=>?_;(have G: ∀y:Ar,(eE M M y)->(∀g,u8.ownBlock=some g->aO g y.LA y.Ln)->(eE I I y)/\ ∀g,Value.ownBlock (bR X (b.length+1) V)=some g->aO g y.LA y.Ln:=by intro y hy b6;refine⟨((show aH _ _ _ _ _ _ from((show aH _ _ _ _ _ _ from hy).later L)).kept E ny (b6)).more (aR E.size),λg e=>?_⟩;cases e;obtain e|e:=d5;{exact b6 _ e};exact aO.dh (show aH _ _ _ _ _ _ from hy).1 Aq);(have b8: ∀y∈b++[s],((eE I I y)/\ ∀g,Value.ownBlock (bR X (b.length+1) V)=some g->aO g y.LA y.Ln)/\ ∀g,g<w.heap.size->aO g y.LA y.Ln:=by intro y hy;obtain hy|hy:=eQ.1 hy;{have d:=H y hy;exact⟨G y (((show aH _ _ _ _ _ _ from d.1.1).kept Q ny (λg e=>by injection e with e;subst e;exact d.2 _ c2)).more e9) d.1.2,d.2⟩};exact QE);refine Pe λO F=>?_;let⟨c0,b7,b9⟩:=aM F (show I.ownsRow w 73 7 (bR X (b.length+1) V) (b++[s]).length ((b++[s]).flatMap gx)by rw[eX,bu];exact a2) b8;clear b8 G F a2;exact Tt};obtain rfl:k=n:=oy;have f:=a1.o;rw[Nat.sub_self,lh]at f;injection f with f;cases f;obtain⟨m,c,rfl,Y⟩:=aA.dV AU dy A;exact Tf
namespace aw
def Yz {s:Sv} (a:oV b=some (s,r)): ∃g c h d f i n e l,dC b=some (g,c)/\dC c=some (h,d)/\cr d=some (f,i)/\cr i=some (n,e)/\n<=16/\lh n e=some (l,r)/\s=⟨g,h,⟨l,(f:Int)⟩⟩:=by unfold oV at a;split at a;{cases a};rename_i g c j;split at a;{cases a};rename_i h d t;split at a;{cases a};rename_i f i p;split at a;{cases a};rename_i n e k;split at a;{cases a};rename_i u;split at a;{cases a};rename_i l v m;injection a with a;injection a with o q;subst q;exact⟨g,c,h,d,f,i,n,e,l,j,t,p,k,oy,m,o.symm⟩
end aw
def Nk:(prog.info? 58).map (λi=>(i.zero,i.size,i.bytes))=some (some (agg #["s","s",(),""]),4,64):=ry
def Ym (A0 base q bs r a) (a2:oV bs=some (a,r)) (w) (b:base<=q) (d:dY 222 A0 w base q (some bs)):
 Calls prog 135 #[bK q] w λe w'=> ∃s:Sr,e= .returned (agg #[s.g,string s.r,slice s.x.A s.x.n s.x.c,s.x.full])/\s.val=a/\w.grownBy w' (some q)/\dY 222 A0 w' base q (some r)/\dI w' w' s.x/\ ∀g,g<w.heap.size->fZ g s.x.A s.x.n s.x.ys:=by
 obtain⟨g,X,j,L,f,Q,n,c9,l,d0,b0,a7,a5,a8,a',rfl⟩:=Yz a2;have h:q<w:=Az;let⟨b4,b1,b6,a6,Z,b9⟩:=dN d d0 b0 a7 a5 a';have i:=oR.Nq q w;go_enter func135,ntmps135;go_wp2_with fail
 have a1:=RA.start (t:=58) (z:= #["s","s",(),""]) (K:=λ_=>True) b4 b h trivial;have G:=hJ a1;generalize World.alloc _ _=b2 at G⊢;refine(Iz A0 base q bs X g b1 b2 b G.rd).mono ?_;rintro e d5 ⟨f3,rfl,c0,a3,f4,e3,e',rfl⟩;have F:=hJ (G.call h i c0 a3);have f6:=F.bc.frozen 0;have a0:=bD F.bc;go_wp2_with fail
 have C:=hJ (F.set b h i 0 g);generalize World.setCell _ _ _=b3 at C⊢;refine(Iz A0 base q X L j b6 b3 b C.rd).mono ?_;rintro e d3 ⟨e8,rfl,Y,a4,d',e4,d8,rfl⟩;have J:=hJ (C.call h i Y a4);have e5:=J.bc.frozen 1;have c1:=bL J.bc;go_wp2_with fail
 have H:=hJ (J.set b h i 1 j);generalize World.setCell _ _ _=c' at H⊢;refine(rI A0 base q L Q f a6 c' b H.rd).mono ?_;rintro e f0 ⟨e6,rfl,c8,b',f1,e0,e7,rfl⟩;have D:=hJ (H.call h i c8 b');have d9:=D.bc.frozen 3;have c3:=dF D.bc;go_wp2_with fail
 have B:=hJ (D.set b h i 3 f);generalize World.setCell _ _ _=I at B⊢;refine(Vj A0 base q Q c9 r n l Z a8 b9 I b B.rd).mono ?_;rintro e x ⟨m,c,ys,rfl,b5,b8,c5,c7,M,O⟩;have e1:=B.bc.lt;have b7:oR q w (λW=>bp W x m ys.length c ys/\x<=W.heap.size):=by intro W W' g u T f2;refine⟨u.1.kept T u.2 (λd7 e=>?_),cK u.2 T.size⟩;cases e;exact⟨aO.ge (N:=I) oy M,λs E=>O s E _ oy⟩
 let⟨A,y,d1,c6,c4⟩:=de ((B.call h i b8 c5).NF (K':=λW=>bp W x m ys.length c ys/\x<=W.heap.size) ⟨c7,ny⟩) b7 M O b5;have a9:=hJ (A.set b h y 2 (slice m ys.length c));have o:=A.bc;simp only[gS]at o;let⟨a0,c1,c2,c3⟩:=cJ o.a;have e9:=o.frozen 2;let⟨U,R,S,V⟩:=cJ A.bz.a;let⟨d6,f5,d2,e2⟩:=cJ A.bz.f;go_wp2;have p:=hJ ((((a9.mP b h y 0 g).mP b h y 1 j).mP b h y 2 (slice m ys.length c)).mP b h y 3 f);generalize(x (an (w+1) 2) (slice m ys.length c) (an w 0) g (an w 1) j (an w 2) (slice m ys.length c) (an w 3) f)=d4 at p⊢;have o:=p.bz;simp only[gS]at o;let⟨U,R,S,V⟩:=cJ o.a;refine bodyPost_ret (v:=agg #[g,j,slice m ys.length c,f]) (by simp[results,results135,go_sem,U,R,S,V]) rfl ⟨⟨g,j,⟨m,ys.length,c,ys,(f:Int)⟩⟩,rfl,by unfold Sr.val Tr.val;simp only;rw[c4.o],p.hg,p.rd,?_,λk u=>?_⟩;{exact(show bp _ _ _ _ _ _ from p.k.1).more p.k.2};exact⟨aO.ge (N:=I) oy d1,λs E=>c6 s E k oy⟩
def Vy (A0 base q bs r r2 n zs) (c':cr bs=some (n,r)) (f2:n<=256) (b0:lf n r=some (zs,r2)) (w) (a4:base<=q) (d:dY 222 A0 w base q (some bs)):
 Calls prog 134 #[bK q,(256:Int),.func (.func 135) #[bK q] #[]] w λe w'=> ∃ (m:ah ak) (c:Nat) (b:List Sr),e= .returned (slice m b.length c)/\b.map Sr.val=zs/\w.grownBy w' (some q)/\dY 222 A0 w' base q (some r2)/\ef w' w' m b.length c b/\(∀p:ak,m=some p->w<=p.block)/\ ∀s∈b,∀g,g<w.heap.size->fZ g s.x.A s.x.n s.x.ys:=by
 have c2:q<w:=Az;let⟨d8,e',d9,d3,f1⟩:=info_parts Nk;let⟨e1,e0,e3⟩:=aM d c' b0;have f9:decide ((256:Int)<n)=false:=bj oy;clear d c' b0;go_enter func134,ntmps134;go_wp2_with fail
 refine(rI A0 base q bs r n e0 w a4 e1).mono ?_;rintro e f7 ⟨g0,rfl,c4,a3,g1,d6,e7,rfl⟩;let⟨d4,e5⟩:=aq a3 c4;clear a3 d6 e7 c4;go_wp2;go_loopw[8,9] (λv i wr=> ∃ (k:Nat) (b:List Sr) (C:List aU) (rest:List Sv),k<=n/\i=int .i64 (k:Nat)/\b.length=k/\lf (n-k) C=some (rest,r2)/\zs=b.map Sr.val++rest/\dY 222 A0 wr base q (some C)/\wr.ownsRow w 58 4 v b.length (b.flatMap jj)/\(∀s∈b,(dI wr wr s.x/\(∀g,v.ownBlock=some g->fZ g s.x.A s.x.n s.x.ys))/\ ∀g,g<w.heap.size->fZ g s.x.A s.x.n s.x.ys)/\w.grownBy wr (some q)) (λ_ i _=>n- (intOf i).toNat);case atStart=>exact⟨0,[],r,zs,oy,rfl,rfl,e3,rfl,d4,World.ownsRow_nil _ _ _ _,(λs B=>absurd B iy),e5⟩
 case round=>obtain⟨k,b,C,rest,u,rfl,c6,c8,a0,e4,a',b4,x⟩:=hrel;let⟨e2,d',f0,Z,J,e8,c5⟩:=e4;subst e8;have d2:=bL J;have N:=hJ (show dY 222 A0 wr base q (some C)from⟨e2,d',f0,0,J,rfl,c5⟩);have f6:=J.lt;let⟨A,H,a1,S,K,W⟩:=dN a' b4 c8 a0 c6 x;have f5:=x.size;clear J c5 a' b4 c8 a0 x c6;by_cases f':k<n;{(obtain⟨a,t,z,d1,c9,a7⟩: ∃a t z,oV C=some (a,t)/\lf (n- (k+1)) t=some (z,r2)/\rest=a::z:=by have f:=a1.o;rw[show n-k=(n- (k+1))+1 by omega,lf]at f;split at f;{cases f};rename_i a d0 c7;split at f;{cases f};rename_i l f4 a9;exact OY);let⟨d7,b2,a5⟩:=aM d1 c9 a7;clear d1 c9 a7;(go_wp2_with fail);refine(Ym A0 base q C t a d7 wr a4 N).mono ?_;rintro e M ⟨s,rfl,a6,R,c1,b5,a8⟩;have c3:=ug A R c2;let⟨e6,b1,Q,b',U,b3⟩:=dN c3 c1 R b5 (show ∀g,g<wr.heap.size->fZ g s.x.A s.x.n s.x.ys from a8) a6;have e9:=R.size;(have f8:b.length<=256:=by rw[K.o];omega);clear c3 c1 R b5 a8 a6 d2;(go_wp2_with(at_builtin;refine wpList_append_lies _ rfl _ _ 40 rfl w 58 d8 _ 4 64 underlying40 e' d9 d3 f1 rfl dy _ _ _ bq (e6.alloc _) (an M 0) 1 1 [s.g,s.r,slice s.x.A s.x.n s.x.c,s.x.full] bq bq (by intro j f3 o;match j,o with|0,o=>(simp at o;subst o;simp[Addr.add])|1,o=>(simp at o;subst o;simp[Addr.add])|2,o=>(simp at o;subst o;simp[Addr.add])|3,o=>(simp at o;subst o;simp[Addr.add])) jc oy my oy jB _ rfl ?_;intro X V I a2 E d5 g2));have L:=(Below.refl _ M).alloc ny (.cells #[s.g,s.r,slice s.x.A s.x.n s.x.c,s.x.full] 58);refine SM λD=>?_;(have G: ∀y:Sr,(dI M M y.x)->(∀g,u8.ownBlock=some g->fZ g y.x.A y.x.n y.x.ys)->(dI I I y.x)/\ ∀g,Value.ownBlock (bR X (b.length+1) V)=some g->fZ g y.x.A y.x.n y.x.ys:=by intro y hy b6;refine⟨((show bp _ _ _ _ _ _ from((show bp _ _ _ _ _ _ from hy).later L)).kept E ny (b6)).more (aR E.size),λg e=>?_⟩;cases e;obtain e|e:=d5;{exact b6 _ e};exact fZ.of (show bp _ _ _ _ _ _ from hy) Aq);(have b8: ∀y∈b++[s],((dI I I y.x)/\ ∀g,Value.ownBlock (bR X (b.length+1) V)=some g->fZ g y.x.A y.x.n y.x.ys)/\ ∀g,g<w.heap.size->fZ g y.x.A y.x.n y.x.ys:=by intro y hy;obtain hy|hy:=eQ.1 hy;{have d:=H y hy;exact⟨G y (((show bp _ _ _ _ _ _ from d.1.1).kept Q ny (λg e=>by injection e with e;subst e;exact d.2 _ c2)).more e9) d.1.2,d.2⟩};exact QE);refine Pe λO F=>?_;let⟨c0,b7,b9⟩:=aM F (show I.ownsRow w 58 4 (bR X (b.length+1) V) (b++[s]).length ((b++[s]).flatMap jj)by rw[eX,bu];exact a2) b8;clear b8 G F a2;exact Tt};obtain rfl:k=n:=oy;have f:=a1.o;rw[Nat.sub_self,lf]at f;injection f with f;cases f;obtain⟨m,c,rfl,Y⟩:=aA.dV Hi dy A;exact Tf
section
namespace aw
def abu {l:List Sv} (a:get b=some l): ∃n r,cr b=some (n,r)/\n<=256/\lf n r=some (l,[])/\ar l:=by unfold get at a;split at a;{cases a};rename_i n r d;split at a;{cases a};rename_i f;split at a;{cases a};rename_i h g e;split at a;{rename_i c;cases a;exact⟨n,r,d,oy,by rw[e,c.1],c.2⟩};cases a
end aw
def XM (A n c bs l) (L:aw.get bs=some l) (w) (v:aY w w A n c bs):
 Calls prog 80 #[slice A n c] w λe w'=> ∃ (A':ah ak) (c':Nat) (a:List Sr),e= .returned (tuple #[slice A' a.length c',""])/\a.map Sr.val=l/\az w w'/\ef w' w' A' a.length c' a/\(∀p:ak,A'=some p->w<=p.block)/\ ∀s∈a,∀g,g<w.heap.size->fZ g s.x.A s.x.n s.x.ys:=by
 let⟨m,r,M,F,K,b⟩:=abu L;let⟨E,Q,x,u⟩:=bJ v M K b;go_enter func80,ntmps80;go_wp2_with fail
 refine yA λi z o a1 X=>?_;have C:dY 222 A i w w (some bs):=⟨A,n,c,0,z,rfl,E.below o,iS.refl A⟩;refine(Vy A w w bs r [] m l Q F x i ny C).mono ?_;rintro e N ⟨A',c',a,rfl,G,R,t,B,H,O⟩;obtain⟨U,Z,a0,V,I,rfl,y,W⟩:=t;have d:=y.1;have d:=d.symm;subst d;let⟨a3,Y⟩:=bE I.a;have J:=o.grown R oy rz;let⟨q,S,D,f⟩:=bJ B H O G;go_wp2_with fail
 refine mB (Bd A' a.length c' a true (by rw[f.o];exact u) N q) λa2 j=>?_;go_wp2;go_ret2;exact⟨A',c',a,rfl,f,bU J j,q.later j,λp e=>aR (S.o p e),λs b g T=>D s b g oy⟩
def La (w a b c d):(Op.equalIn 10000 51 (agg #[string a,string b]) (agg #[string c,string d])).run prog w= .ok (decide (a=c/\b=d)) w:=by
 have k:=underlying9;have j:=isAgg9;have l:=sizeOf9;have g:prog.underlying 51=some (.struct (prog.fieldsOf 51)):=ry;have i:prog.stoodInHeld 51=false:=ry;rw[show(10000:Nat)=9999+1 from rfl,run_equalIn_agg w 9999 51 _ _ g i];simp only[Program.fieldsOf,underlying51];go_simp;have inj: ∀x y:au,x.toList=y.toList↔x=y:=by intro x y;refine⟨λe=>?_,λe=>by rw[e]⟩;rw[ByteArray.toList_eq,ByteArray.toList_eq]at e;let⟨⟨x⟩⟩:=x;let⟨⟨y⟩⟩:=y;simp only at e;rw[e]
 by_cases f:a=c<;>by_cases h:b=d<;>simp[f,h,inj]
def CY (w a b c d):(binOp .eql 51 (agg #[string a,string b]) (agg #[string c,string d])).run prog w= .ok (bool (decide (a=c/\b=d))) w:=by rw[run_eql_struct,La];rfl
def rO (w) (op:BinOp) (x y xs ys):(eqGuard op 51 x y (agg xs) (agg ys)).run prog w= .ok () w:=run_eqGuard_agg w op _ x y xs ys ry
attribute [local go_sem↓] CY rO
namespace aw
def sj {l:List Sv} {g r:au} {k:Nat} {s:Sv} (a:l[k]?=some s) (b: ∀s∈l.take k,¬(s.g=g/\s.r=r)) (c:s.g=g/\s.r=r):(l.find? λs=>decide (s.g=g/\s.r=r))=some s:=by
 rw[<-take_append_drop k l,find?_append,find?_eq_none.2 (λx d=>by simpa using b x d)];have e:l.drop k=s::l.drop (k+1):=by rw[jE (bZ.1 a).1,(bZ.1 a).2]
 rw[e,find?_cons_of_pos (by simpa using c)];rfl
end aw
def WS (A n c ss g r) (G:aw.ar (ss.map Sr.val)) (w) (o:ef w w A n c ss):
 Calls prog 82 #[slice A n c,agg #[string g,string r]] w λe w'=> ∃x:Tr,e= .returned (agg #[slice x.A x.n x.c,x.full])/\x.val=aw.find (ss.map Sr.val) g r/\dI w' w' x/\az w w'/\(x=⟨none,0,0,[],0⟩\/ ∃s∈ss,x=s.x):=by
 have a0:=o.len;have c7:=o.cap;let⟨I,K,P⟩:=aM o (show aw.find (ss.map Sr.val) g r=(((ss.map Sr.val).find? λs=>decide (s.g=g/\s.r=r)).map (·.x)).getD ae.zero by unfold aw.find;rw[aK G];cases(ss.map Sr.val).find? λs=>decide (s.g=g/\s.r=r)<;>rfl) G;go_enter func82,ntmps82;go_wp2_with fail
 have h:=af.new (w.alloc (.cells #[g,r] 51)) 56 #[(),""];rw[show(w.alloc (.cells #[g,r] 51)).heap.size=w+1 by simp]at h;have E:az w ((w.alloc (.cells #[g,r] 51)).alloc (.cells #[(),""] 56)):=(aN.alloc ny _).alloc iy _;generalize O:World.alloc _ _=V at h E⊢;have y:=(af.new w 51 #[g,r]).q O;refine mB (Bd A n c ss true P V (I.later E)) λb2 B=>?_;have c2:=h.lt;have J:=bU E B;let⟨b0,L⟩:=aq (y.below B oy) (h.below B oy);have c5:=L.lt;go_wp2;go_loopw[13] (λi wr=> ∃k:Nat,k<=n/\i=k/\(∀s∈(ss.map Sr.val).take k,¬(s.g=g/\s.r=r))/\az b2 wr) (λi _=>n- (intOf i).toNat);case atStart=>exact⟨0,oy,rfl,iy,aN⟩
 case round=>obtain⟨k,c9,rfl,X,l⟩:=hrel;have b:=bU J l;have a8:=l.size;have y:=b0.below l oy;have h:=L.below l oy;let⟨D,U,m⟩:=aM X y h;by_cases a1:k<n;{let⟨b',c6,s,a6,b9,F,b6,b3,S,a7,a2⟩:=I.at_ a1;(have b7:(ss.map Sr.val)[k]?=some s.val:=by rw[dw,F];rfl);have c1:=bC b b3;have c0:=bC b S;have c4:=bC b a7;have c8:=bC b a2;have T:=hJ ((show bp _ _ _ _ _ _ from b6).below b);have a3:=cz F;have M:=hJ b7;subst a6;have b1:=U.alloc (.cells #[s.g,s.r,slice s.x.A s.x.n s.x.c,s.x.full] 58);have C:=m.alloc (.cells #[s.g,s.r,slice s.x.A s.x.n s.x.c,s.x.full] 58);let⟨c3,b8⟩:=bE b1.a;let⟨Y,R⟩:=bE C.a;let⟨a5,a'⟩:=bE C.f;have N:=l.alloc a8 (.cells #[s.g,s.r,slice s.x.A s.x.n s.x.c,s.x.full] 58);have Q:=hJ C;by_cases d:s.g=g/\s.r=r;{have b5:decide (s.g=g/\s.r=r):=bG d;let⟨Z,c'⟩:=aq (show s.x.val=aw.find (ss.map Sr.val) g r by rw[K.o,aw.sj M.o D.o d];rfl) d;clear d;go_wp2;have f:=((bU J N).setCell (p:=(an (w+1) 0)) iy (slice s.x.A s.x.n s.x.c)).setCell (p:=(an (w+1) 1)) iy s.x.full;have H:=((T.below (aN.alloc b.size (.cells #[s.g,s.r,slice s.x.A s.x.n s.x.c,s.x.full] 58))).below (aN.setCell (p:=(an (w+1) 0)) iy (slice s.x.A s.x.n s.x.c))).below (aN.setCell (p:=(an (w+1) 1)) iy s.x.full);generalize q:World.setCell _ _ _=W at f H⊢;have j:=Q.q q;simp only[gS]at j;let⟨t,u⟩:=bE j.a;refine bodyPost_ret (v:=agg #[slice s.x.A s.x.n s.x.c,s.x.full]) (by simp[results,results82,go_sem,t,u]) rfl ⟨s.x,rfl,Z,H.more f.size,f,.inr ⟨s,a3,rfl⟩⟩};have b5:decide (s.g=g/\s.r=r)=false:=bj d;(have a4:=hJ (show ∀s∈(ss.map Sr.val).take (k+1),¬(s.g=g/\s.r=r)from by intro z a;rw[gK,M.o]at a;obtain a|a:=eQ.1 a;{exact D z a};simp at a;rw[a];exact d));go_wp2;go_roundw;(case rel=>exact⟨k+1,oy,bh,a4,N⟩);case measure=>exact cn};obtain rfl:n=k:=oy;(have b4:=hJ (show aw.find (ss.map Sr.val) g r=ae.zero by rw[K.o,find?_eq_none.2 (λx a9=>by have:=D.o x (by rw[dE (by rw[cC,a0];exact ny)];exact a9);simpa using this)];rfl));let⟨Y,R⟩:=bE m.a;let⟨a5,a'⟩:=bE m.f;go_wp2;have f:=(b.setCell (p:=(an (w+1) 0)) iy ()).setCell (p:=(an (w+1) 1)) iy "";generalize q:World.setCell _ _ _=W at f⊢;have j:=m.q q;simp only[gS]at j;let⟨t,u⟩:=bE j.a;refine bodyPost_ret (v:=agg #[(),""]) (by simp[results,results82,go_sem,t,u]) rfl ⟨⟨none,0,0,[],0⟩,rfl,by rw[b4.o];rfl,(show bp _ _ _ _ _ _ from bp.none_ _ _),f,.inl rfl⟩
end
def ki.ia (a:ki W base v bs) (r:base<=W) (o:bs.length<=1000000000): ∃g c n f,v=slice g n c/\f=bs/\n=f.length/\aY W W g n c f:=by obtain a|⟨b,k,e,p,m⟩:=a;{exact a.ia};refine⟨_,_,_,bs,e,rfl,rfl,rfl,ny,oy,λ_=>⟨b,k,rfl,oy,λj x l i q d=>?_⟩⟩;(have h:i=0:=by have:=(bZ.1 d).1;simp at this;exact this);subst h;simp at d;subst d;have:=m j (Value.int .u8 (x.toNat:Nat)) (by unfold Lib.byteCells;rw[dw,l];rfl);simpa using this
def Gb (g:Nat) (l:ah ak) (n c:Nat) (a:List aU) (O:n<=10000000) (N:g<= "") (w:Wd) (j:aY w w l n c a):
 Calls prog 78 #[g,slice l n c] w λe w'=> ∃x,e= .returned x/\dJ w' w x (eb g a)/\az w w':=by have P:=j.1;have F:=hJ j;have R:decide ((g:Int)<0)=false:=bj oy;clear j;by_cases v:()<g;{have D:decide ((9007199254740992:Int)<g):=bG oy;have b:=hJ (show eb g a=[]by unfold eb aW.max_;rw[aK v]);go_enter func78,ntmps78;go_wp2;go_ret;exact⟨_,rfl,by rw[b.o];exact dJ.nil _ _,aN⟩};have D:decide ((9007199254740992:Int)<g)=false:=bj oy;have b:=hJ (show eb g a=if 65536<(cZ g++a).length then[]else dZ.put (cZ g++a)by unfold eb aW.max_;rw[aG v]);obtain⟨t,d⟩:=xR (cZ g);(have S:t.length<=9:=by rw[<-d];exact fJ g);rw[d]at b;have H:=hJ d;clear d;go_enter func78,ntmps78;(go_wp2_with fail);refine(jg none 0 0 [] (g:Nat) oy oy w (aY.none_ _ _)).mono ?_;rintro e T ⟨M,rfl,m,k⟩;rw[jb,Int.toNat_natCast,H.o]at m;obtain⟨I,A⟩:=aq (F.later k) m;clear m;(go_wp2_with(at_builtin;refine AF rfl _ _ rfl w _ t rfl (.inl A) k.size l n c a rfl I oy ?_;intro Q K u _ E;have i:=k.trans E;obtain⟨L,c3,h,s,rfl,r,y,f⟩:=u.ia i.size (by rw[bu];omega);have C:=hJ f;have z:=hJ y;have U:h<=c3/\c3<= "":=⟨f.2.1,f.2.2.1⟩;rw[<-r]at b;clear u f r y));{have p:65536<h:=oy;have o:=hJ (show eb g a=[]by rw[b.o,aK (by rw[<-z.o];exact p)]);go_ret;exact⟨_,rfl,by rw[o.o];exact dJ.nil _ _,i⟩};(have p: ¬65536<h:=by omega);have o:=hJ (show eb g a=dZ.put s by rw[b.o,aG (by rw[<-z.o];exact p)]);refine(GP L h c3 s K C).mono ?_;rintro e V ⟨J,rfl,q,G⟩;have B:=hJ (nk q i.size);clear q;go_wp2;go_ret;exact⟨J,rfl,by rw[o.o];exact B,bU i G⟩
def aiq (w:Wd) (d:ah ak) (bs:List aU) (e:Ending) (w':Wd):Prop:=
 ∃ (g:Int) (a:ah ak) (c c1:Nat) (ok:Bool),e= .returned (tuple #[g,slice a c c1,ok])/\az w w'/\
  ((aW.whole bs=none/\ok=false)\/ ∃ (b:Nat) (q:List aU),aW.whole bs=some (b,q)/\ok/\g=(b:Nat)/\aY w w a c c1 q/\iS d a)
def Gt (k:ah ak) (n c:Nat) (bs:List aU) (w:Wd) (u:aY w w k n c bs):
 Calls prog 133 #[slice k n c] w (aiq w k bs):=by
 have F:=hJ u;clear u;go_enter func133,ntmps133;go_wp2_with fail
 refine(Wt k n c bs w F).mono ?_;rintro e L ⟨E,G,c1,R,z,c2,o,rfl,j,⟨a,f,b⟩|⟨p,r,a,rfl,f,b,i,I⟩⟩;{(have m:(o !=0):=by simp[f]);have d:=hJ (show aW.whole bs=none by unfold aW.whole;rw[a]);clear a b;exact Oy};have C:r.length=z:=b.1;obtain⟨D,A,M,H⟩:=bJ a f i i;clear a f b i I;by_cases O:0<z;{have d:=hJ (show aW.whole bs=none by unfold aW.whole;rw[D.o];simp only;rw[aG (by intro e;rw[e]at C;simp at C;omega)]);exact Oy};have K:r=[]:=je oy;have l:=hJ (show aW.whole bs=(cr p).bind (λx=>if aW.max_<x.1 then none else some x)by unfold aW.whole;rw[D.o];simp only;rw[aK K];obtain _|⟨g,q⟩:=cr p<;>rfl);(go_wp2_with fail);refine(ub E G c1 p L (A.later j)).mono ?_;rintro e Q ⟨N,A',n',c',o,rfl,y,⟨a,f,rfl,rfl,rfl,rfl⟩|⟨v,q,a,rfl,rfl,b,i⟩⟩;{(have m:(o !=0):=by simp[f]);have d:=hJ (show aW.whole bs=none by rw[l.o,a];rfl);clear a;exact OD};obtain⟨J,t,s⟩:=aM b i a;clear a b i;by_cases B:()<v;{have m:decide ((9007199254740992:Int)<v):=bG oy;have d:=hJ (show aW.whole bs=none by rw[l.o,s.o,Option.bind_some];exact aK B);exact OD};have m:decide ((9007199254740992:Int)<v)=false:=bj oy;have d:=hJ (show aW.whole bs=some (v,q)by rw[l.o,s.o,Option.bind_some];exact aG B);go_wp2;go_ret3;exact⟨_,_,_,_,_,rfl,bU j y,.inr ⟨v,q,d,rfl,rfl,(J.narrow (t.iD (A.iD (λe=>by have:=s.o;rw[e,show cr []=none from rfl]at this;cases this)))).back j,H.trans t⟩⟩
section
def Xr (w A B n c m d):(Instr.index 35 (agg #[slice A n c,slice B m d]) "").run prog w= .ok (slice A n c) w:=ry
def WH (w A B n c m d):(Instr.index 35 (agg #[slice A n c,slice B m d]) "1").run prog w= .ok (slice B m d) w:=ry
attribute [local go_sem] Xr WH
def TB (w:Wd) (b:ah (Nat×List aU)) (l f k:ai):Prop:=
 match b with
 |none=>k=false/\l=(0:Int)/\f=()
 |some (d,q)=>k=true/\l=d/\ ∃a n c,f=slice a n c/\aY w w a n c q
def aW.upto (a b:List aU):Nat->ah (Nat×List aU)
 |0=>none
 |1=>aW.slot (aW.whole a) 0
 |_=>aW.read a b
def aW.wR (x):aW.later x none=x:=by cases x<;>rfl
def Gx (A B n c m d a b w) (K:aY w w A n c a) (g:aY w w B m d b):
 Calls prog 79 #[agg #[slice A n c,slice B m d]] w λe w'=> ∃l f k,e= .returned (tuple #[l,f,k])/\TB w (aW.read a b) l f k/\az w w':=by
 let⟨O,M⟩:=aq K g;clear K g;go_enter func79,ntmps79;go_wp2_with fail
 refine yC λa1 a2 Z a4=>?_;go_loopw[5,6,7,15] (λl f k i wr=> ∃j:Nat,j<=2/\i=j/\TB w (aW.upto a b j) l f k/\az w wr) (λ_ _ _ i _=>2- (intOf i).toNat);case atStart=>exact⟨0,oy,rfl,⟨rfl,rfl,rfl⟩,Z⟩
 case round=>obtain⟨j,a3,rfl,L,s⟩:=hrel;have u:=hJ L;clear L;by_cases Y:j=2;{subst Y;go_wp2;go_ret3;exact⟨_,_,_,rfl,u,s⟩};obtain rfl|rfl:=(oy:j=0\/j=1);{have C:aW.upto a b (0+1)=aW.later (aW.upto a b 0) (aW.slot (aW.whole a) 0):=rfl;have v:=hJ C;clear C;(go_wp2_with fail);refine(Gt A n c a wr (O.later s)).mono ?_;rintro e a0 ⟨R,T,V,c1,ok,rfl,t,⟨o,rfl⟩|⟨N,q,o,rfl,rfl,r,E⟩⟩;{have p:=hJ (show aW.upto a b (0+1)=aW.upto a b 0 by rw[v.o,o];exact wR _);clear o;exact RO};(have F:a≠ []:=λe=>by rw[e]at o;cases o);let⟨z,x⟩:=aq ((r.narrow (E.iD (O.iD F))).back s) o;clear r E o F;by_cases D:N%2=0;{have H:((N:Int)%2 !=0)=false:=uy;have p:=hJ (show aW.upto a b (0+1)=aW.later (aW.upto a b 0) (some (N,q))by rw[v.o,x.o,ud D]);let⟨J,r⟩:=xR (aW.upto a b 0);rw[r]at u p;have W:=hJ r;clear r;obtain _|⟨G,X⟩:=J;{obtain⟨rfl,rfl,rfl⟩:=u;go_wp2;go_roundw;(case rel=>exact⟨0+1,by omega,by go_num,by rw[p.o];exact⟨rfl,rfl,_,_,_,rfl,z⟩,bU s t⟩);case measure=>simp[intOf]};obtain⟨rfl,rfl,Q,U,S,rfl,I⟩:=u;by_cases y:G<N;{go_wp2;go_roundw;(case rel=>exact⟨0+1,by omega,by go_num,by rw[p.o];unfold aW.later;simp only;rw[aK y];exact⟨rfl,rfl,_,_,_,rfl,z⟩,bU s t⟩);case measure=>simp[intOf]};go_wp2;go_roundw;(case rel=>exact⟨0+1,by omega,by go_num,by rw[p.o];unfold aW.later;simp only;rw[aG y];exact⟨rfl,rfl,_,_,_,rfl,I⟩,bU s t⟩);case measure=>simp[intOf]};have H:((N:Int)%2 !=0):=uy;have p:=hJ (show aW.upto a b (0+1)=aW.upto a b 0 by rw[v.o,x.o];unfold aW.slot;simp only;rw[aG D];exact wR _);exact RO};have C:aW.upto a b (1+1)=aW.later (aW.upto a b 1) (aW.slot (aW.whole b) 1):=rfl;have v:=hJ C;clear C;(go_wp2_with fail);refine(Gt B m d b wr (M.later s)).mono ?_;rintro e a0 ⟨R,T,V,c1,ok,rfl,t,⟨o,rfl⟩|⟨N,q,o,rfl,rfl,r,E⟩⟩;{have p:=hJ (show aW.upto a b (1+1)=aW.upto a b 1 by rw[v.o,o];exact wR _);clear o;exact SE};(have F:b≠ []:=λe=>by rw[e]at o;cases o);let⟨z,x⟩:=aq ((r.narrow (E.iD (M.iD F))).back s) o;clear r E o F;by_cases D:N%2=1;{have H:((N:Int)%2 !=1)=false:=uy;have p:=hJ (show aW.upto a b (1+1)=aW.later (aW.upto a b 1) (some (N,q))by rw[v.o,x.o,ud D]);let⟨J,r⟩:=xR (aW.upto a b 1);rw[r]at u p;have W:=hJ r;clear r;obtain _|⟨G,X⟩:=J;{obtain⟨rfl,rfl,rfl⟩:=u;go_wp2;go_roundw;(case rel=>exact⟨1+1,by omega,by go_num,by rw[p.o];exact⟨rfl,rfl,_,_,_,rfl,z⟩,bU s t⟩);case measure=>simp[intOf]};obtain⟨rfl,rfl,Q,U,S,rfl,I⟩:=u;by_cases y:G<N;{go_wp2;go_roundw;(case rel=>exact⟨1+1,by omega,by go_num,by rw[p.o];unfold aW.later;simp only;rw[aK y];exact⟨rfl,rfl,_,_,_,rfl,z⟩,bU s t⟩);case measure=>simp[intOf]};go_wp2;go_roundw;(case rel=>exact⟨1+1,by omega,by go_num,by rw[p.o];unfold aW.later;simp only;rw[aG y];exact⟨rfl,rfl,_,_,_,rfl,I⟩,bU s t⟩);case measure=>simp[intOf]};have H:((N:Int)%2 !=1):=uy;have p:=hJ (show aW.upto a b (1+1)=aW.upto a b 1 by rw[v.o,x.o];unfold aW.slot;simp only;rw[aG D];exact wR _);exact SE
def XR (A B n c m d a b w) (r:aY w w A n c a) (g:aY w w B m d b):
 Calls prog 75 #[agg #[slice A n c,slice B m d]] w (bO w (int .i64 (aW.gen a b:Nat))):=by
 let⟨y,x⟩:=aq r g;clear r g;go_enter func75,ntmps75;go_wp2_with fail
 refine yC λu C p I=>?_;refine(Gx A B n c m d a b u (y.later p) (x.later p)).mono ?_;rintro e G ⟨l,f,k,rfl,i,t⟩;have s:=bU p t;rcases h:aW.read a b with _|⟨j,q⟩;{rw[h]at i;obtain⟨rfl,rfl,rfl⟩:=i;have o:=hJ (show aW.gen a b=0 by unfold aW.gen;rw[h]);clear h;go_wp2;go_ret;exact⟨by rw[o.o];rfl,s⟩};have F:j<=():=abr h;rw[h]at i;obtain⟨rfl,rfl,z,E,D,rfl,v⟩:=i;have o:=hJ (show aW.gen a b=j+1 by unfold aW.gen;rw[h]);have H:IntKind.i64.wrap ((j:Int)+1)=((j+1:Nat):Int):=fA _ oy;clear h v;go_wp2;go_ret;exact⟨by rw[o.o];first|rfl|go_num,s⟩
end
def aW.adh (g p):(eb g p).length<=65600:=by unfold eb;split;{simp};split;{simp};rename_i a;unfold dZ.put;rw[aG a];have:=fJ (cZ g++p).length;simp only[bu,dZ.four,cH,fQ]at a this⊢;omega
def BH (z n):(madeCells z n).size=n:=by simp[madeCells]
def VD (A B n c m d a b g) (e2:g<=9223372036854775807) (P pn pc) (e7:pn<=10000000) (p k w) (C:aY w w A n c a) (e8:aY w w B m d b) (S:aY w w P pn pc p):
 Calls prog 77 #[agg #[slice A n c,slice B m d],int .i64 (g:Nat),slice P pn pc,int .i64 k] w λe w'=> ∃A' n' c' b2 a6 b3,e= .returned (agg #[slice A' n' c',slice b2 a6 b3])/\aY w' w' A' n' c' (aW.write a b g p k).1/\aY w' w' b2 a6 b3 (aW.write a b g p k).2/\az w w':=by
 let⟨d5,c0,d7,a4,f2⟩:=info_parts uW;let⟨c1,b0,e'⟩:=aM C e8 S;go_enter func77,ntmps77;go_wp2_with fail
 have E:=af.new (w.alloc (.cells #[slice A n c,slice B m d] 37)) 37 #[(),()];rw[show(w.alloc (.cells #[slice A n c,slice B m d] 37)).heap.size=w+1 by simp]at E;have D:az w ((w.alloc (.cells #[slice A n c,slice B m d] 37)).alloc (.cells #[(),()] 37)):=(aN.alloc ny _).alloc iy _;generalize d1:World.alloc _ _=c4 at E D⊢;have F:=(af.new w 37 #[slice A n c,slice B m d]).q d1;refine(Gb g P pn pc p e7 e2 c4 (e'.o.later D)).mono ?_;rintro e l ⟨f4,rfl,a9,b'⟩;have g8:=E.lt;refine vr λr f i=>?_;have g1:=i.lt;let⟨d8,d0⟩:=fR f;let⟨c9,e6⟩:=qh f;let⟨d4,e1⟩:=fR i;let⟨d6,d9⟩:=qh i;let⟨e5,b4⟩:=aq f i;have b9:=adh g p;obtain⟨f',c5,q,s,rfl,Y,a7,R⟩:=a9.ia;rw[<-Y]at b9;have g0:q<=65600:=oy;let⟨V,a',z⟩:=aM Y R a7;have g6:q<=c5/\c5<= "":=⟨R.2.1,R.2.2.1⟩;clear F E f i a9 R Y a7 b9;by_cases a8:q=0;{subst a8;have f0:=je z.o.symm;have G:=hJ (show aW.write a b g p k=(a,b)by unfold aW.write;rw[aK (by rw[<-V.o];exact f0)]);go_wp2;have o:=(r.setCell (p:=(an (w+1) 0)) iy (slice A n c)).setCell (p:=(an (w+1) 1)) iy (slice B m d);generalize u:World.setCell _ _ _=M at o⊢;have t:=b4.o.q u;simp only[gS]at t;let⟨J,L⟩:=fR t;refine bodyPost_ret (v:=agg #[slice A n c,slice B m d]) (by simp[results,results77,go_sem,J,L]) rfl ⟨_,_,_,_,_,_,rfl,by rw[G.o];exact c1.o.later o,by rw[G.o];exact b0.o.later o,o⟩};let⟨a2,Z,g',e0,d2,_,_⟩:=a'.o.at_ (show 0<q by omega);subst e0;have g2:((q:Int)==0)=false:=uy;let⟨K,b5⟩:=xR (min k.toNat q);(have g3:min (max k 0) (q:Int)=((K:Nat):Int):=by rw[<-b5];omega);have g4:K<=q:=oy;(have f8:(Instr.makeSlice 34 K K).run prog l= .ok (bR l K K) (l.alloc (.cells (madeCells #[Value.int .u8 0] K) 5)):=by have:=run_make (P:=prog) l 34 5 d5 _ underlying34 c0 d7 .i64 .i64 (K:Int) (K:Int) oy oy (by rw[f2];omega) oy;rw[a4]at this;simp only[Int.toNat_natCast,Nat.mul_one]at this;exact this);let⟨cs,O⟩:=xR (Lib.byteCells (s.take K));(have a0:cs.length=K:=by rw[<-O,uE,et,<-z.o];omega);(have f5:(Builtin.copy_ #[34,34] 3 #[bR l K K,slice (some (a2 Z)) q c5]).run prog (l.alloc (.cells (madeCells #[Value.int .u8 0] K) 5))= .ok K ((l.alloc (.cells (madeCells #[Value.int .u8 0] K) 5)).setRow l cs.toArray):=by (have c3: ∀j v,cs[j]?=some v->(l.alloc (.cells (madeCells #[Value.int .u8 0] K) 5)).cell? (((a2 Z):ak).add j)=some v:=by intro j v U;have e4:=d2;rw[Cu,World.cell?_alloc_lt _ _ _ e4];rw[<-O]at U;unfold Lib.byteCells at U;rw[dw]at U;let⟨x,y,c8⟩:=Option.map_eq_some_iff.1 U;(have f1:j<K:=by have:=(bZ.1 y).1;rw[et]at this;omega);rw[getElem?_take,aK f1]at y;let⟨f6,f9,g7,a3,f7,c2,c7⟩:=a'.o.at_ (show j<q by omega);injection a3 with a3;cases a3;rw[c7,<-c8];rw[c2]at y;injection y with y;rw[y]);have:=run_copy_row (P:=prog) (l.alloc (.cells (madeCells #[Value.int .u8 0] K) 5)) 34 34 3 5 l 0 K K (a2 Z) q c5 (madeCells #[Value.int .u8 0] K) 5 cs underlying34 (by rw[c0];simp[a4]) (af.new l _ _) (by rw[a0];simp[Nat.min_def];omega) c3 (by rw[BH];omega) (by rw[<-O];exact sl _);rw[this,a0];congr 2;(have g5:(madeCells #[Value.int .u8 0] K).toList.length=K:=by rw[kI,BH]);simp[drop_of_length_le (show(madeCells #[Value.int .u8 0] K).toList.length<=0+K by omega),BH]);let⟨d3,g9⟩:=aq O a0;(go_upto_region 6 with fail);have N:az l ((l.alloc (.cells (madeCells #[Value.int .u8 0] K) 5)).setRow l cs.toArray):=below_setRow (aN.alloc ny _) ny;have Q:af ((l.alloc (.cells (madeCells #[Value.int .u8 0] K) 5)).setRow l cs.toArray) l 5 cs.toArray:=setRow_heap _ _ _ _ _ _ (af.new l _ _);generalize(l.alloc (.cells (madeCells #[Value.int .u8 0] K) 5)).setRow l cs.toArray=f3 at N Q⊢;have b1:=bU r N;(have H: ∀W,af W l 5 cs.toArray->aY W W (some (an l 0)) K K (s.take K):=by intro W Q;(have e3:(s.take K).length=K:=by rw[et,<-z.o];omega);have:=aY.sx (bs:=s.take K) Q (by simp[d3.o]) oy;rw[e3]at this;exact this);(have c6:aW.write a b g p k=if g%2=0 then(s.take K,b)else(a,s.take K):=by (have e9:(eb g p).take k.toNat=s.take K:=by rw[<-V.o,<-b5,z.o];obtain C|C:=Nat.le_total k.toNat s.length;{rw[Nat.min_eq_left C]};rw[Nat.min_eq_right C,dE C,dE ny]);unfold aW.write;rw[aG (by rw[<-V.o];intro e;rw[e]at z;exact a8 z.o),e9]);let⟨G,a5⟩:=aq c6 H;have b8:=e5.o.below N oy;have a1:=b4.o.below N oy;let⟨d8,d0⟩:=fR b8;let⟨c9,e6⟩:=qh b8;let⟨d4,e1⟩:=fR a1;let⟨d6,d9⟩:=qh a1;let⟨b7,b6⟩:=aq a1 Q;obtain S|S:=(oy:g%2=0\/g%2=1);{have d':(g:Int)%2=0:=oy;have I:=hJ (show aW.write a b g p k=(s.take K,b)by rw[G.o,aK S]);go_wp2;have o:=((b1.setCell (p:=(an w 0)) iy (bR l K K)).setCell (p:=(an (w+1) 0)) iy (bR l K K)).setCell (p:=(an (w+1) 1)) iy (slice B m d);generalize u:World.setCell _ _ _=M at o⊢;have X:=b6.o.q u;have t:=b7.o.q u;have H:=a5.o M X;simp only[gS]at t;let⟨J,L⟩:=fR t;refine bodyPost_ret (v:=agg #[bR l K K,slice B m d]) TJ rfl ⟨_,_,_,_,_,_,rfl,by rw[I.o];exact H,by rw[I.o];exact b0.o.later o,o⟩};have d':(g:Int)%2=1:=oy;have I:=hJ (show aW.write a b g p k=(a,s.take K)by rw[G.o,aG oy]);go_wp2;have o:=((b1.setCell (p:=(an w 1)) iy (bR l K K)).setCell (p:=(an (w+1) 0)) iy (slice A n c)).setCell (p:=(an (w+1) 1)) iy (bR l K K);generalize u:World.setCell _ _ _=M at o⊢;have X:=b6.o.q u;have t:=b7.o.q u;have H:=a5.o M X;simp only[gS]at t;let⟨J,L⟩:=fR t;refine bodyPost_ret (v:=agg #[slice A n c,bR l K K]) TJ rfl ⟨_,_,_,_,_,_,rfl,by rw[I.o];exact c1.o.later o,by rw[I.o];exact H,o⟩
def AH (A n c ys dr lo) (j:aB.ar (bW ys dr lo)) (w) (g:cV w w A n c ys):
 Calls prog 123 #[agg #[slice A n c,int .i64 dr,int .i64 lo]] w (bO w (agg #[slice A n c,int .i64 dr,int .i64 lo])):=by
 let⟨p,d⟩:=aq g j;go_enter func123,ntmps123;go_wp2_with fail
 refine gh λH G u C=>?_;refine lZ λF E D M=>?_;refine mB (Br A n c ys dr lo true d u (p.later D)) λs b'=>?_;refine vr λr f i=>?_;let⟨O,t,S⟩:=bi f.a;let⟨V,U,W⟩:=bi f.f;let⟨J,y,I⟩:=bi i.a;let⟨N,R,z⟩:=bi i.f;have q:=hJ i;go_wp2;have b:az w (s (an (w+1) 0) (slice A n c) (an (w+1) 1) dr (an (w+1) 2) lo):=(by(repeat(refine Below.setCell ?_ iy _));exact r);generalize e:World.setCell _ _ _=B at b⊢;have a:=q.q e;simp only[gS]at a;let⟨l,m,o⟩:=bi a.a;let⟨L,x,K⟩:=bi a.f;refine bodyPost_ret (v:=agg #[slice A n c,dr,lo]) (by simp[results,results123,go_sem,l,m,o]) rfl ⟨rfl,b⟩
def aB.Ze {k:Nat} (c:64000<=gN k): ∀m,k<=m->gN m=gN k:=by intro m b;induction m with|zero=>(rw[show k=0 by omega])|succ m ih=>(obtain a|a:=Nat.lt_or_ge m k;{rw[show k=m+1 by omega]};have e:=ih a;rw[gN,e,aG oy])
def YZ (t) (j:0<=t/\t<=100) (w):Calls prog 126 #[int .i64 t] w λe w'=>e= .returned (int .i64 (aB.back t))/\w=w':=by
 obtain⟨m,rfl⟩: ∃m:Nat,t=(m:Int):=⟨t.toNat,oy⟩;have r:=hJ (show aB.back (m:Nat)=min (gN m) 64000 by unfold aB.back;rw[Int.toNat_natCast]);go_enter func126,ntmps126;go_wp2;go_loopw[3,4] (λb i wr=> ∃k:Nat,k<=m/\i=k/\b=(gN k)/\0<=gN k/\gN k<=128000/\wr=w) (λ_ i _=>m- (intOf i).toNat);case atStart=>exact⟨0,oy,rfl,rfl,dy,dy,rfl⟩
 case round=>obtain⟨k,d,rfl,rfl,l,g,rfl⟩:=hrel;by_cases n:k<m;{by_cases f:gN k<64000;{have a:=hJ (show gN (k+1)=gN k*2 by rw[gN,aK f]);have o:IntKind.i64.wrap (gN k*2)=gN k*2:=fA _ oy;go_wp2;go_roundw;(case rel=>exact⟨k+1,oy,bh,by rw[a.o],by rw[a.o];omega,by rw[a.o];omega,trivial⟩);case measure=>exact cn};have c:=hJ (show gN m=gN k from Ze oy m d);go_wp2;go_ret;exact⟨by rw[r.o,c.o];rfl,rfl⟩};obtain rfl:m=k:=oy;exact qW
def abF (s) (q:lT s.nt) (w) (I:aH w w s.LA s.Ln s.Lc s.nt.l):
 Calls prog 74 #[agg (oY s)] w λe w'=> ∃v,e= .returned v/\dJ w' w v (aB.put s.nt)/\az w w':=by
 let⟨LA,Ln,Lc,l,J,t,a2,next⟩:=s;simp only at I q⊢;unfold lT at q;simp only[cm,dP]at q;have r:=hJ q.1.1.1.1;have W:=aB.iH.1 q.1.1.1.2;have Z:0<=t/\t<=1152921504606846976:=by unfold aB.cj at W;omega
 have O:=hJ q.1.1.1.2;have a3:=(jG r).1;have a4:=CB r;let⟨a0,N⟩:=aq (show aB.put ⟨l,J,t,a2,next⟩=dZ.put (ml l++(cZ (if J=true then 1 else 0)++cZ t.toNat))by unfold aB.put;rw[aK ⟨r.o,O.o⟩]) I;clear I q W;cases J;{go_enter func74,ntmps74;(go_wp2_with fail);refine yB λL M B R=>?_;refine mB (ng LA Ln Lc l true r L (N.later B)) λG x=>?_;have D:=bU B x;have m:=hJ (M.below x R);have Q:=m.lt;let⟨f,c,j,a,g⟩:=fV m.a;let⟨n,b,i,o,d⟩:=fV m.f;(go_wp2_with fail);refine mE (rK t true O G) ?_;(go_wp2_with fail);refine NN ?_;rintro e S ⟨a1,rfl,A,y⟩;obtain⟨V,c3,E,K,rfl,u,F,z⟩:=A.ia;refine QY λU H=>?_;clear u F;have X:=bU D y;have p:=hJ (m.below y Q);have Y:=p.lt;have C:=hJ z;clear A z f c j a g n b i o d;let⟨f,c,j,a,g⟩:=fV p.a;let⟨n,b,i,o,d⟩:=fV p.f;(go_wp2_with fail);refine(jg V E c3 K 0 oy oy S C).mono ?_;exact OB};go_enter func74,ntmps74;(go_wp2_with fail);refine yB λL M B R=>?_;refine mB (ng LA Ln Lc l true r L (N.later B)) λG x=>?_;have D:=bU B x;have m:=hJ (M.below x R);have Q:=m.lt;let⟨f,c,j,a,g⟩:=fV m.a;let⟨n,b,i,o,d⟩:=fV m.f;(go_wp2_with fail);refine mE (rK t true O G) ?_;(go_wp2_with fail);refine NN ?_;rintro e S ⟨a1,rfl,A,y⟩;obtain⟨V,c3,E,K,rfl,u,F,z⟩:=A.ia;refine QY λU H=>?_;clear u F;have X:=bU D y;have p:=hJ (m.below y Q);have Y:=p.lt;have C:=hJ z;clear A z f c j a g n b i o d;let⟨f,c,j,a,g⟩:=fV p.a;let⟨n,b,i,o,d⟩:=fV p.f;(go_wp2_with fail);refine(jg V E c3 K 1 oy oy S C).mono ?_;exact OB
end Go.Proofs.YteagjoghhfngoaaGreatDoor
