import Derived.Test.YteagjoghhfngoaaGreatDoorQa
import Derived.OpenShut
set_option maxRecDepth 100000
set_option maxHeartbeats 32000000
set_option linter.all false
namespace Go.Proofs.YteagjoghhfngoaaGreatDoor
namespace Ev
end Ev
namespace Mg
end Mg
namespace aB
end aB
namespace aC
end aC
namespace aF
end aF
namespace aQ
end aQ
namespace aS
end aS
namespace aZ
end aZ
namespace aa
end aa
namespace ae
end ae
namespace aj
end aj
namespace ap
end ap
namespace bm
end bm
namespace cG
end cG
open Go.RowKit Tryz Value List Ev Mem Mg aB aC aF aQ aS aZ aa ae aj ap bm cG
variable{W W':World} {v:ai} {base e i j s:Nat} {J1 xs ys:List (Int×Int)} {I t:Int} {x:Int×Int}
structure aL (P:Prop):Prop where o:P
section
variable{P T:Prop}(k:T)
def zw (h:P:=by
 obtain⟨h,j,rfl,a0,b'⟩:=h3.wv;obtain⟨b,Q⟩: ∃b,aB.put s.nt=b:=⟨_,rfl⟩;rw[Q]at a0⊢;obtain⟨d8,a8,b7,u,V⟩:=de Q a0 b' (d6.trans (e8.mono f1)) (c6.kept (nV e8 none) (by cases b0:c9.ownBlock<;>simp));have f2:=e8.size;show K _ _;refine be o ((ax.refl q a).trans (ax.of u)) λhH=>?_;refine aV 5 λK o=>?_;go_simp;show K _ _;refine be o (hH.alloc _) λhH=>?_;refine aV 6 λK o=>?_;refine step_append_lies _ bq _ _ _ bq a 34 l2 _ 1 24 underlying33 i1 l3 l0 l8 rfl dy c9 J (L.flatMap nl) bq (V.alloc _) ⟨b9,0,none⟩ 1 1 [slice h b.length j] bq bq (World.news_of_block (cs:= #[slice h b.length j]) (t:=34) (fr:=(0,0)) (heap_alloc_new b9 _)) (by simp[Value.oneCell']) oy (by unfold maxLen;omega) oy (u.o.alloc u.size _).size (b9+1) iy ?_;intro k cap n a5 G f7 e2;have B:az a n:=(u.alloc u.size _).grown G (u.alloc u.size _).size (λr e=>(V.lt r e).1);have d2: ∀r,c9.ownBlock=some r->r<b6.heap.size:=λr e=>(c6.lt r e).2;have a1:n.ownsRow a 34 1 (slice (some ⟨k,0,none⟩) (J+1) cap) (J+1) ((L++[(⟨h,b.length,j,b⟩:qj)]).flatMap nl):=by rw[flatMap_append];exact a5
 have f8:a<=k:=(a1.lt k rfl).1;obtain⟨d',d9,b2,d0⟩:=aA.dV (f:=nl) (sz:=1) (λ_=>rfl) dy a1;injection b2 with d7 e4 a';subst d7 a';have b5:aY n n h b.length j b:=((((a8.below ((Below.refl b9 b9).alloc ny _)).more iy).jR G ny (λr e e1 p d A=>by have a2:=d2 r e;have M:=b7 p d;omega))).more G.size;obtain⟨d4,Z,F,D,b1⟩:=de d0 b5 B (d3.below B c2) (c0.below B h2);have c8:=B.size;show K _ _;refine be o ((ax.refl q a).trans (ax.of B)) λhH=>?_;refine ts [7,8,9] ?_;refine aV 10 λK o=>?_;have e6:=pQ D;have e':=D.frozen 11;have N:=D.ay 11 (slice (some ⟨k,0,none⟩) (J+1) cap);have c:ax q n (n ⟨q,11,none⟩ (slice (some ⟨k,0,none⟩) (J+1) cap)):=(ax.refl q n).setCell 11 _;have E:=b1.aI (p:=⟨q,11,none⟩) (by simp only;omega) (slice (some ⟨k,0,none⟩) (J+1) cap);go_simp;show K _ _;refine be o (hH.setCell 11 _) λhH=>?_;refine dj ?_;generalize n ⟨q,11,none⟩ (slice (some ⟨k,0,none⟩) (J+1) cap)=l at N c E⊢;have S:=Mr.plain D;have a7:ax q w l:=(g5.trans (ax.of F)).trans c;have a9:Below q w l:=⟨a7.os,a7.tape,a7.output,a7.size,λi i1=>a7.block i oy oy⟩;have I:=(g1.below F).more c8;have c5:=(I.kept c.eH ny (λr e=>by injection e with e;subst e;exact cV.eM I S)).more c.size;have d5:=d4.eD (λ_ p d A=>by injection d with d;subst d;simp only at A;omega) c;have c3:=(Z.jR c.eH ny (λr e=>by injection e with e;subst e;exact aY.eM Z S)).more c.size;have e3:=c.size;have a4:cD l l ({m with NA:=A',Nn:=n',Nc:=c',ys:=b3,dr:=X,lo:=U,OA:=some ⟨k,0,none⟩,On:=J+1,Oc:=cap,os:=L++[⟨h,b.length,j,b⟩]}:Mr):= {(e5.below a9).more (show q<=l by omega)with q:=c5,f5:=by have b0:=d5;rw[show(L++[(⟨h,b.length,j,b⟩:qj)])=L++[⟨h,b.length,j,b⟩]from rfl]at b0;exact b0,f0:=λx z=>by obtain z|z:=mem_append.1 z;{exact((((R x z).below (F.mono (Nat.le_of_lt c2))).below ⟨c.os,c.tape,c.output,c.size,λi i1=>c.block i oy oy⟩)).more oy};rw[mem_singleton]at z;subst z;exact c3};obtain⟨a6,a3,d1,H⟩:=bJ a4 (show af l q 82 ({m with NA:=A',Nn:=n',Nc:=c',ys:=b3,dr:=X,lo:=U,OA:=some ⟨k,0,none⟩,On:=J+1,Oc:=cap,os:=L++[⟨h,b.length,j,b⟩]}:Mr).cells from N) a7 E;have f4:=E.lt;obtain rfl:g4=some (({m with NA:=A',Nn:=n',Nc:=c',ys:=b3,dr:=X,lo:=U,OA:=some ⟨k,0,none⟩,On:=J+1,Oc:=cap,os:=L++[⟨h,b.length,j,b⟩]}:Mr).val,1,[]):=by rw[<-i6.o];unfold Mg.send;rw[j6.o,f3.o];show some (({m.val with q:=lj m.val.q m.val.clock true,out:=(if 1000<=m.val.out.length then m.val.out.drop 1 else m.val.out)++[aB.put i3]}:Mg.Mn),(1:Int),([]:List Al))=_;(have a2:lj m.val.q m.val.clock true=bW b3 X U:=by rw[g9.o,f3.o];rfl);(have M:(if 1000<=m.val.out.length then m.val.out.drop 1 else m.val.out)++[aB.put i3]=(L++[(⟨h,b.length,j,b⟩:qj)]).map (·.bs):=by rw[map_append,Y.o,j'.o,d8.o];rfl);rw[a2,M];rfl
 obtain⟨c4,c7,b4⟩:=bi H.a;obtain⟨e7,e0,f9⟩:=bi H.f;go_wp2;have c1:Plain l (w+1):=km H;have b8:=lz (W:=l) (g:=w+1) "" "1" ();refine bodyPost_ret (v:=agg #["","1",()]) (by simp[results,results42,go_sem,c4,c7,b4]) rfl ⟨_,rfl,by(repeat(refine ax.aI ?_ iy _));exact d1,dQ.num,λy hy=>?_⟩;injection hy with hy;subst hy;have C:=cf.of e5 (show q<=w+1 by omega);exact⟨_,((a3.aI (by simp;omega) _).aI (by simp;omega) _).aI (by simp;omega) _,rfl,a6.dm c1 ⟨C.s,C.l,C.t,C.tt,C.d,λ_ p d A=>by injection d with d;subst d;simp only at A;omega⟩ b8,λr e9 f6 O f'=>⟨O.s,O.l,O.t,O.tt,O.d,λ_ p d A=>by injection d with d;subst d;simp only at A;omega⟩⟩):P:=h
def PF (h:P:=by
 have f9: ∀ (W:World) (n:Nat),n<=16->(Instr.makeSlice 93 n n).run Tryz.prog W= .ok (.slice (some ⟨W,0,none⟩) n n) (W.alloc (.cells (madeCells (gL Tr.zero).toArray (n*2)) 56)):=λW n g7=>by have:=run_makeSlice (P:=Tryz.prog) W 93 56 a' _ Tryz.underlying93 b0 a9 .i64 .i64 (n:Nat) (n:Nat) oy oy (by rw[Y];omega) (by rw[b1];omega) oy;rw[Y]at this;exact this
 have c':=hJ f9;have g8:=bD l;have c3:=dF l;have c4:=eW l;have k3:=l.frozen 0;have h2:=l.frozen 3;have j2:=l.frozen 4;go_enter Tryz.func62,Tryz.ntmps62;go_upto_region 3 with fail
 have c:=lv.start (m:=m) (FA:=FA) (Fc:=Fc) (gs:=gs) (tab:=tab) O Q;generalize((w ⟨q,0,none⟩ (.slice FA Fn Fc) ⟨q,3,none⟩ (.slice (some ⟨w,0,none⟩) Fn Fn) ⟨q,4,none⟩ (.slice (some ⟨w+1,0,none⟩) Fn Fn)).alloc (.cells (madeCells (eJ 0).toArray Fn) 3)).alloc (.cells (madeCells (eG dt.zero).toArray Fn) 93)=g6 at c⊢;have a0:=hJ c;go_wp2;go_loopw[31] (λi W=> ∃ (k:Nat) (ts:List dt),k<=Fn/\i=k/\lv q w m FA Fn Fc gs tab k ts W) (λi _=>Fn- (intOf i).toNat);case atStart=>exact⟨0,_,oy,rfl,a0⟩
 case round=>obtain⟨k,ts,j8,rfl,c⟩:=hrel;have a0:=hJ c;by_cases I:k<Fn;{have e7:decide (k<Fn):=decide_eq_true I;have a3:cR wr wr FA Fn Fc gs:=(G.kept c.b.eH ny (λr e=>by injection e with e;subst e;exact F)).more c.b.size;obtain⟨a6,fo,g,d7,g5,b8,X,j7,h7,g4,h1⟩:=a3.at_ I;subst d7;have b':=mem_of_getElem? b8;(have b7:g.Rn<=16:=by rw[<-X.1.1];exact L g b');have h5:g.Rn<=g.Rc/\g.Rc<= "":=⟨X.1.2.1,X.1.2.2.1⟩;have h8:(0:Int)<=k:=oy;have i1:k<(Fn:Int):=oy;have h0:=λW=>c' W g.Rn b7;have j':=c.box.lt;have h4:=c.t.lt;have i2:w<wr.heap.size:=oy;have c1:=c.box.cell 1;have c3:=c.box.cell 3;have c4:=c.box.cell 4;simp[Mr.cells,Mr.started]at c1 c3 c4;obtain⟨b2,i'⟩: ∃b2,wr.cell? ⟨w,k,none⟩=some (.int .i64 b2):=c.aiG I;obtain⟨U,j1⟩: ∃U:dt,wr.cell? ⟨w+1,k,none⟩=some (.slice U.A U.n U.c):=c.ain I;have j0:=c.ael k;have j5:=c.t.frozen k;obtain⟨f7,f4,b6⟩:=aM b8 X b';(go_upto_region 6 with fail);go_region;(go_upto_region 7 with fail);go_region;(go_upto_region 8 with fail);obtain⟨s,D⟩:=a0.row I N g b7;generalize(((wr ⟨w,k,none⟩ m.ck ⟨w+1,k,none⟩ (.slice (some ⟨wr+1,0,none⟩) g.Rn g.Rn)).alloc (.cells #[g.nm,g.iv,g.off,.slice g.RA g.Rn g.Rc] 85)).alloc (.cells (madeCells (gL Tr.zero).toArray (g.Rn*2)) 56)).drew.drew=f at s D⊢;generalize wr.heap.size=d at s D⊢;obtain⟨d4,d3⟩:=aq s D;have i4:=dF s.bk;go_wp2;go_loopw[62] (λj R=> ∃ (b:Nat) (u:List Tr),b<=g.Rn/\j=b/\qf q w m (some ⟨a6,fo,none⟩) Fn Fc gs tab k d g ts R/\cL gL 2 R (d+1) 56 g.Rn g.Rn u/\(∀z∈u,dI R R z)/\(u.map Tr.val).take b=(g.rs.map λr=>tab (aS.key g r)).take b) (λj _=>g.Rn- (intOf j).toNat);(case atStart=>exact⟨0,_,oy,rfl,d4,d3,λz o=>by obtain rfl:=(mem_replicate.1 o).2;exact bp.none_ _ _,rfl⟩);case round=>obtain⟨b,u,h3,rfl,s,o,b5,a8⟩:=hrel;obtain⟨c8,a2,f0,d'⟩:=bJ s o b5 a8;by_cases J:b<g.Rn;{have d6:decide (b<g.Rn):=decide_eq_true J;have a3:cR wr wr (some ⟨a6,fo,none⟩) Fn Fc gs:=(G.kept s.b.eH ny (λr e=>by injection e with e;subst e;exact F)).more s.b.size;have g0:=a3.2 g b6;obtain⟨e6,d0,a,e2,i5,b3,h6,t⟩:=g0.at_ J;have j3:wr.cell? ⟨e6,d0+b*8,none⟩=(a.nm:Value):=t 0 _ rfl;have j4:=t 1 _ rfl;have i6:=t 2 _ rfl;have i3:=t 3 _ rfl;have g3:=t 4 _ rfl;have g9:=t 5 _ rfl;have i8:=t 6 _ rfl;have h':=t 7 _ rfl;have j6:(0:Int)<=b:=oy;have k2:b<(g.Rn:Int):=oy;have Z:=af.new wr 92 #[a.nm,a.sn,.slice a.MA a.Mn a.Mc,a.op,a.v,a.fo,a.ke,.slice a.LA a.Ln a.Lc];have C:=(Below.refl wr wr).alloc ny (.cells #[a.nm,a.sn,.slice a.MA a.Mn a.Mc,a.op,a.v,a.fo,a.ke,.slice a.LA a.Ln a.Lc] 92);have d8:=mem_of_getElem? b3;obtain⟨f1,e8⟩:=aq b3 d8;rw[e2]at*;(go_upto_region 11 with fail);generalize wr.alloc (.cells #[a.nm,a.sn,.slice a.MA a.Mn a.Mc,a.op,a.v,a.fo,a.ke,.slice a.LA a.Ln a.Lc] 92)=f at Z C⊢;have f':=a2.lt;have b4:=c8.below (C.mono (show d+1<=wr.heap.size by omega));have c9:=a2.below C f';have c7: ∀z∈u,dI f f z:=λz o=>nh (rN (f0 z o) C) C.size;have i7:=b4.lo;have a5:=Z.lt;obtain⟨B,e0,c5,f6⟩:=bJ b4 c9 c7 Z;have i9:=C.size;refine wp_region_held_drew (S:=λW'=>ax (d+1) f W') ry (ax.refl (d+1) f).drew (λhH=>?_);refine tk 0 ?_;refine tk 1 ?_;refine tk 2 ?_;refine tk 3 ?_;refine tk 4 ?_ (hy:=by intro wq hSw;have z:=(hSw.aX B.box oy).cell 4;simp[Mr.cells,Mr.started]at z;go_simp;all_goals(with_reducible rfl));refine tk 5 ?_;refine tk 6 ?_;refine tk 7 ?_ (hy:=by intro wq hSw;have z:=(((B.t []).grown hSw.eH (by simp;omega)).cell (j:=k) (x:=⟨some ⟨d+1,0,none⟩,g.Rn,g.Rn,[]⟩) (by rw[getElem?_set_self (by have:=(B.o.t []).len;rw[length_set]at this;omega)]) (i:=0) rfl);simp at z;go_simp;all_goals(with_reducible rfl));refine tk 8 ?_;refine tk 9 ?_;refine tk 10 ?_;refine tk 11 ?_ (hy:=by intro wq hSw;have z:=(hSw.aX B.bk oy).cell 0;simp at z;go_simp;all_goals(with_reducible rfl));refine tk 12 ?_;refine tk 13 ?_ (hy:=by intro wq hSw;have z:=(hSw.aX f6 oy).cell 0;simp at z;go_simp;all_goals(with_reducible rfl));refine tk 14 ?_;refine aV 15 λK a4=>?_;go_simp;have e1:ax q w f.drew:=B.b.drew;refine(M f.drew e1 g b6 a e8).mono ?_;rintro e V ⟨y,rfl,e',d1,d5⟩;have a1:Below f f V:=(Below.refl _ f).drew.trans d5;obtain⟨g2,f2,a7⟩:=aM e' d1 a1;have A:=e0.below a1 oy;have e5:=hJ A;show K _ _;refine be a4 ((ax.refl (d+1) f).trans (ax.of a1)) λhH=>?_;refine tk 16 ?_;have h9:(gL Tr.zero).length=2:=rfl;obtain⟨E,D⟩: ∃E,u[b]?=some E:=⟨_,getElem?_eq_getElem (by rw[A.len];exact J)⟩;have j9:V.cell? ⟨d+1,b*2,none⟩=some (.slice E.A E.n E.c):=A.cell D (i:=0) rfl;have g':V.cell? ⟨d+1,b*2+1,none⟩=(E.full:Value):=A.cell D (i:=1) rfl;have i0:=A.frozen (b*2);have k0:=A.frozen (b*2+1);have k1:=A.lt;refine aV 17 λK a4=>?_;go_simp;show K _ _;refine be a4 ((hH.setCell (b*2) _).setCell (b*2+1) _) λhH=>?_;refine dj ?_;obtain⟨d2,c6⟩:=afF e5 (λz o=>nh (rN (c5 z o) a7) a7.size) f2 J;have f3:qf q w m (some ⟨a6,fo,none⟩) Fn Fc gs tab k d g ts ((V.setCell ⟨d+1,b*2,none⟩ (.slice y.A y.n y.c)).setCell ⟨d+1,b*2+1,none⟩ (.int .i64 y.full)):=B.o.below (((a7.o.mono (show d+1<=f.heap.size by omega)).setCell (p:=⟨d+1,b*2,none⟩) (show d+1<=d+1 from Nat.le_refl _) _).setCell (p:=⟨d+1,b*2+1,none⟩) (show d+1<=d+1 from Nat.le_refl _) _);obtain⟨e9,d9,e4⟩:=aM f3 d2 c6;go_wp2;exact⟨⟨b+1,u.set b y,oy,bh,e9,d9,e4,by rw[map_set,CE _ _ _ (by rw[length_map,a2.o.len];exact J),d'.o,g2.o,take_add_one,getElem?_map,f1.o];rfl⟩,by simp[intOf];omega⟩};obtain rfl:b=g.Rn:=oy;have d6:decide (g.Rn<g.Rn)=false:=decide_eq_false oy;have g1:g.rs.length=g.Rn:=f4.1.1;(have c2:=s.done f7 H o b5 (by rw[take_of_length_le (by rw[length_map,o.len];omega),take_of_length_le (by rw[length_map,g1];omega)]at a8;exact a8));have e3:=hJ c2;go_wp2;exact⟨⟨k+1,_,oy,bh,e3⟩,by simp[intOf];omega⟩};obtain rfl:k=Fn:=oy;have e7:decide (k<k)=false:=decide_eq_false oy;have c0:gs.length=k:=H;obtain⟨ls,b9,a5⟩:=c.l;(have f5:EY q m FA k Fc gs tab w (.returned (.tuple #[])) wr:=by refine⟨ls,ts,rfl,c.box,?_,?_,b9.qZ,c.t.qZ,c.fl,c.b⟩;{rw[take_of_length_le (Nat.le_of_eq b9.len)]at a5;rw[a5,<-c0,map_const']};have:=c.tv;rw[take_of_length_le (Nat.le_of_eq (by rw[length_map,c.t.len])),take_of_length_le (Nat.le_of_eq (by rw[length_map,c0]))]at this;exact this);have f8:=hJ f5;go_wp2;refine bodyPost_ret (v:= .tuple #[]) (by simp[results,Tryz.results62,go_sem]) rfl f8):P:=h
def zU (h:P:=by
 go_wp2_with(at_builtin;refine wpList_append_lies _ rfl _ _ 93 rfl h3 56 o3 _ 2 32 underlying93 q0 o5 n8 q2 rfl dy _ _ _ bq (f1.alloc _) (an a8 0) 1 1 [slice (⟨l,a,u,H,C⟩:Tr).A (⟨l,a,u,H,C⟩:Tr).n (⟨l,a,u,H,C⟩:Tr).c,(⟨l,a,u,H,C⟩:Tr).full] bq bq po jc oy my oy jB _ rfl ?_;intro c d b x f r K)
 have i:=(Below.refl _ a8).alloc ny (.cells #[slice l a u,C] 56);have g:=λq (e:u11.ownBlock=some q)=>i'.lt q e;have m:a8<=b.heap.size:=vQq;have p: ∀y:Tr,bp a8 a8 y.A y.n y.c y.ys->(∀q,u11.ownBlock=some q->qR q y)->dI b b y/\ ∀q,Value.ownBlock (bR c (os.length+1) d)=some q->qR q y:=by intro y hy J;refine⟨((hy.below i).kept f iy J).more m,λq e=>?_⟩;injection e with e;subst e;obtain e|e:=r;{exact J _ e};exact fZ.of hy Aq
 have v: ∀y∈os++[(⟨l,a,u,H,C⟩:Tr)],dI b b y/\ ∀q,Value.ownBlock (bR c (os.length+1) d)=some q->qR q y:=by intro y hy;obtain hy|hy:=eQ.1 hy;{exact p y ((show bp _ _ _ _ _ _ from(l7 y hy).1).later d3) (l7 y hy).2};rw[fS.1 hy];refine p _ f3 (λq e=>b8 q ?_ (e0 q ?_));{have:=(g q e).2;omega};have:=(g q e).1;have:=j0.size;omega
 have G: ∀q,q<w.heap.size->(∀z∈xs,∀y∈z.ys,aO q y.LA y.Ln)-> ∀y∈os++[(⟨l,a,u,H,C⟩:Tr)],qR q y:=by intro q R J y hy;obtain hy|hy:=eQ.1 hy;{exact p0 q R J y hy};rw[fS.1 hy];exact b8 q oy (m8 q J)
 have D: ∀q,q<w.heap.size->dB q A n b5->dB q b4 b' e4:=λq R J=>d6 q oy (n9 q R J);have F:b.ownsRow h3 56 2 (bR c (os.length+1) d) (os++[(⟨l,a,u,H,C⟩:Tr)]).length ((os++[(⟨l,a,u,H,C⟩:Tr)]).flatMap gL):=by rw[eX,bu];exact x
 have s:=(i.mono g5).grown f uy vXg;have o: ∀q,u11.ownBlock=some q->dB q b4 b' e4:=λq e=>d6 q vxj (n0 q e);have t:=((d7.below i).kept f iy o).more m;have B: ∀q,Value.ownBlock (bR c (os.length+1) d)=some q->dB q b4 b' e4:=by intro q e;injection e with e;subst e;obtain e|e:=r;{exact o _ e};exact dB.of d7 Aq
 go_wp2;go_roundw;case rel=>have I:=j0.size;exact⟨slice b4 b' h0,bR c (os.length+1) d,(E+g7:Int),k,bK wr,bK (wr+1),g7,((k:Int)+1:Int),⟨k+1,oy,bh,b4,b',h0,rfl,e4,os++[(⟨l,a,u,H,C⟩:Tr)],E+g7,rfl,t,F,by rw[f2.o,ir];rfl,by have:=p6.o;simp;omega,oy,oy,v,f'.trans (s.mono oy),oy,D,G,B⟩,rfl,rfl,rfl,rfl,rfl,rfl,rfl,rfl⟩
 case measure=>exact cn):P:=h
def Rg (h:P:=by
 rw[a4]at A a5;rw[Y]at N a2;have i3:b<=a3:=oy;have j1:b<=O:=oy;have j8:=bD A;go_wp2_with fail
 have L:=(b6.keep (I.mono (dH z))).all;have f6:=(U.below (I.mono (dH z))).more (show q<=Z by omega);refine(Vp m.FA m.Fn m.Fc m.gs FA Fn Fc gs d9 a6 Z L.2.2.1 L.2.2.2 f6.f J).mono ?_;rintro e f ⟨v,i1,j3,rfl,f3,c1⟩;obtain⟨h3,G,rfl,b0⟩:=aA.dV jF dy f3;have d2:=hJ (show aA cW 2 f f h3 (aS.stay m.gs gs).length G (aS.stay m.gs gs)from b0);have g1:(aS.stay m.gs gs).length<=G/\G<= "":=⟨b0.2.1,b0.2.2.1⟩;let⟨c8,c0⟩:=aq (show aS.stay m.val.f (gs.map aZ.bare)=aS.stay m.gs gs from ZV _ _) (show ∀K∈aS.stay m.gs gs,K.1.size<=maxLen/\K.2.size<=maxLen from YN a6);let⟨st,g'⟩:=xR (aS.stay m.gs gs);rw[g']at d2 c8 c0 g1⊢;have x:=hJ c1;have f1:=c1.size;have j7:= @run_makeMap prog;go_upto_region 7 with fail
 have u:=iE.made f;have c4:(f.alloc (.map #[] 0)).heap.size=f+1:=iy;generalize f8:World.alloc _ _=E at u c4⊢;have g2:=bQ (Below.refl f.heap.size f) f8;let⟨c,c'⟩:=xR f.heap.size;have a7:=af.new E 136 #[.map (some c)];rw[c']at u⊢;rw[c4,c']at a7;have b':iE (E.alloc (.cells #[.map (some c)] 136)) c []:=u.kept (World.grownBy_alloc E _ none) iy;have f5:(E.alloc (.cells #[.map (some c)] 136)).heap.size=c+1+1:=uy;generalize g8:World.alloc _ _=f4 at a7 b' f5⊢;have e1:=bQ g2 g8;let⟨s,i0,Q⟩:=aM e1 b' a7;go_upto_region 8 with fail
 go_loopw[48] (λi W=> ∃a:Nat,a<=st.length/\i=a/\iE W c (st.take a)/\ax c f4 W) (λi _=>st.length- (intOf i).toNat);case atStart=>exact⟨0,oy,rfl,i0,ax.refl _ _⟩
 case round=>obtain⟨a,i4,rfl,u,C⟩:=hrel;have j2:=C.size;by_cases h8:a<st.length;{let⟨d0,c5,f2,j0,d3⟩:=aA.at_ d2 (show 0<st.length by omega);obtain⟨K,o⟩: ∃K,st[a]?=some K:=⟨_,br h8⟩;have j5:=(C.cell (p:=(d0 (c5+a*2))) dO dO).trans (bC s (d3 a K o 0 _ rfl));have i5:=(C.cell (p:=(d0 (c5+a*2+1))) dO dO).trans (bC s (d3 a K o 1 _ rfl));have f0:=(C.aX Q oy).cell 0;simp at f0;subst f2;have i6:(0:Int)<=a:=oy;have i8:a<(st.length:Int):=oy;have b7:=c0 K (cz o);let⟨g3,a9,n⟩:=aM o u C;(go_upto_region 10 with fail);have c2:=a9.kept (World.grownBy_alloc wr (.cells #[K.1,K.2] 51) none) iy;have a0:=n.alloc (.cells #[K.1,K.2] 51);have g4:(wr.alloc (.cells #[K.1,K.2] 51)).heap.size=wr+1:=iy;generalize h5:World.alloc _ _=H at c2 a0 g4⊢;have h0:=nQ h5;have h9:=(a0.aX Q oy).cell 0;simp at h9;let⟨j6,i2⟩:=bE h0.a;let⟨i7,i9,h',h2,i'⟩:=c2.put K b7.1 b7.2;let⟨f9,e7⟩:=aq h' (a0.trans (ax.LB h2));go_wp2;exact⟨⟨a+1,oy,bh,by rw[gK,g3.o];exact f9,e7⟩,by simp[intOf];omega⟩};obtain rfl:a=st.length:=oy;rw[dE ny]at u;let⟨a9,n⟩:=aq u C;have t:az f wr:=⟨n.os.trans s.os,n.tape.trans s.tape,n.output.trans s.output,aR s.o.size,λi a'=>(n.block i oy oy).trans (s.block i a')⟩;have e6:=I.trans ((x.mono (show w<=Z.heap.size by omega)).trans (t.mono oy));let⟨l,d1,e',h4,e5,d',X⟩:=jx e6 ((R.below x oy).below t oy) ((V.below x oy).below t oy) ((A.below x oy).below t oy) ((N.below x oy).below t oy) (n.aX Q oy) ((((J.below x).more f1).below t).more t.size);(go_wp2_with fail);(refine(abI q m FA Fn Fc gs (pC m.val st) a3 (c+1) O a6 wr d1 X (λW j g a8 r c6=>by have b4:=aS.names a6 a8;have b8:=(l.mono (dH z)).trans ⟨j.os,j.tape,j.output,j.size,λi a'=>j.block i Fq oy⟩;have a1:=(U.below b8).more (show q<=W by have:=b8.size;omega);exact adL a3 (c+1) O c m d6.1 st (aS.key g r) b4.1 (b4.2 r c6) W (j.aX h4 oy) (j.aX d' oy) (j.aX e5 oy) a1.f a1.t a1.tt (a9.kept j.eH ri))).mono ?_);rintro e D ⟨ls,ts,rfl,f',g9,e3,h6,f7,M,d⟩;have b9:=d.aX e' oy;have S:=hJ b9;have c9:=(l.mono (dH z)).trans ⟨d.os,d.tape,d.output,d.size,λi a'=>d.block i Fq oy⟩;have e4:=IR ((U.below c9).more (show q<=D by have:=c9.size;omega)) ((X.kept d.eH ny (λr e=>by injection e with e;subst e;exact cR.eM X (Mr.plain d1))).more d.size) h6 f7 M;have h7:=tU (B:=D) (FA:=FA) (Fn:=Fn) (Fc:=Fc) (gs:=gs) (ls:=ls) (ts:=ts) (cf.of U (show q<=w+1 by omega)) (show w+1<wr.heap.size by omega) M;let⟨e8,g7,e9,e2,F⟩:=de e4 M h7 f' d;have j4:=b9.lt;(obtain rfl:b5=some ((m.started FA Fn Fc gs wr (wr+1) ls ts).val,(st.length:Int),[]):=by rw[<-c3.o,Mr.GK (tab:=pC m.val st) g9 e3];unfold Mg.load;rw[d5.o];simp only;rw[c8.o]);let⟨b1,b3,b2⟩:=bi S.a;let⟨d7,d4,d8⟩:=bi S.f;go_wp2;have g6:=km S;have g5:=lz (W:=D) (g:=w+1) "" st.length ();have e0:ax q w D:=⟨F.os.trans l.os,F.tape.trans l.tape,F.output.trans l.output,aR l.o.size,λk h1 c7=>(F.block k Fq c7).trans (l.block k h1)⟩;refine bodyPost_ret (v:=agg #["",st.length,()]) Ty rfl ⟨_,rfl,by(repeat(refine ax.aI ?_ iy _));exact e0,dQ.num,λy hy=>?_⟩;cases hy;exact⟨_,((e2.aI uy _).aI uy _).aI uy _,rfl,e8.dm g6 e9 g5,λr c6 j9 g0 j'=>tU (B:=D) (g0) (show r<wr by omega) g7⟩):P:=h
def yZ (h:P:=by
 rintro e b3 ⟨c1,rfl,Q,M⟩;obtain⟨Y,c3,d,J,rfl,l,R,W⟩:=Q.ia;have c6:d<=i+9:=by rw[R,l,bu,show q.length=i from j.o.1];exact Nat.add_le_add_left (fJ _) _
 have a8:=hJ l;clear l R;have a':=bU D M;have a:=H.below M E;have b2:=a.lt;obtain⟨A,b0⟩:=aq W a;clear Q W o m f;have o:=dp a;have m:=eW a;have f:=jA a;clear a;go_wp2_with fail
 refine(jg Y d c3 J F a6 oy b3 A).mono ?_;rintro e b4 ⟨c2,rfl,s,O⟩;obtain⟨b1,c4,c,L,rfl,p,K,V⟩:=s.ia;have c0:c<=d+9:=by rw[K,p,bu,show J.length=d from A.o.1];exact Nat.add_le_add_left (fJ _) _
 have b5:=hJ p;clear p K;have X:=bU a' O;have b:=b0.below O b2;have b6:=b.lt;obtain⟨U,a5⟩:=aq V b;clear s V o m f;have o:=dp b;have m:=eW b;have f:=jA b;clear b;go_wp2_with fail
 refine(jg b1 c c4 L C a9 oy b4 U).mono ?_;rintro e b7 ⟨b8,rfl,v,z⟩;obtain⟨a1,c5,B,a0,rfl,n,G,N⟩:=v.ia;have b':B<=c+9:=by rw[G,n,bu,show L.length=c from U.o.1];exact Nat.add_le_add_left (fJ _) _
 have Z:=hJ n;clear n G;have r:=bU X z;have k:=a5.below z b6;obtain⟨a4,b9⟩:=aq N k;clear v N o m f;have f:=jA k;clear k;go_wp2_with fail
 all_goals(refine(aam a1 B c5 a0 _ oy oy oy b7 a4.o).mono ?_;rintro e t ⟨g,rfl,a3,a2⟩;go_wp2;go_ret;refine⟨g,rfl,?_,bU r a2⟩;refine(show ∀ {x y},x=y->dJ t w g x->dJ t w g y from λe u=>e▸u) ?_ (nk a3 vXh);rw[a7.o,Z.o,b5.o,a8.o,I.o,S.o,Int.toNat_natCast];simp only[ed];rfl)):P:=h
def zA (h:P:=by
 refine aV 7 λK o=>?_;have b:=a.keep (aN.alloc ny (.cells (mm m) 92));have p:=b2.later (aN.alloc ny (.cells (mm m) 92));refine step_append_lies _ bq _ _ _ bq (gq+1) 92 j5 _ 8 112 Tryz.underlying83 m4 j9 i8 n0 rfl dy (.slice VA rs.length vc) rs.length (rs.flatMap kq) bq b.own (an a8 0) 1 1 (kq m) bq bq (World.news_of_block (cs:=mm m) (t:=92) (fr:=(0,0)) (heap_alloc_new a8 _)) (by simp[kq,Value.oneCell']) oy (by unfold maxLen;omega) oy (by have:=a.box.lt;simp;omega) (a8+1) iy ?_;intro r cap x n d i y;have c:=b.gb l d;have j:x.ownsRow (gq+1) 92 8 (.slice (some (r 0)) (rs.length+1) cap) (rs++[m]).length ((rs++[m]).flatMap kq):=by rw[length_append,flatMap_append];simpa using n
 have s:=b.grown l p a' b7 d j (λg e=>by (have u:r=g:=by simpa[Value.ownBlock]using e);subst u;obtain q|q:=i;{exact .inl q};exact .inr (by rw[q];simp));have h:=hJ s;have f1:=dF c.2;have w:=c.2.frozen 3;clear b p n d i j s;show K _ _;refine be o c.1 λhH=>?_;refine tk 8 ?_;refine aV 9 λK o=>?_;go_simp;show K _ _;refine be o h.but λhH=>?_;refine dj ?_;clear f1 w c;go_wp2;go_roundw;case rel=>exact⟨f,k,_,_,_,rs++[m],oy,b1.2,by simp;omega,b4,h⟩
 case measure=>have v:=bL h.rd;rw[v,k9.o];simp[qP];omega):P:=h
def Et (h:P:=by
 refine aV 8 λK o=>?_;have a:=d.keep (aN.alloc ny (.cells (nO g.nm g.iv g.off (slice g.RA g.Rn g.Rc)) 85));have x:=a1.later (aN.alloc ny (.cells (nO g.nm g.iv g.off (slice g.RA g.Rn g.Rc)) 85));refine step_append_lies _ bq _ _ _ bq (r+1) 85 h5 _ 4 56 underlying25 j3 h6 g8 j7 rfl dy (slice FA gs.length Fc) gs.length (gs.flatMap jK) bq a.own (an C 0) 1 1 (jK g) bq bq (World.news_of_block (cs:=nO g.nm g.iv g.off (slice g.RA g.Rn g.Rc)) (t:=85) (fr:=(0,0)) (heap_alloc_new C _)) (by simp[jK,Value.oneCell']) oy (by unfold maxLen;omega) oy (by have:=d.rd.lt;simp;omega) (C+1) iy ?_;intro m cap Z v h n z;have u:Z.ownsRow (r+1) 85 4 (slice (some (m 0)) (gs.length+1) cap) (gs++[g]).length ((gs++[g]).flatMap jK):=by rw[length_append,flatMap_append];simpa using v
 have j: ∀b,(Value.slice FA gs.length Fc).ownBlock=some b->r+1<=b:=λb e=>(a.own.lt b e).1;have l:=a.rd.grown h (λe=>aR (j r e.symm));have y:=a.grown x Y h u (λb e=>by (have q:m=b:=by simpa[Value.ownBlock]using e);subst q;obtain c|c:=n;{exact .inl c};exact .inr (by rw[c];simp));have i:=hJ y;have p:az w Z:=a.mz.grown h a.mz.size (λb e=>aR (j b e));have b6:=dp l;have A:=l.frozen 2;show K _ _;refine be o p λhH=>?_;refine tk 9 ?_;refine tk 10 ?_;refine aV 11 λK o=>?_;go_simp;show K _ _;refine be o i.mz λhH=>?_;refine dj ?_;go_wp2;go_roundw;case rel=>exact⟨f,k,_,_,_,gs++[g],oy,a0.2,by simp;omega,a3,i⟩
 case measure=>have s:=bL i.rd;rw[s,i3.o];simp[qP];omega):P:=h
def Oh (h:P:=by
 obtain⟨p,s⟩:=xS (q*b);have W:q*b=(p:Int):=by rw[s,Int.natCast_mul]
 have X:p<=d:=by rw[s,i];exact Nat.div_mul_le_self _ _
 have v:cG.tm b a q=a+p:=by unfold cG.tm;rw[s]
 have r:=Nf z q last;rw[v]at r;by_cases K:((a:Int)+p)<=last;{have M:decide ((a:Int)+p<=last):=decide_eq_true K;(have Q:=hJ (show cG.due b a last now=none by unfold cG.due;rw[if_pos];have:=r.2 ⟨oy,by unfold cG.cj;omega⟩;omega));rw[Q.o]at l;subst l;clear o i t s v r;go_enter Tryz.func69,Tryz.ntmps69;(go_wp2_with fail);refine yA λm e f J n=>?_;refine mB (tX ⟨nm,(b:Int),(a:Int),RA,B,C,rs⟩ true y m ((A.below f).more n)) λI c=>?_;have D:=bC c (e.cell 0);have F:=bC c (e.cell 1);have E:=bC c (e.cell 2);have G:=bC c (e.cell 3);go_wp2;go_ret3;exact⟨rfl,f.trans (c.mono f.size)⟩};have M:decide ((a:Int)+p<=last)=false:=decide_eq_false K;(have N:ez b a last<=q:=by obtain j|j:=Nat.lt_or_ge q (ez b a last);{have:=(r.1 j).1;omega};exact j);(have g:cG.due b a last now=some (a+p,q-ez b a last):=by unfold cG.due;rw[t,if_neg oy,Nat.add_sub_cancel,v]);by_cases H:(a:Int)<=last;{have L:decide ((a:Int)<=last):=decide_eq_true H;obtain⟨u,U⟩: ∃d:Nat,last- (a:Int)=(d:Int):=⟨(last- (a:Int)).toNat,oy⟩;have O:u<=():=oy;obtain⟨h,x⟩:=xS (u/b);(have R:Int.tdiv (u:Int) (b:Int)=(h:Int):=by rw[x];rfl);(have V:(u:Int)/ (b:Int)=(h:Int):=by rw[x];rfl);(have S:h<=():=by rw[x];exact Nat.le_trans (Nat.div_le_self _ _) O);(have w:ez b a last=h+1:=by rw[show last=((u+a:Nat):Int)by omega,Dm (by unfold cG.cj;omega) oy,Nat.add_sub_cancel,x]);rw[w]at g N;obtain⟨k,Y⟩: ∃k:Nat,q- ((h:Int)+1)=(k:Int):=⟨q- (h+1),oy⟩;rw[show q- (h+1)=k by omega]at g;rw[g]at l;subst l;clear o i t s v r x w g;go_enter Tryz.func69,Tryz.ntmps69;(go_wp2_with fail);refine yA λm e f J n=>?_;refine mB (tX ⟨nm,(b:Int),(a:Int),RA,B,C,rs⟩ true y m ((A.below f).more n)) λI c=>?_;have D:=bC c (e.cell 0);have F:=bC c (e.cell 1);have E:=bC c (e.cell 2);have G:=bC c (e.cell 3);go_wp2;go_ret3;exact⟨rfl,f.trans (c.mono f.size)⟩};have L:decide ((a:Int)<=last)=false:=decide_eq_false H;(have w:ez b a last=0:=by unfold ez;rw[if_pos oy]);rw[w,Nat.sub_zero]at g;rw[g]at l;subst l;clear o i t s v r w g;go_enter Tryz.func69,Tryz.ntmps69;(go_wp2_with fail);refine yA λm e f J n=>?_;refine mB (tX ⟨nm,(b:Int),(a:Int),RA,B,C,rs⟩ true y m ((A.below f).more n)) λI c=>?_;have D:=bC c (e.cell 0);have F:=bC c (e.cell 1);have E:=bC c (e.cell 2);have G:=bC c (e.cell 3);go_wp2;go_ret3;exact⟨rfl,f.trans (c.mono f.size)⟩):P:=h
def RM (h:P:=by
 have d4:decide (N<=T-T):=decide_eq_true J;have E:x=(⟨true,T,true,T⟩,bm.now ⟨true,T,true,T⟩ T B):=by rw[<-b6.o,Z]
 obtain⟨r,F⟩: ∃r,bm.now ⟨true,T,true,T⟩ T B=r:=⟨_,rfl⟩;rw[F]at E;obtain⟨V,a',a9,Y,a6⟩:=de F E.symm ((((M.ay 1 T).ay 0 true).ay 2 true).ay 3 T) ((((b3.aI (p:=⟨w,1,none⟩) iy T).aI (p:=⟨w,0,none⟩) iy true).aI (p:=⟨w,2,none⟩) iy true).aI (p:=⟨w,3,none⟩) iy T) ((((b4.setCell (p:=⟨w,1,none⟩) iy T).setCell (p:=⟨w,0,none⟩) iy true).setCell (p:=⟨w,2,none⟩) iy true).setCell (p:=⟨w,3,none⟩) iy T);go_wp2;refine wp_region_held_drew (S:=λW'=>Below w w W'/\af W' w 71 #[true,T,true,T]/\ ∃a b c d,af W' (w+1) 71 #[a,b,c,d]) ry ⟨a6.drew,a9.drew,⟨_,_,_,_,Y.drew⟩⟩ (λhH=>?_);refine tk 0 ?_ (hy:=by intro wq hSw;have z:=hSw.2.1.cell 0;have g:=hSw.2.1.cell 1;have f:=hSw.2.1.cell 2;have h:=hSw.2.1.cell 3;simp at z g f h;exact bM);refine tk 1 ?_ (hy:=by intro wq hSw;have z:=hSw.2.1.cell 0;have g:=hSw.2.1.cell 1;have f:=hSw.2.1.cell 2;have h:=hSw.2.1.cell 3;simp at z g f h;exact bM);refine tk 2 ?_;refine tk 3 ?_;refine aV 4 λK n=>?_;go_simp;refine(rU (true) (T) (true) (T) T B r V _).mono ?_;rintro e D ⟨rfl,o⟩;show K _ _;obtain⟨a,b,c,d,I⟩:=hH.2.2;have l:=I.below o I.lt;refine be n ⟨hH.1.trans (o.mono hH.1.size),hH.2.1.below o hH.2.1.lt,⟨_,_,_,_,l⟩⟩ λhH=>?_;refine aV 5 λK n=>?_;obtain⟨b9,b7,c8,b'⟩:=cJ l.a;obtain⟨c4,b8,c7,c1⟩:=cJ l.f;go_simp;have m:=(((l.ay 0 true).ay 1 T).ay 2 true).ay 3 T;have c3:=hH.1;have X:=hH.2.1;have y:Below w w (D ⟨w+1,0,none⟩ true ⟨w+1,1,none⟩ T ⟨w+1,2,none⟩ true ⟨w+1,3,none⟩ T):=ly;have q:=(((X.aI (p:=⟨w+1,0,none⟩) iy true).aI (p:=⟨w+1,1,none⟩) iy T).aI (p:=⟨w+1,2,none⟩) iy true).aI (p:=⟨w+1,3,none⟩) iy T;refine be n ⟨y,q,⟨_,_,_,_,m⟩⟩ λhH=>?_;refine nT (S':=λW'=>Below w w W'/\af W' w 71 #[true,T,true,T]/\af W' (w+1) 71 #[true,T,true,T]) (λW j=>⟨j.1,j.2.1,⟨_,_,_,_,j.2.2⟩⟩) _ _ _ _ ?_;generalize(D ⟨w+1,0,none⟩ true ⟨w+1,1,none⟩ T ⟨w+1,2,none⟩ true).setCell ⟨w+1,3,none⟩ T=s at m y q hH⊢;have hH:Below w w s/\af s w 71 #[true,T,true,T]/\af s (w+1) 71 #[true,T,true,T]:=⟨y,q,m⟩;refine tk 6 ?_;refine dj ?_;go_wp2;obtain⟨a7,a2,a5,a8⟩:=cJ hH.2.2.a;exact bodyPost_ret (v:= .tuple #[.agg #[true,T,true,T],r]) (by simp[results,Tryz.results207,go_sem,a7,a2,a5,a8]) rfl ⟨_,_,_,_,_,rfl,a',hH.1⟩):P:=h
def OJ (h:P:=by
 have d4:decide (N<=T-T)=false:=decide_eq_false J;have E:x=(⟨true,T,g,f⟩,bm.now ⟨true,T,g,f⟩ T B):=by rw[<-b6.o,Z]
 obtain⟨r,F⟩: ∃r,bm.now ⟨true,T,g,f⟩ T B=r:=⟨_,rfl⟩;rw[F]at E;obtain⟨V,a',a9,Y,a6⟩:=de F E.symm ((M.ay 1 T).ay 0 true) ((b3.aI (p:=⟨w,1,none⟩) iy T).aI (p:=⟨w,0,none⟩) iy true) ((b4.setCell (p:=⟨w,1,none⟩) iy T).setCell (p:=⟨w,0,none⟩) iy true);go_wp2;refine wp_region_held_drew (S:=λW'=>Below w w W'/\af W' w 71 #[true,T,g,f]/\ ∃a b c d,af W' (w+1) 71 #[a,b,c,d]) ry ⟨a6.drew,a9.drew,⟨_,_,_,_,Y.drew⟩⟩ (λhH=>?_);refine tk 0 ?_ (hy:=by intro wq hSw;have z:=hSw.2.1.cell 0;have i:=hSw.2.1.cell 1;have h:=hSw.2.1.cell 2;have k:=hSw.2.1.cell 3;simp at z i h k;exact bM);refine tk 1 ?_ (hy:=by intro wq hSw;have z:=hSw.2.1.cell 0;have i:=hSw.2.1.cell 1;have h:=hSw.2.1.cell 2;have k:=hSw.2.1.cell 3;simp at z i h k;exact bM);refine tk 2 ?_;refine tk 3 ?_;refine aV 4 λK n=>?_;go_simp;refine(rU (true) (T) (g) (f) T B r V _).mono ?_;rintro e D ⟨rfl,o⟩;show K _ _;obtain⟨a,b,c,d,I⟩:=hH.2.2;have l:=I.below o I.lt;refine be n ⟨hH.1.trans (o.mono hH.1.size),hH.2.1.below o hH.2.1.lt,⟨_,_,_,_,l⟩⟩ λhH=>?_;refine aV 5 λK n=>?_;obtain⟨b9,b7,c8,b'⟩:=cJ l.a;obtain⟨c4,b8,c7,c1⟩:=cJ l.f;go_simp;have m:=(((l.ay 0 true).ay 1 T).ay 2 g).ay 3 f;have c3:=hH.1;have X:=hH.2.1;have y:Below w w (D ⟨w+1,0,none⟩ true ⟨w+1,1,none⟩ T ⟨w+1,2,none⟩ g ⟨w+1,3,none⟩ f):=ly;have q:=(((X.aI (p:=⟨w+1,0,none⟩) iy true).aI (p:=⟨w+1,1,none⟩) iy T).aI (p:=⟨w+1,2,none⟩) iy g).aI (p:=⟨w+1,3,none⟩) iy f;refine be n ⟨y,q,⟨_,_,_,_,m⟩⟩ λhH=>?_;refine nT (S':=λW'=>Below w w W'/\af W' w 71 #[true,T,g,f]/\af W' (w+1) 71 #[true,T,g,f]) (λW j=>⟨j.1,j.2.1,⟨_,_,_,_,j.2.2⟩⟩) _ _ _ _ ?_;generalize(D ⟨w+1,0,none⟩ true ⟨w+1,1,none⟩ T ⟨w+1,2,none⟩ g).setCell ⟨w+1,3,none⟩ f=s at m y q hH⊢;have hH:Below w w s/\af s w 71 #[true,T,g,f]/\af s (w+1) 71 #[true,T,g,f]:=⟨y,q,m⟩;refine tk 6 ?_;refine dj ?_;go_wp2;obtain⟨a7,a2,a5,a8⟩:=cJ hH.2.2.a;exact bodyPost_ret (v:= .tuple #[.agg #[true,T,g,f],r]) (by simp[results,Tryz.results207,go_sem,a7,a2,a5,a8]) rfl ⟨_,_,_,_,_,rfl,a',hH.1⟩):P:=h
def QX (h:P:=by refine aV 14 λK o=>?_;go_simp;refine(XT m.DA m.Dn m.Dc m.ds m.NA m.Nn m.Nc m.ys m.dr m.lo a9 (gv (m.ts.set i ⟨A,u,B,ys⟩)).length a4 (gv (m.ts.set i ⟨A,u,B,ys⟩)) t 3600000 h2 g7 f1 f.drew (show eB f.drew f.drew m.DA m.Dn m.Dc m.ds from d.r.d) (show cV f.drew f.drew m.NA m.Nn m.Nc m.ys from d.r.qu) (show eZ f.drew f.drew a9 _ a4 _ from f3)).mono ?_;rintro e x ⟨a8,b,a1,a0,a2,X,S,Z,rfl,G,g,E,z,k⟩;obtain⟨j,D,rfl,y⟩:=aA.dV nX dy g;obtain⟨a3,a,J,U⟩:=bJ G (d.below ((Below.refl _ f).drew.trans k)) (show eB x x j b.length D b from⟨y,E⟩) z;have Y:=hJ (show ∀r,(r=q\/r=b1\/r=R\/r=n)->aO r j b.length from λr l W p w e=>by have c:=d.r.hr;have a5:=d.r.hl;have s:=d.r.ht;have C:=d.t.lt;have F:f<=p.block:=(g.lt p.block (by rw[w];rfl)).1;omega);have a7:=hJ (show ∀r,r<q->aO r j b.length from λr l W p w e=>by have C:=d.t.lt;have c:=d.r.lq;have F:f<=p.block:=(g.lt p.block (by rw[w];rfl)).1;omega);clear G g y E z;show K _ _;refine be o ((ax.refl q f).trans (ax.of ((Below.refl _ f).drew.trans k))) λhH=>?_;clear k;refine ts [15,16,17,18,19,20] ?_;refine aV 21 λK o=>?_;have I:=ta a.box;have a6:=a.box.frozen 10;go_simp;show K _ _;refine be o (hH.setCell 10 _) λhH=>?_;refine ts [22,23,24] ?_;refine aV 25 λK o=>?_;have L:=kJ a.box;have O:=mS a.box;have H:=nM a.box;have V:=a.box.frozen 7;have Q:=a.box.frozen 8;have N:=a.box.frozen 9;go_simp;show K _ _;refine be o (((hH.setCell 7 _).setCell 8 _).setCell 9 _) λhH=>?_;refine dj ?_;clear L O H V Q N I a6 hH;go_wp2;refine bodyPost_ret (v:= .tuple #[]) (by simp[results,Tryz.results70,go_sem]) rfl ?_;exact⟨rfl,_,a.ahI J U Y (λr l=>a7 r (a.x r l).1),Mr.agt e1 M t e3 rfl j b.length D b a1 a0 a2 X S Z a3,rfl,rfl,rfl,rfl⟩):P:=h
def zJ {α0:Type} {A0:Prop} {A1:Prop} {A2:Prop} {A3:Prop} {A4:Prop} {A5:α0->Prop} {Q:α0->Prop} (k:A0->A1->A2->A3->A4-> ∀a0:α0,A5 a0->Q a0) (h:aL (A0->A1->A2->A3->A4-> ∀a0:α0,A5 a0->Q a0)->P:=by intro z;rw[d5,d8,d9,e4]at V;rw[e4]at R Y;rw[d5,d8,d9];have g0:J<=1000:=oy;refine wp_region_held_drew (S:=λW'=>ax q a W') ry (ax.refl q a).drew (λhH=>?_);refine ts [0,1] ?_;refine tk 3 ?_ (hy:=by intro wq hSw;have b:=(hSw.aX c3 oy).cell 0;have c:=(hSw.aX c3 oy).cell 1;have d:=(hSw.aX c3 oy).cell 2;have i:=(hSw.aX c3 oy).cell 3;have e:=(hSw.aX c3 oy).cell 4;simp at b c d i e;exact bM);refine aV 2 λK o=>?_;go_simp;refine(Va e0 J d0 (L.map λx=>(⟨x.A,x.n,x.c⟩:Sl)) a.drew (aA.aij (f:=pI) (g:=λx:qj=>(⟨x.A,x.n,x.c⟩:Sl)) (show aA nl 1 a.drew a.drew e0 J d0 L from V.more (Nat.le_of_lt c2))) oy).mono ?_;exact z.o V R Y g0 hH K o):P:=h ⟨k⟩
def zz (h:P:=by injection d with C l;injection l with l E;subst C l E;go_wp2;refine cO λhH=>?_;have a9:=a.o.rd.lt;refine th [0,1,2,3,4,5,6,7,8,9,10,11] (λ_ s=>lx (bC s (bD a.o.rd)) (bC s (bL a.o.rd)) (bC s c1.o)) ?_;have a:=hJ (a.o.keep hH);generalize I.drew=b1 at a⊢;obtain⟨W,N,V⟩:=wo a.o.aX;obtain⟨S,U,O⟩:=mX a.o.aX;go_wp2;have f:=hJ (((a.o.aI b 0 "s").aI b 1 "s").aI b 2 false);obtain⟨u,z,A⟩:=mX f.o.aX;refine bodyPost_ret (v:= .tuple #[.agg #["s","s",false],(4:Int)]) (by simp[results,Tryz.results321,go_sem,u,z,A]) rfl ⟨rfl,f.o.rd,f.o.but⟩):P:=h
def RC (h:P:=by
 obtain⟨M,a0,a,I,L,q,J,D,s,y,u,B,t,z⟩:=C.at_ U;have Q:=bC b D;have N:=bC b s;have Z:=bC b y;have a3:=bC b u;have S:=bC b B;have a1:=bC b t;have O:=bC b z;have c:=Ch (λa:Ar=>decide (a.al.st≠0)) q;obtain⟨g,p⟩: ∃g,((o.take k).filter λa=>decide (a.al.st≠0))=g:=⟨_,rfl⟩;rw[p]at c r;have a2:g.length<=16:=by rw[<-p];exact cK (length_filter_le _ _) (by rw[et];omega)
 obtain⟨l,n⟩:=aq (r.alloc (.cells (kL a) 73)) (b.alloc b.size (.cells (kL a) 73));subst I;clear D s y u B t z J q p r;by_cases d:a.al.st=0;{(have i: ¬decide (a.al.st≠0)=true:=by simp[d]);(have E:(a.al.st !=0)=false:=by rw[d];rfl);rw[aG i,na]at c;have m:=hJ c;clear c i d;go_wp2;go_roundw;(case rel=>exact⟨k+1,oy,bh,by rw[m.o];exact l,n⟩);case measure=>exact cn};(have i:decide (a.al.st≠0):=by simp[d]);(have E:(a.al.st !=0):=by rw[bne_iff_ne];exact d);rw[aK i]at c;have m:=hJ c;clear c i d;(go_wp2_with(at_builtin;refine wpList_append_own _ rfl _ _ 42 rfl f 73 R _ 7 72 underlying42 W V X Y rfl dy _ _ _ bq (l.alloc _) (an (wr+1) 0) 1 1 (TR a) bq bq FG jc my oy jB ?_;intro H K w A _));(have x:K.ownsRow f 73 7 H (g++[a]).length ((g++[a]).flatMap gx):=by rw[eX,bu];exact w);have v:=(n.alloc n.size (.cells (kL a) 73)).grown A uy Ay;obtain⟨G,F⟩:=aq x v;clear w x A v;go_wp2;go_roundw;(case rel=>exact⟨k+1,oy,bh,by rw[m.o];exact G,F⟩);case measure=>exact cn):P:=h
def zS {α0:Type} {A0:Prop} {A1:Prop} {A2:Prop} {A3:Prop} {A4:Prop} {A5:Prop} {A6:α0->Prop} {A7:α0->Prop} {A8:α0->Prop} {A9:α0->Prop} {Q:α0->Prop} (k:A0->A1->A2->A3->A4->A5-> ∀a0:α0,A6 a0->A7 a0->A8 a0->A9 a0->Q a0) (h:aL (A0->A1->A2->A3->A4->A5-> ∀a0:α0,A6 a0->A7 a0->A8 a0->A9 a0->Q a0)->P:=by
 intro z;have Z:az a b6:=(Below.refl _ a).drew.trans Z;have a4:b6.ownsRow a 34 1 c9 J (L.flatMap nl):=by rw[flatMap_map]at a4;exact a4
 obtain⟨c6,d6⟩:=aq a4 Z;have f1:=Z.size;show K _ _;refine be o ((ax.refl q a).trans (ax.of Z)) λhH=>?_;refine aV 4 λK o=>?_;go_simp;have c8:=mem_of_getElem? k9;have f4:lT s.nt:=(aB.eo.1 h7).2.2.2 s.nt (mem_map.2 ⟨s,c8,rfl⟩);have e9:aH b6 b6 s.LA s.Ln s.Lc s.nt.l:=((show aH a q s.LA s.Ln s.Lc s.nt.l from b1.q.2 s c8).below (d6.mono (Nat.le_of_lt c2))).more oy;refine(abF s f4 b6 e9).mono ?_;exact z.o Z a4 c6 d6 f1 hH K o c8 f4 e9):P:=h ⟨k⟩
def SQ (h:P:=by rintro e a ⟨A',n',c',rfl,k,x,f⟩;have F:=hJ (show ∀p:ak,A'=some p->w<=p.block from λp e=>by have:=(k.1.lt p.block nP).1;have:=d.size;omega);have H:=b.lt;have n:=f.aX i oy;have m:=d.trans (f.below (B:=w) oy oy);have D:=(Below.refl a a).alloc ny (.cells #[nm,slice A' n' c'] 88);have o:=hJ (k.alloc (.cells #[nm,slice A' n' c'] 88));have u:w<g.heap.size:=oy;obtain⟨t,c,s,r⟩:=bJ (x.alloc (.cells #[nm,slice A' n' c'] 88)) (n.alloc (.cells #[nm,slice A' n' c'] 88)) (af.new a 88 #[nm,slice A' n' c']) (m.alloc (aR m.size) (.cells #[nm,slice A' n' c'] 88));have C:a<(a.alloc (.cells #[nm,slice A' n' c'] 88)).heap.size:=iy;clear i b d q k x f n m D;go_wp2;generalize World.alloc _ _=M at o t c s r C⊢;obtain⟨J,G⟩:=bE s.a;have m1:=bL t;obtain⟨N,L⟩:=bE c.f;obtain⟨I,K⟩:=bE c.a;rw[y]at m1;go_region;go_wp2;have E:=hJ ((c.ay 0 nm).ay 1 (slice A' n' c'));obtain⟨A,z⟩:=bE E.a;refine bodyPost_ret (v:=tuple #[agg #[nm,slice A' n' c'],j,l]) (by simp[results,results279,go_sem,A,z]) rfl ⟨A',n',c',rfl,?_,F,?_⟩;{exact((o.ay u nm).ay u (slice A' n' c')).nN};exact((r.setCell ny nm).setCell ny (slice A' n' c')).drew):P:=h
def DR (h:P:=by
 go_enter func219,ntmps219;go_wp2_with(at_builtin;refine wpList_append_lies _ rfl _ _ 32 rfl base 125 l _ 2 32 underlying32 k p q r rfl dy _ _ cells rfl m (d 0) 1 1 [x,y] rfl rfl ?c1 ?c2 oy ?c3 ?c4 ?c5 _ rfl ?_)
 case c1=>intro j e b;match j,b with|0,b=>(simp at b;subst b;simpa[Addr.add]using i.o.cell 0)|1,b=>(simp at b;subst b;simpa[Addr.add]using i.o.cell 1)
 case c2=>intro e c;simp at c;obtain rfl|rfl:=c<;>assumption
 case c3=>unfold maxLen;omega
 case c4=>omega
 case c5=>exact o
 intro t s u f h g n;go_wp2;go_ret;exact⟨_,rfl,f,h,g.elim (λa=> .inl a.symm) vjf⟩):P:=h
def zh (h:P:=by
 refine cO λhH=>?_;refine tg [0,1,2,3,4,5,6,7,8] (λ_ s=>gG (bC s (bD V)) (bC s (bL V))) ?_;refine aV 9 λK a=>?_;go_simp;refine mB (KX o q b4 oy _) λd c=>?_;show K _ _;refine be a (bU hH c) λhH=>?_;refine te [10,11,12] ?_;have b:=bU x hH;rw[b4.o]at a2;go_wp2;go_roundw;case rel=>exact⟨k+1,oy,by rw[a'.o,a2.o],bh,b⟩
 case measure=>exact cn):P:=h
def zX (k:T) (h:aL T->P:=by intro z;show K _ _;have a6:=bU c0 d5;have a1:=a7.below d5 a7.lt;have b7: ∀q,q<d9.heap.size->(∀y∈x.ys,aO q y.LA y.Ln)->fZ q l a H:=λq R b1=>g0 q (dS R c0.size) b1 vZt;have c7: ∀q,w.heap.size<=q-> ∀y∈x.ys,aO q y.LA y.Ln:=λq R y hy=>aO.dh (show aH _ _ _ _ _ _ from(show bp _ _ _ _ _ _ from j2).2 y hy).1 R;obtain⟨g1,e6,b8,e0,g8,e8⟩:=dN f9 f6 b7 c7 a6 a1;refine be o (a6.mono (dH h4)) λhH=>?_;obtain⟨I,L⟩:=bE a1.a;obtain⟨d',e3⟩:=bE a1.f;exact z.o a6 a1 b7 c7 g1 e6 b8 e0 g8 e8 hH I L d' e3):P:=h ⟨k⟩
def OB (h:P:=by
 rintro e K ⟨a5,rfl,m,y⟩;obtain⟨S,c4,v,I,rfl,l,w,B⟩:=m.ia;have a4:v<=2409:=by rw[w,l];first|(simp only[jb];omega)|(rw[bu];have:=C.1;have a6:=fJ t.toNat;have a7:=fJ (0:Int).toNat;have a3:=fJ (1:Int).toNat;omega)
 have U:=hJ l;clear l w;have G:=bU X y;have k:=hJ (p.below y Y);have V:=k.lt;have R:=hJ B;clear m B f c j a g n b i o d;let⟨f,c,j,a,g⟩:=fV k.a;let⟨n,b,i,o,d⟩:=fV k.f;go_wp2_with fail
 refine(jg S v c4 I t Z oy K R).mono ?_;rintro e W ⟨a1,rfl,q,r⟩;obtain⟨M,c5,E,L,rfl,u,F,x⟩:=q.ia;have J:=hJ u;clear u F;have z:=bU G r;have s:=hJ (k.below r V);have O:=hJ x;clear q x f c j a g n b i o d;let⟨f,c,j,a,g⟩:=fV s.a;let⟨n,b,i,o,d⟩:=fV s.f;go_wp2_with fail
 refine(GP M E c5 L W O).mono ?_;rintro e a2 ⟨D,rfl,A,N⟩;have Q:=hJ (nk A z.size);clear A;go_wp2;go_ret;refine⟨D,rfl,?_,bU z N⟩;rw[a0.o];have:=Q.o;rw[J.o,U.o,H.o]at this;simpa using this):P:=h
def Ab {α0:Type} {A0:α0->Prop} {A1:α0->Prop} {A2:α0->Prop} {A3:α0->Prop} {Q:α0->Prop} (k:∀a0:α0,A0 a0->A1 a0->A2 a0->A3 a0->Q a0) (h:aL (∀a0:α0,A0 a0->A1 a0->A2 a0->A3 a0->Q a0)->P:=by intro q;refine aV 11 λK o=>?_;go_simp;show K _ _;have U:f8.grownBy (f8 (an (wr+1) 0) (slice l a u) (an (wr+1) 1) C) (some (wr+1)):=kC (kC (mK _ _) 0 _) 1 _;have G:az wr (f8 (an (wr+1) 0) (slice l a u) (an (wr+1) 1) C):=((j7.trans (g8.mono j7.size)).setCell (p:=(an (wr+1) 0)) iy _).setCell (p:=(an (wr+1) 1)) iy _;refine be o ((hH.setCell (p:=(an (wr+1) 0)) iy _).setCell (p:=(an (wr+1) 1)) iy _) λhH=>?_;exact q.o K o U G hH):P:=h ⟨k⟩
def Qp (h:P:=by
 have f3:=hJ e';obtain rfl:g4=some (({m with NA:=A',Nn:=n',Nc:=c',ys:=b3,dr:=X,lo:=U}:Mr).val,0,[]):=by rw[<-i6.o];unfold Mg.send;rw[j6.o,f3.o];show some (({m.val with q:=lj m.val.q m.val.clock false}:Mg.Mn),(0:Int),([]:List Al))=_;(have j:lj m.val.q m.val.clock false=bW b3 X U:=by rw[g9.o,f3.o];rfl);rw[j];rfl
 obtain⟨e,f,c⟩:=bi c0.a;obtain⟨o,l,s⟩:=bi c0.f;go_wp2;have k:Plain a (w+1):=km c0;have i:=lz (W:=a) (g:=w+1) "" "" ();refine bodyPost_ret (v:=agg #["","",()]) (by simp[results,results42,go_sem,e,f,c]) rfl ⟨_,rfl,by(repeat(refine ax.aI ?_ iy _));exact g5,dQ.num,λy hy=>?_⟩;injection hy with hy;subst hy;have d:cD a a ({m with NA:=A',Nn:=n',Nc:=c',ys:=b3,dr:=X,lo:=U}:Mr):={b1.more (Nat.le_of_lt c2)with q:=g1};have b:=cf.of e5 (show q<=w+1 by omega);exact⟨_,((d3.aI (by simp;omega) _).aI (by simp;omega) _).aI (by simp;omega) _,rfl,d.dm k ⟨b.s,b.l,b.t,b.tt,b.d,b.o⟩ i,λr p n O t=>⟨O.s,O.l,O.t,O.tt,O.d,O.o⟩⟩):P:=h
def nD (k:T) (h:aL T->P:=by intro q;have g:=hJ (g.go F H u l ⟨rfl,rfl,rfl,rfl⟩ ⟨rfl,rfl,rfl,rfl⟩);simp only[if_true,if_false,Bool.false_eq_true]at g;exact q.o g):P:=h ⟨k⟩
def zu (h:P:=by intro wq hSw;have d:=(hSw.cell (p:=an w 0) E).trans (C.o.cell 0);have c:=(hSw.cell (p:=an w 1) E).trans (C.o.cell 1);have a:=(hSw.cell (p:=an (w+1) 0) G).trans (D.o.cell 0);have b:=(hSw.cell (p:=an (w+1) 1) G).trans (D.o.cell 1);simp at d c a b;go_simp;all_goals(with_reducible rfl)):P:=h
def yN (k:T) (h:aL T->P:=by intro q;refine cO λhH=>?_;refine tg [0,1,2,3,4,5,6,7,8,9,10] (λ_ s=>gG (bC s (bL a.o)) (bC s (bD a.o))) ?_;refine cw 11 ?_;refine cw 12 ?_;refine cw 13 ?_;refine cw 14 ?_;refine cw 15 ?_;refine cw 16 ?_;refine cw 17 ?_;refine cw 18 ?_;refine cw 19 ?_;refine cw 20 ?_;refine cw 21 ?_;refine cw 22 ?_;refine cw 23 ?_;exact q.o hH):P:=h ⟨k⟩
def Fe (k:T) (h:aL T->P:=by intro q;have U:=Wm W;have b4:=hJ (show jI ts f k ((rs++[m]).map av.bare)=R by rw[<-L.o,W,map_append];rfl);have M: ∀g,(Value.slice VA rs.length vc).ownBlock=some g->aO g m.MA m.Mn/\aO g m.LA m.Ln:=λg e=>⟨a0.off (a.own.lt g e).2,Z.off (a.own.lt g e).2⟩;obtain⟨b7,a,b2,a'⟩:=bJ (show Fr w m.MA/\Fr w m.LA from⟨λp e=>Nat.le_trans a.but.size (a0 p e),λp e=>Nat.le_trans a.but.size (Z p e)⟩) (a.step l a4 D) a7 M;have b1:C<k/\k<=n:=oy;exact q.o U b4 M b7 a b2 a' b1):P:=h ⟨k⟩
def yv (k:T) (h:aL T->P:=by intro q;have V:=e8.q h1;have V:af d4 (wr+1) 56 #[slice l a u,C]:=V;have e1:=zQ h1;have d0:bp d4 d4 l a u H:=(g1.kept U ny (λq e=>by injection e with e;subst e;exact b8 _ h4 (e0 _ oy))).more oy;have c8:=j8.later G;have d1:=d2.trans (G.mono k9);have b9:=eU i' G;have g9:=V.lt;obtain⟨O,N⟩:=bE V.a;obtain⟨d8,g2,f5,g6,e2,e'⟩:=dN d0 V c8 b9 d1 G;exact q.o V e1 d0 c8 d1 b9 g9 O N d8 g2 f5 g6 e2 e'):P:=h ⟨k⟩
def zC (h:P:=by intro wq hSw;have d:=(hSw.cell (p:=(an w 0)) J).trans (G.cell 0);have c:=(hSw.cell (p:=(an w 1)) J).trans (G.cell 1);have a:=(hSw.cell (p:=(an (w+1) 0)) O).trans (H.cell 0);have b:=(hSw.cell (p:=(an (w+1) 1)) O).trans (H.cell 1);simp at d c a b;exact bM):P:=h
def Po (h:P:=by have U:=hJ (show Mg.parse s=none by rw[G.o,<-e2.o,f6];rfl);have p:=d.o;have a:Below r E.drew C:=J.below ny (Nat.le_of_lt d.rd.lt);have e6:=d.gt;have h0:=d.pb.gt;have k:=d.pb.keep (a.mono oy);have l:bP C C i n c ts:=(d.ct.below a).more (Nat.le_trans (Nat.le_of_lt d.rd.lt) J.size);have j:=d.mz.trans (a.mono e8);refine leaves_cons (f:=108) (args:= #[pointer (some (an w 0)),pointer (some (an (w+1) 0)),pointer (some (an (w+2) 0)),pointer (some (an (w+3) 0)),pointer (some (q 0))]) iy (by simp[go_sem]) ?_;refine(ZR w q s () (m:Nat) 0 i n c ts x b1 d6 C k l []).mono ?_;rintro e u' Z ⟨rfl,rfl,⟨y,hy⟩,g,b,o⟩;exact⟨tuple #[(),y,b1],by simp[results,results60,go_sem,hy,g,b],.inr ⟨U,_,_,f2,rfl,j.trans o⟩⟩):P:=h
def SR (h:P:=by
 have M:=aaL (n:=k) J;rw[M,aK (ni ts p)]at d;injection d with C l;injection l with l E;subst C l E;have a':=hJ J;go_wp2_with fail
 have K:=sG r g n c p ts 3 _ (a.o.ct.more (dH a.o.rd.lt)) a.o.rd;rw[a'.o]at K;refine mB K λI H=>?_;have a:=hJ (a.o.keep H);go_wp2_with fail
 refine mB (wZ r g n c _ ts _ c5 a.o.rd) λd4 H=>?_;have a:=hJ (a.o.keep H);obtain⟨W,N,V⟩:=wo a.o.aX;obtain⟨S,U,O⟩:=mX a.o.aX;go_wp2;have f:=hJ (((a.o.aI b 0 "s").aI b 1 "s").aI b 2 false);obtain⟨u,z,A⟩:=mX f.o.aX;refine bodyPost_ret (v:= .tuple #[.agg #[.string (⟨#[]⟩),.string (⟨#[]⟩),.bool false],.int .i64 (fg ts (p))]) (by simp[results,Tryz.results321,go_sem,u,z,A]) rfl ⟨rfl,f.o.rd,f.o.but⟩):P:=h
def Fg {α0 α1:Type} {A0:α0->α1->Prop} {A1:α0->α1->Prop} {A2:α0->α1->Prop} {A3:α0->α1->Prop} {A4:α0->α1->Prop} {A5:α0->α1->Prop} {Q:α0->α1->Prop} (k:∀a0:α0, ∀a1:α1,A0 a0 a1->A1 a0 a1->A2 a0 a1->A3 a0 a1->A4 a0 a1->A5 a0 a1->Q a0 a1) (h:aL (∀a0:α0, ∀a1:α1,A0 a0 a1->A1 a0 a1->A2 a0 a1->A3 a0 a1->A4 a0 a1->A5 a0 a1->Q a0 a1)->P:=by intro q;have H:RS 69 #["s","s"] w r (some (z K)) n c ts (w.alloc (.cells #["s","s"] 69)) i u:=RS.start b5 d;obtain⟨E,O⟩:=xS (w.alloc (.cells #["s","s"] 69));rw[<-O]at H⊢;clear O;have a:=hJ H;clear H;refine mB (nj r _ n c i u ts 1 true a8 E a.ct a.rd) λL S=>?_;have a:=hJ (a.keep S);clear S;have m:=(a.but.cell (p:=z (K+i*3+2)) Z c0).trans d1;have M:=Nat.lt_of_lt_of_le Z a.but.size;obtain⟨m0,m1⟩:=bE a.rd.a;have l:=a.rd.lt;exact q.o E L a m M m0 m1 l):P:=h ⟨k⟩
def SX (k:T) (h:aL T->P:=by
 intro q;have b:=pG A;have H:gs.length=Fn:=a.1.1;have s:Fn<=Fc/\Fc<= "":=⟨a.1.2.1,a.1.2.2.1⟩;have O:Fn<=16:=aR b.1;have N:=l.lt;obtain⟨F,G,M,Q,L⟩:=de (cR.eM a (Mr.plain l)) a C l b.2;have o: ∀W:World,(Instr.makeSlice 27 Fn Fn).run Tryz.prog W= .ok (.slice (some ⟨W,0,none⟩) Fn Fn) (W.alloc (.cells (madeCells (eJ 0).toArray (Fn*1)) 3)):=λW=>by have:=run_makeSlice (P:=Tryz.prog) W 27 3 u _ Tryz.underlying27 U X .i64 .i64 (Fn:Nat) (Fn:Nat) oy oy (by rw[f];omega) (by rw[D];omega) oy;rw[f]at this;exact this
 have d: ∀W:World,(Instr.makeSlice 28 Fn Fn).run Tryz.prog W= .ok (.slice (some ⟨W,0,none⟩) Fn Fn) (W.alloc (.cells (madeCells (eG dt.zero).toArray (Fn*1)) 93)):=λW=>by have:=run_makeSlice (P:=Tryz.prog) W 28 93 I _ Tryz.underlying28 B R .i64 .i64 (Fn:Nat) (Fn:Nat) oy oy (by rw[c];omega) (by rw[V];omega) oy;rw[c]at this;exact this
 exact q.o b H s O N F G M Q L o d):P:=h ⟨k⟩
def Fh (h:P:=by obtain⟨a,b⟩:=aq (a.keep a2) a3;clear a2 a3;obtain⟨d3,C⟩:=bE a.aX.f;obtain⟨c3,d2⟩:=bE a.aX.a;go_wp2;have G:=hJ ((a.aI d f 0 "s").aI d f 1 "s");obtain⟨b0,a6⟩:=bE G.aX.a;refine bodyPost_ret (v:= .tuple #[.agg #["s","s"],Y]) (by simp[results,Tryz.results282,go_sem,b0,a6]) rfl (.inl ⟨(⟨#[]⟩,⟨#[]⟩),Y,b,X,rfl,G.but,_,G.rd⟩)):P:=h
def yV {α0:Type} {A0:α0->Prop} {Q:α0->Prop} (k:∀a0:α0,A0 a0->Q a0) (h:aL (∀a0:α0,A0 a0->Q a0)->P:=by intro z;have A:MS 88 #["s",()] w r g n c ts (w.alloc (.cells #["s",()] 88)) i:=⟨af.alloc e4.o _,af.new w 88 #["s",()],(ax.refl r w).alloc _,e6.o.alloc (dH q) _⟩;obtain⟨G,b⟩:=xS (w.alloc (.cells #["s",()] 88));rw[<-b]at A⊢;clear b;have a:=hJ A;clear A;exact z.o G a):P:=h ⟨k⟩
def nG (k:T) (h:aL T->P:=by intro q;go_simp;have l:=b.call b1 b2 b4 c' e' f';unfold Mr.cells Cr.cells at l;refine l.mono ?_;exact q.o l):P:=h ⟨k⟩
def vL (h:P:=by
 go_enter Tryz.func52,Tryz.ntmps52;go_wp2_with fail
 refine mE (fB _ _ Y.o _) ?_;go_wp2_with fail
 refine mE (oa _ _ a0.o _) ?_;go_wp2;go_ret;exact⟨by rw[f.o];rfl,ly⟩):P:=h
def qY (k:T) (h:aL T->P:=by intro q;refine cw 5 ?_;refine cw 6 ?_;refine cw 7 ?_;refine cw 8 ?_;refine cw 9 ?_;refine cw 10 ?_;refine cw 11 ?_;refine cw 12 ?_;exact q.o):P:=h ⟨k⟩
def EV {α0:Type} {A0:α0->Prop} {Q:α0->Prop} (k:∀a0:α0,A0 a0->Q a0) (h:aL (∀a0:α0,A0 a0->Q a0)->P:=by intro q;refine tk 0 ?_ (hy:=by intro wq hSw;have z:=hSw.2.1.cell 0;have c:=hSw.2.1.cell 1;have b:=hSw.2.1.cell 2;have a:=hSw.2.1.cell 3;simp at z c b a;exact bM);refine tk 1 ?_ (hy:=by intro wq hSw;have z:=hSw.2.1.cell 0;have c:=hSw.2.1.cell 1;have b:=hSw.2.1.cell 2;have a:=hSw.2.1.cell 3;simp at z c b a;exact bM);refine tk 2 ?_;refine tk 3 ?_;refine aV 4 λK n=>?_;go_simp;exact q.o K n):P:=h ⟨k⟩
def Ot (h:P:=by have f:=a.size;have g:=JU (s:=s) (show(xs.map (·.nm))[k]?=some p.nm by rw[dw,d];rfl);cases e:(p.nm.toList==s.toList);{have b:=hJ (ig j.o Fx);go_wp2;go_roundw;(case rel=>exact⟨k+1,oy,bh,b.o,(by repeat(first|assumption|exact Below.refl _ _|apply Mem.below_drewN|apply Below.drew|refine Below.alloc ?_ (by first|assumption|omega|(simp;done)|(simp;omega)) _|refine Below.setCell ?_ (by first|assumption|omega|(simp;done)|(simp;omega)) _))⟩);case measure=>exact cn};have c:=hJ (show aa.named (xs.map (·.nm)) s=true by unfold aa.named;rw[kM (by rw[cC,z.o];exact u) Fx];rfl);go_wp2;go_ret;exact⟨by rw[c.o];rfl,ly⟩):P:=h
def Eg (h:P:=by
 have a:a6.heap[C]?=some (.deferred (some [])):=by first |exact(E.block C uy (λe=>by have:=D e.symm;omega)).trans ((Below.heap_alloc v _ C oy).trans a9) |exact(E.block C oy (λe=>by have:=D e.symm;omega)).trans a9
 exact abD f a' (by simp[ij];omega) a (by simp at e1;omega) (f1.o) _ rfl rfl):P:=h
def yH (k:T) (h:aL T->P:=by intro q;have f3:=d8.later a5;have f1:=eU g6 a5;have c9:=g2.below a5 g9;have f':=bU e2 a5;have d3:=bU e' a5;obtain⟨O,N⟩:=bE c9.a;obtain⟨f2,d7,d6⟩:=aM (o8.trans (ZS (s:=(a2.map Se.val,os.map Tr.val,E)) l' vZv f0)) g4 f4;have g5:h3<=a8.heap.size:=vXn;have h7:=a5.size;exact q.o f3 f1 c9 f' d3 O N f2 d7 d6 g5 h7):P:=h ⟨k⟩
def SU (h:P:=by rintro e w' ⟨rfl,rfl⟩;obtain⟨b',b8,a8,b6⟩:=cJ a7.f;obtain⟨b4,b9,b2,b7⟩:=cJ a7.a;go_wp2;have b3:=f0.o;have J:=(((a7.ay 0 "s").ay 1 ()).ay 2 "").ay 3 "";obtain⟨M,K,L,N⟩:=cJ J.a;refine bodyPost_ret (v:= .tuple #[.agg #["s",(),"",""],((H:Nat)),(fg ts H)]) (by simp[results,Tryz.results257,go_sem,M,K,L,N]) rfl ⟨none,0,0,rfl,qA _,(λp e=>by cases e),(by repeat(first|assumption|exact Below.refl _ _|apply Mem.below_drewN|apply Below.drew|refine Below.alloc ?_ (by first|assumption|omega|(simp;done)|(simp;omega)) _|refine Below.setCell ?_ (by first|assumption|omega|(simp;done)|(simp;omega)) _))⟩):P:=h
def eL (k:T) (h:aL T->P:=by intro q;show K _ _;refine be o hH λhH=>?_;exact q.o hH):P:=h ⟨k⟩
def RL {α0:Type} {A0:Prop} {A1:Prop} {A2:Prop} {A3:Prop} {A4:Prop} {A5:Prop} {A6:Prop} {A7:Prop} {A8:Prop} {A9:α0->Prop} {A10:α0->Prop} {A11:α0->Prop} {A12:α0->Prop} {A13:α0->Prop} {A14:α0->Prop} {A15:α0->Prop} {A16:α0->Prop} {A17:α0->Prop} {A18:α0->Prop} {A19:α0->Prop} {Q:α0->Prop} (k:A0->A1->A2->A3->A4->A5->A6->A7->A8-> ∀a0:α0,A9 a0->A10 a0->A11 a0->A12 a0->A13 a0->A14 a0->A15 a0->A16 a0->A17 a0->A18 a0->A19 a0->Q a0) (h:aL (A0->A1->A2->A3->A4->A5->A6->A7->A8-> ∀a0:α0,A9 a0->A10 a0->A11 a0->A12 a0->A13 a0->A14 a0->A15 a0->A16 a0->A17 a0->A18 a0->A19 a0->Q a0)->P:=by
 intro z;have a':az b2 f2:=(Below.refl _ b2).drew.trans a';obtain⟨g9,g7,i0⟩:=aM k5 k7 a';have g6:=b7.below a' b7.lt;have a8:=hJ g6;have h9:f2.cell? ⟨q,1,none⟩=(m.ck:ai):=by have:=g6.cell 1;simp[Mr.cells]at this;exact this
 have h1:=hJ h9;have j1:=a'.size;show K _ _;refine be o ⟨(ax.refl q b2).trans (ax.of a'),h1⟩ λhH=>?_;refine ts [14,15,16] ?_;refine aV 17 λK o=>?_;have d7:=kJ a8;have e2:=mS a8;have d1:=nM a8;have j5:=a8.frozen 7;have j8:=a8.frozen 8;have i':=a8.frozen 9;have c1:=((a8.ay 7 (slice A' n' c')).ay 8 X).ay 9 U;have d:=(((((ax.refl q b2).trans (ax.of i0)).setCell 7 (slice A' n' c')).setCell 8 X).setCell 9 U);have e1:=(((ax.refl q f2).setCell 7 (slice A' n' c')).setCell 8 X).setCell 9 U;go_simp;show K _ _;refine be o ⟨d,by have:=c1.cell 1;simp[Mr.cells]at this;exact this⟩ λhH=>?_;refine dj ?_;exact z.o a' g9 g7 i0 g6 a8 h9 h1 j1 K o d7 e2 d1 j5 j8 i' c1 d e1 hH):P:=h ⟨k⟩
def Qz (k:T) (h:aL T->P:=by intro z;obtain⟨g3,f0,g2,i9,i8⟩:=aA.at_ b1.o.o (show 0<m.On by omega);rw[g2]at f';have e6:decide (1000<=m.On):=decide_eq_true f7;have d4:decide ((1000:Int)<=m.On):=decide_eq_true oy;have j7:(1:Int)<=m.On:=oy;have g':=b1.o.o;rw[g2]at g';obtain⟨V,R⟩:=aq (show aA nl 1 a q (some ⟨g3,f0+1,none⟩) (m.On-1) (m.Oc-1) (m.os.drop 1)from g'.drop (k:=1) oy) (show ∀x∈m.os.drop 1,aY a q x.A x.n x.c x.bs from λx b=>b1.oo x (mem_of_mem_drop b));have Y:=hJ (show(m.os.drop 1).map (·.bs)=if 1000<=m.val.out.length then m.val.out.drop 1 else m.val.out by show(m.os.drop 1).map (·.bs)=if 1000<=(m.os.map (·.bs)).length then(m.os.map (·.bs)).drop 1 else m.os.map (·.bs);rw[if_pos (show 1000<=(m.os.map (·.bs)).length by rw[length_map,k1.o.1];exact f7)];exact map_drop);exact z.o g3 f0 g2 i9 i8 f' e6 d4 j7 g' V R Y):P:=h ⟨k⟩
def Ts (h:P:=by
 go_enter func118,ntmps118;go_wp2_with(at_builtin;refine wpList_append_own _ rfl _ _ 26 rfl base 107 t _ 2 48 underlying26 s z A B rfl dy _ _ cells rfl o.o (f 0) 1 1 [x,y] rfl rfl ?c1 ?c2 ?c3 ?c4 ?c5 ?_)
 case c1=>intro j m a;match j,a with|0,a=>(simp at a;subst a;simpa[Addr.add]using l.o.cell 0)|1,a=>(simp at a;subst a;simpa[Addr.add]using l.o.cell 1)
 case c2=>intro m d;simp at d;obtain rfl|rfl:=d<;>assumption
 case c3=>unfold maxLen;omega
 case c4=>omega
 case c5=>exact i
 intro C D p r _;go_wp2;go_ret;exact⟨_,rfl,p,aN.grown r i (λk e=>dX.qN o.o e)⟩):P:=h
def SP (h:P:=by go_wp2;have V:az w ((((X (an (w+1) 0) () (an (w+1) 1) false).setCell (an (w+1) 2) "").setCell (an (w+1) 3) "").setCell (an (w+1) 4) ""):=(by(repeat(refine Below.setCell ?_ iy _));exact a4);clear e j R g L B q I J N z t x m l O;generalize b1:World.setCell _ _ _=c' at V⊢;have S:=U.q b1;simp only[gS]at S;obtain⟨b7,b2,b3,b8,a5⟩:=fV S.a;obtain⟨d9,d2,d7,e0,e1⟩:=fV S.f;refine bodyPost_ret (v:=tuple #[agg #[(),false,"","",""],false]) (by simp[results,results71,go_sem,b7,b2,b3,b8,a5]) rfl ⟨_,_,_,_,_,_,_,_,rfl,by rw[a2.o];exact rfl,V⟩):P:=h
def vq (h:P:=by intro j a1 a;match j,a with|0,a=>(simp at a;subst a;simp[Addr.add])|1,a=>(simp at a;subst a;simp[Addr.add])|2,a=>(simp at a;subst a;simp[Addr.add])):P:=h
def gh {α0 α1:Type} {A0:α0->Prop} {A1:α0->α1->Prop} {Q:α0->α1->Prop} (k:∀a0:α0,A0 a0-> ∀a1:α1,A1 a0 a1->Q a0 a1) (h:aL (∀a0:α0,A0 a0-> ∀a1:α1,A1 a0 a1->Q a0 a1)->P:=by intro q;generalize G:w.alloc _=H;generalize C:H.alloc _=u;exact q.o H G u C):P:=h ⟨k⟩
def pV {α0:Type} {A0:Prop} {A1:α0->Prop} {A2:α0->Prop} {Q:α0->Prop} (k:A0-> ∀a0:α0,A1 a0->A2 a0->Q a0) (h:aL (A0-> ∀a0:α0,A1 a0->A2 a0->Q a0)->P:=by intro q;have g:=Bb nm A n c ms F r;rw[U.o]at g;refine mB g λE e=>?_;have G:=hJ (a.trans (e.mono j));exact q.o g E e G):P:=h ⟨k⟩
def pZ (h:P:=by go_ret;refine⟨_,rfl,by simpa using g,?_⟩;exact(aN.alloc ny _).grown i iy vQg):P:=h
def vU (k:T) (h:aL T->P:=by intro q;unfold Oper.wp execOp;simp only[L,resolve,invoke,builtin,Sem.run_bind,Sem.run_pure,Result.andThen_ok,map_toArray,map_cons,map_nil,F,J,g];exact q.o):P:=h ⟨k⟩
def El (h:P:=by go_wp2;go_ret;exact⟨by rw[H.o];rfl,(by repeat(first|assumption|exact Below.refl _ _|apply Below.drewN|apply Below.drew|refine Below.alloc ?_ (by first|assumption|omega|(simp;done)|(simp;omega)) _|refine Below.setCell ?_ (by first|assumption|omega|(simp;done)|(simp;omega)) _))⟩):P:=h
def RI (k:T) (h:aL T->P:=by intro z;have h5:=(g7.kept e1.eH ny (λr e=>by injection e with e;subst e;exact cV.eM g7 (Mr.plain a8))).more e1.size;have h6:Below q w a:=(a6.mono (Nat.le_of_lt N)).trans ⟨d.os,d.tape,d.output,d.size,λi i1=>d.block i oy oy⟩;have a7:ax q w a:=⟨d.os.trans a6.os,d.tape.trans a6.tape,d.output.trans a6.output,by have:=d.size;have:=a6.size;omega,λk b c=>(d.block k (aR a6.o.size) c).trans (a6.block k b)⟩;obtain⟨d3,g5,b1,g1,c3,c0,h0⟩:=jx (show af a q 82 ({m with NA:=A',Nn:=n',Nc:=c',ys:=b3,dr:=X,lo:=U}:Mr).cells from c1) a7 (e5.below h6) h5 (d.aX h' oy) (d.aX d2 oy) (d.aX f9 oy);have j0:=d.size;have c2:=c1.lt;have h2:=c0.lt;have i4:=jA h0;exact z.o h5 h6 a7 d3 g5 b1 g1 c3 c0 h0 j0 c2 h2 i4):P:=h ⟨k⟩
def yu (h:P:=by
 go_wp2;go_ret;obtain rfl:n=0:=by obtain a|a:=jY n;{exact a};let⟨_,_,e,_⟩:=aA.at_ b a;cases e
 have c:=je b.1;subst c;exact⟨_,rfl,World.ownsRow_nil _ _ _ _,aN⟩):P:=h
def zj (k:T) (h:aL T->P:=by intro z;have m:=(s.ay 0 (slice l j c1));have b:f.grownBy (f (q 0) (slice l j c1)) (some q):=fH f q 0 _;have g:w.grownBy f (some q):=nV a _;refine⟨v,rfl,g.trans b,?_,f,a,b,y⟩;exact z.o m b g):P:=h ⟨k⟩
def lX (k:T) (h:aL T->P:=by intro q;go_simp;show K _ _;refine be o (hH.alloc hH.size _) λhH=>?_;exact q.o hH):P:=h ⟨k⟩
def EQ (k:T) (h:aL T->P:=by intro q;have b:=af.new w 123 #[slice LA Ln Lc,c,t,a,next];have u:=a7.o.alloc (.cells #[slice LA Ln Lc,c,t,a,next] 123);have n:=B.o.alloc (.cells #[slice LA Ln Lc,c,t,a,next] 123);have r:=H.o.alloc (.cells #[slice LA Ln Lc,c,t,a,next] 123);have c5:=u.cell 0;have d:=n.cell 0;have c4:=r.cell 0;exact q.o b u n r c5 d c4):P:=h ⟨k⟩
def OF (k:T) (h:aL T->P:=by intro q;refine tk 14 ?_ (hy:=by intro wq hSw;have m0:=(hSw.cell (p:=r 0) d).trans (a.o.cell 0);simp at m0;go_simp;all_goals(with_reducible rfl));refine tk 15 ?_;refine tk 16 ?_;refine tk 17 ?_;refine tk 18 ?_ (hy:=by intro wq hSw;have m1:=(hSw.cell (p:=r 1) d).trans (a.o.cell 1);simp at m1;go_simp;all_goals(with_reducible rfl));refine tk 19 ?_;refine tk 20 ?_;refine tk 21 ?_ (hy:=by intro wq hSw;have c:=(hSw.cell (p:=b (H+i*3)) C).trans R.o;go_simp;all_goals(with_reducible rfl));refine te [22,23,24] ?_;exact q.o):P:=h ⟨k⟩
def yE {α0:Type} {A0:α0->Prop} {A1:α0->Prop} {Q:α0->Prop} (k:∀a0:α0,A0 a0->A1 a0->Q a0) (h:aL (∀a0:α0,A0 a0->A1 a0->Q a0)->P:=by intro q;refine aV 10 λK o=>?_;go_simp;have b2:=bU k8 c0;refine(pz x.A x.n x.c x.ys x.full F i4 i1 h' i9 t r.fo r.ke i2 (p3.below b2) ((show bp _ _ _ _ _ _ from j2).later b2) e9).mono ?_;exact q.o K o b2):P:=h ⟨k⟩
def aiL (h:P:=by have a:=hJ (a.o.step q u d b);clear d b;simp only[if_true,if_false,Bool.false_eq_true]at a;obtain⟨S,O⟩:=qh a.o.dL;obtain⟨N,R⟩:=fR a.o.dL;obtain⟨U,c1⟩:=fR a.o.bI;go_wp2;obtain⟨y,L,K⟩:=a.o.aI q u x ();obtain⟨d',d8,d7,a2,a6⟩:=a.o.nN q u x ();cases a2;obtain⟨I,H⟩:=fR L;refine bodyPost_ret (v:= .tuple #[.agg #[x,()],""]) (by simp[results,Tryz.results304,go_sem,I,H]) rfl ⟨_,_,_,rfl,a6,y,K⟩):P:=h
def Sd (h:P:=by go_enter func277,ntmps277;go_wp2;refine cO λhH=>?_;refine tk 0 ?_;refine tk 1 ?_;refine aV 2 λK a=>?_;go_simp;refine mB (nj r (some (B E)) n c i u ts k true q.o _ ((y.o.below hH).more hH.size) (f.o.below hH v)) λG g=>?_;show K _ _;refine be a (bU hH g) λhH=>?_;refine th [3,4,5,6,7,8,9,10,11,12,13,14,15,16,17,18] (λ_ s=>lx (bC s (bD f.o)) (bC s (bL f.o)) (bC s D.o)) ?_;go_wp2;go_ret;exact⟨rfl,hH⟩):P:=h
def RB (k:T) (h:aL T->P:=by intro q;have O:=(m.cell (p:=(C (B+j*8))) D).trans (a j r o 0 _ rfl);have M:=(m.cell (p:=(C (B+j*8+1))) D).trans (a j r o 1 _ rfl);have N:=(m.cell (p:=(C (B+j*8+2))) D).trans (a j r o 2 _ rfl);have S:=(m.cell (p:=(C (B+j*8+3))) D).trans (a j r o 3 _ rfl);have G:=(m.cell (p:=(C (B+j*8+4))) D).trans (a j r o 4 _ rfl);have U:=(m.cell (p:=(C (B+j*8+5))) D).trans (a j r o 5 _ rfl);have H:=(m.cell (p:=(C (B+j*8+6))) D).trans (a j r o 6 _ rfl);have L:=(m.cell (p:=(C (B+j*8+7))) D).trans (a j r o 7 _ rfl);have E:=hJ o;exact q.o O M N S G U H L E):P:=h ⟨k⟩
def Pj (k:T) (h:aL T->P:=by intro q;refine ts [0,1,2,3,4] ?_;refine tk 5 ?_ (hy:=by intro wq hSw;obtain⟨cs,a,J,c,d,b⟩:=hSw.2;have z:=(a.cell 0).trans J;exact bM);refine ts [6,7,8,9] ?_;refine tk 10 ?_ (hy:=by intro wq hSw;obtain⟨cs,a,J,c,d,b⟩:=hSw.2;have z:=(a.cell 1).trans c;exact bM);refine ts [11,12,13,14] ?_;refine tk 15 ?_ (hy:=by intro wq hSw;obtain⟨cs,a,J,c,d,b⟩:=hSw.2;have z:=(a.cell 12).trans d;have e:=(a.cell 13).trans b;exact bM);refine ts [16,17,18] ?_;exact q.o):P:=h ⟨k⟩
def Qf (h:P:=by
 rw[if_pos d4.o]at V;go_wp2_with(at_delete;refine Up _ rfl _ _ 301 9 rfl 73 (Maps.string_keyed underlying9) underlying301 Value.string kH (λx y g=>by injection g) o _ rfl f0 key rfl _ a' ?_;intro h a c f)
 obtain⟨d,b⟩:=aq (d5.grown c (aR d5.o.size) (λq e=>by injection e with e;omega)) a;go_wp2;go_roundw;case rel=>exact⟨k+1,oy,bh,by rw[V.o];exact b,d⟩
 case measure=>exact cn):P:=h
def Es (k:T) (h:aL T->P:=by intro q;go_simp;refine(aeQ r A n c C FA Fn Fc ts m3 i5 d0 VA rs.length vc rs b3.drew (g0.but a.but) d2 (λ_ p e=>by have:=(a.own.lt p.block (by rw[e];rfl)).1;have:=a.gt;omega) (H.kF a.but (Nat.le_of_lt l)) a.rd).mono ?_;exact q.o):P:=h ⟨k⟩
def zT (h:P:=by refine⟨l,j,c1,0,m,rfl,?_,u.trans d⟩;have a:=p.narrow z;have c:=(Below.refl base w).grown (g.trans b) oy rz;exact a.below c):P:=h
def pW (h:P:=by rintro e w' ⟨a,rfl,rfl,b⟩;go_wp2;go_ret2;exact⟨rfl,rfl⟩):P:=h
def PZ (h:P:=by rintro e p (⟨l,k,d,rfl,b,n⟩|⟨g,f,rfl,j,b⟩);{let⟨m,c,o⟩:=aM k d n;show K _ _;refine be a (hH.trans b) λhH=>?_;refine te [6] ?_;go_wp2;go_ret;exact .inl ⟨l,m,c,rfl,hH,o⟩};let⟨c,i⟩:=aq f j;show K _ _;refine be a (hH.trans b) λhH=>?_;refine te [6] ?_;go_wp2;go_ret;exact .inr ⟨g,c,rfl,i,hH⟩):P:=h
def sR (k:T) (h:aL T->P:=by intro q;refine cO λhH=>?_;refine th [0,1,2,3,4,5,6,7,8,9] (λ_ s=>gG (bC s (bL a.o)) (bC s (bD a.o))) ?_;exact q.o hH):P:=h ⟨k⟩
def vF (h:P:=by have:=congrArg (λl=>l[k]?) N;simp only[dw,p,q,Option.map_some,Option.some.injEq]at this;exact this):P:=h
def yt (k:T) (h:aL T->P:=by intro q;have g:decide ((65:Int)<=c.toNat):=gI;have n:decide ((c.toNat:Int)<=90)=false:=gI;have d:decide ((48:Int)<=c.toNat):=gI;have f:decide ((c.toNat:Int)<=57)=false:=gI;exact q.o g n d f):P:=h ⟨k⟩
def qU (h:P:=by intro j u a;match j,a with|0,a=>(simp at a;subst a;simp[Addr.add])):P:=h
def SK {α0:Type} {A0:Prop} {A1:α0->Prop} {A2:α0->Prop} {A3:α0->Prop} {A4:α0->Prop} {Q:α0->Prop} (k:A0-> ∀a0:α0,A1 a0->A2 a0->A3 a0->A4 a0->Q a0) (h:aL (A0-> ∀a0:α0,A1 a0->A2 a0->A3 a0->A4 a0->Q a0)->P:=by intro y;refine wp_region_held_drew (S:=λW'=>ax q b2 W'/\W'.cell? ⟨q,1,none⟩=(m.ck:ai)) ry ⟨(ax.refl q b2).drew,by have:=b7.drew.cell 1;simp[Mr.cells]at this;exact this⟩ (λhH=>?_);refine ts [0,1,2,3,4,6,7,8,9] ?_;refine tk 10 ?_ (hy:=by intro wq hSw;have z:=hSw.2;exact bM);refine tk 11 ?_;refine tk 12 ?_ (hy:=by intro wq hSw;have z:=(hSw.1.aX f9 oy).cell 6;simp at z;exact bM);refine aV 5 λK o=>?_;have d7:=kJ b7;have e2:=mS b7;have d1:=nM b7;go_simp;exact y.o hH K o d7 e2 d1):P:=h ⟨k⟩
def NY (k:T) (h:aL T->P:=by intro q;have e6:decide (1000<=m.On)=false:=decide_eq_false f7;have d4:decide ((1000:Int)<=m.On)=false:=decide_eq_false oy;obtain⟨V,R⟩:=aq b1.o.o b1.oo;have Y:=hJ (show m.os.map (·.bs)=if 1000<=m.val.out.length then m.val.out.drop 1 else m.val.out by show m.os.map (·.bs)=if 1000<=(m.os.map (·.bs)).length then(m.os.map (·.bs)).drop 1 else m.os.map (·.bs);rw[if_neg (show ¬1000<=(m.os.map (·.bs)).length by rw[length_map,k1.o.1];exact f7)];);exact q.o e6 d4 V R Y):P:=h ⟨k⟩
def tj (k:T) (h:aL T->P:=by intro q;refine mB (Mo r g n c i ts 0 a3.o x d0.o.symm (i+1) rfl G a.o.ct a.o.rd) ?_;exact q.o):P:=h ⟨k⟩
def vO {α0:Type} {A0:α0->Prop} {A1:α0->Prop} {Q:α0->Prop} (k:∀a0:α0,A0 a0->A1 a0->Q a0) (h:aL (∀a0:α0,A0 a0->A1 a0->Q a0)->P:=by intro q;refine mB (Xe r.sn r.MA r.Mn r.Mc r.ms r.op r.v _ S j ((x.1.below a).more n)) λl c=>?_;have d:=bU a c;exact q.o l c d):P:=h ⟨k⟩
def yr (k:T) (h:aL T->P:=by intro q;have f:=V.o;simp only[zD,Value.tuple.injEq,toArray_inj,Array.mk.injEq,List.cons.injEq,Value.int.injEq,Value.bool.injEq,true_and,and_true]at f;exact q.o f):P:=h ⟨k⟩
def Qx (h:P:=by
 obtain rfl:b=false:=h8;obtain rfl:g4=none:=by rw[<-i6.o];unfold Mg.send;rw[j6.o]
 obtain⟨d,e,c⟩:=bi d2.a;obtain⟨f,i,g⟩:=bi d2.f;go_wp2;refine bodyPost_ret (v:=agg #[(11:Int),"",()]) (by simp[results,results42,go_sem,d,e,c]) rfl ⟨_,rfl,by(repeat(refine ax.aI ?_ iy _));exact ax.of a6,dQ.bad dy,λx a=>by cases a⟩):P:=h
def Qw (k:T) (h:aL T->P:=by intro q;have Y:=z.o.result (0,0) false;have H:=(((KeepsOthers.setCell W (an (w+1+1) 0) "").trans (KeepsOthers.setCell _ (an (w+1+1) 1) "")).trans (KeepsOthers.setCell _ (an (w+1+1+1) 0) false)).same b2 _ B rfl;refine⟨iy,.inl ⟨_,_,rfl,run_takeDeferred H,?_⟩⟩;have j:=(uG w t f (λ(_:Unit)=>(0,0)) (λ_=>false) _ ny).putObj (s:=()) (.deferred none) Y vZf H rfl;refine⟨_,IC j _ rfl rfl,?_⟩;exact q.o Y H j):P:=h ⟨k⟩
def St (k:T) (h:aL T->P:=by intro q;have d0: ∀k,k<b3.heap.size->base<=k->fq k a4 m ys->fq k W m3 d6:=λk h6 j0 i5=>j5 k h6 i5 (n6 k j0);obtain⟨a3,e0,d4⟩:=aM d0 a8 (k1.grown n iy);have c1:=eU g5 f8;obtain⟨b2,d8,c0⟩:=aM (c1.kept n (.inr (qv c1 c9 dy))) ((j6.kept n ny (λk e=>by injection e with e;subst e;exact a3 _ oy e9 (fq.of g' ny))).more n.size) (show az w a5 from(bU r f8).grown n (bU r f8).size (λk e=>by injection e with e;omega));exact q.o d0 a3 e0 d4 c1 b2 d8 c0):P:=h ⟨k⟩
def oU (k:T) (h:aL T->P:=by intro z;intro p q b c _;have a:=(E.alloc V _).grown c uy vQr;clear c;exact z.o p q b a):P:=h ⟨k⟩
def PR (h:P:=by simp only[g,length_cons,length_nil];rw[if_pos iy,Option.isSome_map];refine mapM_some _ _ λf j=>?_;simp at j;obtain rfl|rfl:=j;{simp only[c,drop_zero,take_succ_cons,take_zero];exact Lx d a e};simp only[c,drop_succ_cons,drop_zero,take_succ_cons,take_zero];exact Lx d b i):P:=h
def yJ (h:P:=by obtain⟨g,a'⟩:=aq (g.keep l) I;clear l I m;go_wp2;go_ret;exact .inl ⟨U,a',B,rfl,g.but,_,_,g.rd⟩):P:=h
def oP (k:T) (h:aL T->P:=by intro q;refine cO λhH=>?_;refine tk 0 ?_;refine tk 1 ?_;refine tk 2 ?_;exact q.o hH):P:=h ⟨k⟩
def Oo (h:P:=by
 go_wp2;go_roundw;case rel=>exact⟨k+1,oy,bh,s.o,(by repeat(first|assumption|exact Below.refl _ _|apply Below.drewN|apply Below.drew|refine Below.alloc ?_ (by first|assumption|omega|(simp;done)|(simp;omega)) _|refine Below.setCell ?_ (by first|assumption|omega|(simp;done)|(simp;omega)) _))⟩
 case measure=>simp[intOf];omega):P:=h
def nz (h:P:=by go_wp2;go_ret;exact⟨by rw[m.o];rfl,ly⟩):P:=h
def vA {α0:Type} {A0:α0->Prop} {A1:α0->Prop} {A2:α0->Prop} {A3:α0->Prop} {A4:α0->Prop} {A5:α0->Prop} {A6:α0->Prop} {A7:α0->Prop} {Q:α0->Prop} (k:∀a0:α0,A0 a0->A1 a0->A2 a0->A3 a0->A4 a0->A5 a0->A6 a0->A7 a0->Q a0) (h:aL (∀a0:α0,A0 a0->A1 a0->A2 a0->A3 a0->A4 a0->A5 a0->A6 a0->A7 a0->Q a0)->P:=by intro q;refine yA λj b a m n=>?_;refine mE (fB _ _ O _) ?_;have g:=b.cell 1;have f:=b.cell 2;have i:=b.cell 3;have e:=b.cell 4;exact q.o j b a m n g f i e):P:=h ⟨k⟩
def zL (h:P:=by intro j u a;match j,a with|0,a=>(simp at a;subst a;simp[Addr.add])|1,a=>(simp at a;subst a;simp[Addr.add])):P:=h
def yY (h:P:=by rw[getElem?_drop,<-s,getElem?_take]at d;split at d;{rw[<-d,Array.getElem?_toList]};cases d):P:=h
def QR (k:T) (h:aL T->P:=by intro q;have b0:=IT c0;obtain⟨a3,Y,d,a1⟩:=bJ (show kP ts f k ((gs++[g]).map aZ.bare)=R by rw[<-e2.o,c0,map_append];rfl) (show ∀b,(Value.slice FA gs.length Fc).ownBlock=some b->kw b g from λb e=>⟨e7.off (d.own.lt b e).2,λc a=>⟨(c9 c a).1.off (d.own.lt b e).2,(c9 c a).2.off (d.own.lt b e).2⟩⟩) (d.step e9 J) d1;have a0:j<k/\k<=n:=oy;show K _ _;refine be o d.mz λhH=>?_;exact q.o b0 a3 Y d a1 a0 hH):P:=h ⟨k⟩
def yz (h:P:=by
 go_wp2;go_roundw;case rel=>exact⟨E,aR r.o,rfl,bU a hH⟩
 case measure=>have:=r.o;simp[intOf];omega):P:=h
def zm (h:P:=by
 rintro e w' ⟨rfl,rfl⟩;go_wp2;go_roundw;case rel=>exact⟨_,_,rfl,K.o⟩
 case measure=>simp[intOf];omega):P:=h
def Rx (h:P:=by go_enter Tryz.func198,Tryz.ntmps198;go_wp2;refine cO λhH=>?_;refine th [0,1,2,3,4,5,6,7,8,9,10,11,12,13,14,15,16,17,18,19,20,21,22,23,24,25,26,27,28,29,30,31,32,33,34,35,36,37,38,39,40] (λ_ s=>FH (bC s (bL a.o)) (bC s (bD a.o)) (bC s D.o) (bC s H.o)) ?_;go_wp2;go_ret;exact⟨rfl,hH⟩):P:=h
def pX (h:P:=by rw[UInt8.le_iff_toNat_le,UInt8.toNat_ofNat'];omega):P:=h
def PN (k:T) (h:aL T->P:=by intro z;have d6:=(g0.eD b8 a);have a9:=hJ d6;have a2:Below q w d:=⟨a.os.trans l.os,a.tape.trans l.tape,a.output.trans l.output,aR l.o.size,λi f0=>(a.block i FJ oy).trans (l.block i oy)⟩;have Z:=hJ a2;have b3:=((e9.fresh).below a2).more (show q<=d by have:=j.lt;omega);have f2:=hJ b3;have e5:=j.lt;have J:=j.cell 0;simp[Mr.cells,Mr.fresh]at J;have N:=hJ (show cR d d m.FA m.Fn m.Fc m.gs from b3.f);exact z.o d6 a9 a2 Z b3 f2 e5 J N):P:=h ⟨k⟩
def SF (h:P:=by have a:m.ls[i]?=some (m.ls[i]'(by rw[a3];exact(bZ.1 E).1)):=br _;have:=(U.g.ok i (aZ.bare g) _ (x.xs.map Tr.val) (by show(m.gs.map aZ.bare)[i]?=_;rw[dw,E];rfl) a (by show(m.ts.map _)[i]?=_;rw[dw,u];rfl)).2.2.1;rw[cC]at this;rw[this];show(g.rs.map av.bare).length=_;rw[cC]):P:=h
def Pd {α0 α1:Type} {A0:α0->Prop} {A1:α0->Prop} {A2:α0->α1->Prop} {A3:α0->α1->Prop} {Q:α0->α1->Prop} (k:∀a0:α0,A0 a0->A1 a0-> ∀a1:α1,A2 a0 a1->A3 a0 a1->Q a0 a1) (h:aL (∀a0:α0,A0 a0->A1 a0-> ∀a1:α1,A2 a0 a1->A3 a0 a1->Q a0 a1)->P:=by intro q;refine cO λhH=>?_;refine tk 0 ?_;refine aV 1 λK a=>?_;go_simp;have d:=sG r (some (y N)) n c i ts 4 _ ((H.o.below hH).more hH.size) (l.o.below hH o);rw[G.o]at d;refine mB d λz g=>?_;show K _ _;refine be a (bU hH g) λhH=>?_;refine th [2,3,4,5,6,7,8,9,10,11,12,13,14,15,16,17] (λ_ s=>lx (bC s (bD l.o)) (bC s (bL l.o)) (bC s M.o)) ?_;exact q.o K a d z g hH):P:=h ⟨k⟩
def Er (h:P:=by
 go_enter Tryz.func105,Tryz.ntmps105;go_wp2_with(go_at_call 145;refine(aby _ _).mono ?_;rintro e w' ⟨rfl,rfl⟩)
 go_ret;exact⟨rfl,rfl⟩):P:=h
def nK (k:T) (h:aL T->P:=by intro q;refine mE (xh _ c false _ rfl f) ?_;exact q.o):P:=h ⟨k⟩
def PG (k:T) (h:aL T->P:=by intro z;have U:=f.aX g7 oy;have A:=hJ U;have X:=Z.trans ⟨f.os,f.tape,f.output,f.size,λi f0=>f.block i (aR Z.o.size) oy⟩;have a3:=IR (((e9.fresh).below X).more (show q<=I by have:=f.size;omega)) ((N.kept f.eH ny (λr e=>by injection e with e;subst e;exact cR.eM N (Mr.plain b7))).more f.size) h9 g4 V;exact z.o U A X a3):P:=h ⟨k⟩
def Qi (h:P:=by refine cw 26 ?_;refine cw 27 ?_;refine cw 28 ?_;refine cw 29 ?_;refine cw 30 ?_;refine cw 31 ?_;refine cw 32 ?_;refine cw 33 ?_;refine cw 34 ?_;refine cw 35 ?_;refine cw 36 ?_;refine cw 37 ?_;refine cw 38 ?_;refine te [39,40] ?_;go_wp2;go_ret;exact⟨rfl,hH⟩):P:=h
def ES {α0:Type} {A0:Prop} {A1:α0->Prop} {A2:α0->Prop} {A3:α0->Prop} {Q:α0->Prop} (k:A0-> ∀a0:α0,A1 a0->A2 a0->A3 a0->Q a0) (h:aL (A0-> ∀a0:α0,A1 a0->A2 a0->A3 a0->Q a0)->P:=by
 intro z;have q:decide (0<k):=bG oy;obtain⟨l,p⟩: ∃y,k=y+1:=⟨k-1,oy⟩;have M:IntKind.i64.wrap ((k:Int)-1)=((l:Nat):Int):=by rw[show(k:Int)-1=((l:Nat):Int)by omega];exact fA _ oy
 have v:l<n:=oy;exact z.o q l p M v):P:=h ⟨k⟩
def qX (k:T) (h:aL T->P:=by intro q;refine mE (rZ _ c false _ rfl l) ?_;have b:=i.o;have a:=g.o;exact q.o b a):P:=h ⟨k⟩
def OK (h:P:=by have Y:decide (k<n)=false:=bj t;obtain rfl:k=n:=oy;rw[adl u.o (by rw[o.o];exact S),o.o]at b;clear E;by_cases a:k<m;{rw[aK a]at b;subst b;go_wp2;go_ret;exact⟨rfl,f⟩};rw[aG a]at b;subst b;go_wp2;go_ret;exact⟨rfl,f⟩):P:=h
def nH (k:T) (h:aL T->P:=by intro q;have b:=hJ r;show K _ _;refine be f b.b λhH=>?_;exact q.o b hH):P:=h ⟨k⟩
def oS (k:T) (h:aL T->P:=by intro q;refine tk 9 ?_;refine tk 10 ?_;refine tk 11 ?_;exact q.o):P:=h ⟨k⟩
def yL (k:T) (h:aL T->P:=by intro q;go_simp;refine(agD b3 a4 c4 a2 r t o9 d9.drew (l1.later g') ((n6.later k8).later g')).mono ?_;exact q.o):P:=h ⟨k⟩
def pR (h:P:=by go_wp2;go_ret;exact⟨by rw[f.o];rfl,D⟩):P:=h
def vN (k:T) (h:aL T->P:=by
 intro q;have v:=b.1.1;have I:=g.1.1;have j:n=m:=by have:=congrArg length e;rw[cC,cC]at this;omega
 exact q.o v I j):P:=h ⟨k⟩
def QT (k:T) (h:aL T->P:=by intro q;have a4:=b.cell 0;have d2:=b.cell 1;have d0:=b.cell 2;have c3:=b.cell 3;have c7:=b.cell 4;have d5:=b.cell 5;have d3:=b.cell 6;have c6:=b.cell 7;have d4:=b.cell 8;have b':=b.cell 9;have b9:=b.cell 10;have c1:=b.cell 11;have d1:=b.cell 12;have c9:=b.cell 13;simp only[Mr.cells,getElem?_toArray,getElem?_cons_zero,getElem?_cons_succ]at a4 d2 d0 c3 c7 d5 d3 c6 d4 b' b9 c1 d1 c9;exact q.o a4 d2 d0 c3 c7 d5 d3 c6 d4 b' b9 c1 d1 c9):P:=h ⟨k⟩
def PD (h:P:=by
 go_wp2_with fail
 refine mE (xN S E (aT.size j) (aT.size_pos j) (by unfold aT.size;split<;>decide) _) ?_;go_wp2;go_roundg (6- (j+1));case rel=>exact⟨_,S+E*aT.size j,j+1,false,oy,oy,rfl,rfl,bh,rfl,b1.o,ly⟩
 case measure=>have:=d7.o;omega):P:=h
def Rz (k:T) (h:aL T->P:=by intro q;have g:e4.grownBy (e4 ⟨w,0,none⟩ (.slice e2 m4 c4) ⟨w,1,none⟩ e0 ⟨w,2,none⟩ d5) (some w):=((rW e4 _ 0 _).trans (rW _ _ 1 _)).trans (rW _ _ 2 _);have c7:=((d6.ay 0 (.slice e2 m4 c4)).ay 1 e0).ay 2 d5;simp only[setIfInBounds_toArray,set_cons_succ,set_cons_zero]at c7;exact q.o g c7):P:=h ⟨k⟩
def vH (k:T) (h:aL T->P:=by intro q;unfold oG;rw[b6.o,aK rfl,e0.o];refine⟨p,h5,?_⟩;unfold yj;exact q.o):P:=h ⟨k⟩
def EH (h:P:=by
 have i2:(U !=0):=by rw[bne_iff_ne];exact I
 clear I b7 E V;go_wp2;go_ret;exact .inl ⟨U,a',B,rfl,e1,_,_,f4⟩):P:=h
def PO (k:T) (h:aL T->P:=by intro q;refine tg [0,1,2] (λ_ s=>bi (bB s c7).a) ?_;refine aV 3 λK V=>?_;obtain⟨J,O,R⟩:=bi b6.a;obtain⟨L,N,I⟩:=bi b6.f;obtain⟨z,o,A⟩:=bi (af.drew b6).a;obtain⟨U,X,B⟩:=bi (af.drew b6).f;go_simp;show K _ _;refine V.out _ _ ((((Below.refl (w+1) b3).setCell (p:=an (w+1) 0) ny _).setCell (p:=an (w+1) 1) ny _).setCell (p:=an (w+1) 2) ny _).drew (λhH=>?_);clear V K;exact q.o J O R L N I z o A U X B hH):P:=h ⟨k⟩
def PQ {α0:Type} {A0:Prop} {A1:Prop} {A2:α0->Prop} {A3:α0->Prop} {Q:α0->Prop} (k:A0->A1-> ∀a0:α0,A2 a0->A3 a0->Q a0) (h:aL (A0->A1-> ∀a0:α0,A2 a0->A3 a0->Q a0)->P:=by intro q;obtain⟨J,a3⟩:=aq L d1;refine wpAnyH_ready (rs:=[11]) ry iy ?_;refine AllReadyH.cons gy (λK f=>?_) AllReadyH.nil;go_simp;show K _ _;refine be f a3 λhH=>?_;refine wpAnyH_ready (rs:=[12]) ry iy ?_;refine AllReadyH.cons gy (λK f=>?_) AllReadyH.nil;go_simp;show K _ _;refine be f J.b λhH=>?_;refine dj ?_;exact q.o J a3 K f hH):P:=h ⟨k⟩
def EL {α0:Type} {A0:α0->Prop} {A1:α0->Prop} {A2:α0->Prop} {Q:α0->Prop} (k:∀a0:α0,A0 a0->A1 a0->A2 a0->Q a0) (h:aL (∀a0:α0,A0 a0->A1 a0->A2 a0->Q a0)->P:=by
 intro q;obtain⟨E,o⟩: ∃y,y=k+1:=⟨_,rfl⟩;have A:IntKind.i64.wrap ((k:Int)+1)=((E:Nat):Int):=by rw[o,show(k:Int)+1=((k+1:Nat):Int)by omega];exact fA _ oy
 have r:=hJ o;exact q.o E o A r):P:=h ⟨k⟩
def Qj (h:P:=by apply wpS_region;rw[show range (#[({dst:=some d,op:= .call {callee:= .builtin .recover,args:= #[],argTypes:= #[]},type:=t,pos:=pos,after:= #[],guard:=none}:Oper)]).size=[0]from rfl];simp[wpOpsS,go_sem,e,Region.wanted];exact c):P:=h
def Sm (h:P:=by
 go_enter Tryz.func69,Tryz.ntmps69;go_wp2_with fail
 refine yA λb j a k c=>?_;refine mB (tX g false d b ((e.below a).more c)) λi f=>?_;go_wp2;go_ret3;exact⟨rfl,a.trans (f.mono a.size)⟩):P:=h
def Aa (k:T) (h:aL T->P:=by intro q;have D:=bU G J;have b:=O.below J U;have E:=b.lt;have o:=dp b;have m:=eW b;have f:=jA b;obtain⟨j,H⟩:=aq t b;exact q.o D b E o m f j H):P:=h ⟨k⟩
def RV (h:P:=by go_wp2;refine cO λhH=>?_;refine th [0,1,2,3,4,5,6,7,8,9,10,11,12,13,14,15,16,17,18,19,20,21,22,23,24,25] (λ_ s=>lx (bC s (bL a.o)) (bC s (bD a.o)) (bC s p.o)) ?_;go_wp2;go_ret;exact⟨by rw[d.o];rfl,hH⟩):P:=h
def qW (h:P:=by go_wp2;go_ret;exact⟨by rw[r.o];rfl,rfl⟩):P:=h
def zI (k:T) (h:aL T->P:=by intro q;refine(Gn L n c bs a4 oy LA Ln Lc l a5 M (a3.later G) (a2.later G)).mono ?_;exact q.o):P:=h ⟨k⟩
def yF (k:T) (h:aL T->P:=by intro q;refine cO λhH=>?_;refine th [0,1,2,3,4,5,6,7,8,9,10,11] (λ_ s=>lx (bC s m0) (bC s m1) (bC s m)) ?_;exact q.o hH):P:=h ⟨k⟩
def Sa (k:T) (h:aL T->P:=by intro q;have d6:=b9.o.keep (W':=W) (λb f3 e'=>bC i.2 (J.o.2.cell (p:=⟨b,f3,none⟩) e').symm);have c2:=i.1.1.1.1.cell 0;have d5:=i.1.1.1.1.frozen 0;have c3:=i.1.1.1.2.cell 0;have V:=i.1.1.1.2.cell 1;have c4:=i.1.1.2.cell 0;have d4:=i.1.1.2.frozen 0;have c5:=i.1.2.cell 0;have d7:=i.1.2.frozen 0;obtain⟨g,B⟩:=aq i d6;simp at c2 c3 V c4 c5;have c8:=g.o.1.2.lt;have f4:=J.o.1.2.lt;exact q.o d6 d5 d4 d7 g B c2 c3 V c4 c5 c8 f4):P:=h ⟨k⟩
def pP (k:T) (h:aL T->P:=by intro q;have z:IntKind.i64.wrap ((k:Int)+1)=((E:Nat):Int):=vqv;exact q.o z):P:=h ⟨k⟩
def Pb (k:T) (h:aL T->P:=by intro q;have a9:=Y.below a1 h';have c1:=f0.trans (a1.mono f0.size);have V:=(a7.below a1 (Nat.lt_trans (Nat.lt_trans f6 e1) h')).aI (p:=⟨g,3,none⟩) (Nat.ne_of_lt (Nat.lt_trans f6 e1)) Q;have a0:=a9.ay 3 Q;have a5:=c1.setCell (p:=⟨g,3,none⟩) (Nat.le_of_lt (Nat.lt_trans f6 e1)) Q;have e7:=a9.frozen 3;have f5:=dF a9;exact q.o a9 c1 V a0 a5 e7 f5):P:=h ⟨k⟩
def Te (h:P:=by exact((((((((((((((ax.refl a W).setCell 0 _).setCell 1 _).setCell 2 _).setCell 3 _).setCell 4 _).setCell 5 _).setCell 6 _).setCell 7 _).setCell 8 _).setCell 9 _).setCell 10 _).setCell 11 _).setCell 12 _).setCell 13 _):P:=h
def zv {α0:Type} {A0:α0->Prop} {A1:α0->Prop} {A2:α0->Prop} {Q:α0->Prop} (k:∀a0:α0,A0 a0->A1 a0->A2 a0->Q a0) (h:aL (∀a0:α0,A0 a0->A1 a0->A2 a0->Q a0)->P:=by intro q;obtain⟨p,a⟩: ∃p,xs[k]?=some p:=⟨_,br iO⟩;have E:=bC d (l k p a).1;have D:=bC d (l k p a).2;exact q.o p a E D):P:=h ⟨k⟩
def Pu (k:T) (h:aL T->P:=by intro q;refine tk 1 ?_;refine tf 2 (λ_ s=>eN (bB s i6).a) ?_;refine tk 3 ?_;refine tk 5 ?_;refine tk 6 ?_;refine tf 7 (λ_ s=>bC s (jd i6)) ?_;refine tk 8 ?_;refine tf 9 (λ_ s=>bC s (jA i6)) ?_;have g':az d9 d9.drew:=aN.drew;refine wpAnyH_ready (rs:=[0,4]) ry iy ?_;exact q.o g'):P:=h ⟨k⟩
def yX (h:P:=by
 go_wp2;go_round;case rel=>exact⟨i+1,oy,bh,y⟩
 case measure=>exact cn):P:=h
def oM {α0:Type} {A0:α0->Prop} {A1:α0->Prop} {A2:α0->Prop} {A3:α0->Prop} {A4:α0->Prop} {A5:α0->Prop} {Q:α0->Prop} (k:∀a0:α0,A0 a0->A1 a0->A2 a0->A3 a0->A4 a0->A5 a0->Q a0) (h:aL (∀a0:α0,A0 a0->A1 a0->A2 a0->A3 a0->A4 a0->A5 a0->Q a0)->P:=by intro q;refine yA λF p a J j=>?_;have d:=p.cell 0;have f:=p.cell 1;exact q.o F p a J j d f):P:=h ⟨k⟩
def vP (k:T) (h:aL T->P:=by intro q;refine cw 13 ?_;refine cw 14 ?_;refine cw 15 ?_;refine cw 16 ?_;exact q.o):P:=h ⟨k⟩
def Rb (k:T) (h:aL T->P:=by intro z;have Y:ax q w I:=⟨b5.os.trans (a7.os.trans l.os),b5.tape.trans (a7.tape.trans l.tape),b5.output.trans (a7.output.trans l.output),aR l.o.size,λk b a=>(b5.block k FJ a).trans ((a7.block k FJ a).trans (l.block k b))⟩;exact z.o Y):P:=h ⟨k⟩
def DO (k:T) (h:aL T->P:=by intro q;have b5:=bm.jJ (show bm.ar ⟨A,i,g,f⟩=true by rw[<-O];exact bm.ek _);simp only at b5;have b1:=sI t;exact q.o b5 b1):P:=h ⟨k⟩
def Pk (k:T) (h:aL T->P:=by
 intro q;have a9:v.heap[C]?=some (.deferred (some [])):=by first |exact(j.block C (by simp[ij];exact(gm.1 z).1)).trans z |exact(j.block C (by simp[ij];have:=(gm.1 z).1;omega)).trans ((Below.heap_alloc W _ C (gm.1 z).1).trans z)
 have c9:=(gm.1 z).1;exact q.o a9 c9):P:=h ⟨k⟩
def vM {α0:Type} {A0:α0->Prop} {A1:α0->Prop} {A2:α0->Prop} {Q:α0->Prop} (k:∀a0:α0,A0 a0->A1 a0->A2 a0->Q a0) (h:aL (∀a0:α0,A0 a0->A1 a0->A2 a0->Q a0)->P:=by intro q;generalize Y:World.alloc _ _=R;have d:=bQ (Below.refl wr.heap.size wr) Y;have f:=nQ Y;exact q.o R Y d f):P:=h ⟨k⟩
def vK (h:P:=by go_wp2;go_ret;exact⟨by rw[f.o,z.o,t.o];rfl,d⟩):P:=h
def Tf (h:P:=by have a:=hJ Y;clear Y;go_wp2;go_ret;refine⟨m,c,b,rfl,by rw[S.o,na],W,N,⟨a,λs B=>(H s B).1.1⟩,λp e=>?_,λs B=>(H s B).2⟩;exact(A.lt p.block nP).1):P:=h
def Ow (h:P:=by
 go_wp2_with(refine FM _ bq _ _ rfl _ _ rfl d8 ?_)
 exact⟨⟨j+1,l,oy,bh,e2.o l a9.o.symm,oy,e8.o,i4.o,I.o,e0,h0.o,oy,d2.o⟩,by simp[intOf];omega⟩):P:=h
def sW (k:T) (h:aL T->P:=by intro q;have J:((n:Int) !=(n:Int))=false:=iy;have L:=cK b.1.2.1 b.1.2.2.1;exact q.o J L):P:=h ⟨k⟩
def zl (k:T) (h:aL T->P:=by intro q;refine(adu b3 a4 c4 a2 l a u H C t d4 (o7.below e2) f5 d8).mono ?_;exact q.o):P:=h ⟨k⟩
def Fa (h:P:=by
 go_wp2_with fail
 refine mE (mD _ _) ?_;rw[a'];go_wp2;go_ret2;rw[a0.o];exact⟨rfl,W.o⟩):P:=h
def EZ {α0:Type} {A0:Prop} {A1:α0->Prop} {A2:α0->Prop} {A3:α0->Prop} {A4:α0->Prop} {A5:α0->Prop} {Q:α0->Prop} (k:A0-> ∀a0:α0,A1 a0->A2 a0->A3 a0->A4 a0->A5 a0->Q a0) (h:aL (A0-> ∀a0:α0,A1 a0->A2 a0->A3 a0->A4 a0->A5 a0->Q a0)->P:=by intro q;have g:=nY B n2 c2 l E s;rw[a'.o]at g;refine mB g λS o=>?_;have K:=hJ (bU G o);have d:=bC o d;have f:=bC o f;have a6:=dS W o.size;exact q.o g S o K d f a6):P:=h ⟨k⟩
def vI (h:P:=by obtain rfl:k=n:=oy;go_wp2;go_ret;exact⟨rfl,a⟩):P:=h
def RZ (h:P:=by injection a with c a;injection a with f a;injection a with d b;subst c f d b;exact⟨λ_=>⟨xO k iy (λm g=>absurd g iy),oy,oy,oy⟩,λa=>absurd rfl a⟩):P:=h
def Pn (k:T) (h:aL T->P:=by intro q;have n:f9.grownBy (f9 (an w 0) (slice W m3 c3) (an w 1) Y (an w 2) Z) (some w):=((fH f9 _ 0 _).trans (fH _ _ 1 _)).trans (fH _ _ 2 _);have a8:=((c9.ay 0 (slice W m3 c3)).ay 1 Y).ay 2 Z;simp only[gS]at a8;exact q.o n a8):P:=h ⟨k⟩
def Ey (k:T) (h:aL T->P:=by
 intro q;have e':IntKind.i64.wrap ((k:Int)+1)=((E:Nat):Int):=by rw[S,show(k:Int)+1=((k+1:Nat):Int)by omega];exact IntWalk.i64_in _ oy
 exact q.o e'):P:=h ⟨k⟩
def Rv (k:T) (h:aL T->P:=by intro q;have m0:=a.o.rd.cell 0;have m1:=a.o.rd.cell 1;have fr:=a.o.rd.frozen 1;have a8:(.int .i64 ((p+1:Nat):Int):Value)= .int .i64 ((p:Int)+1):=rfl;have Y:=a.o.step b (Rd.ay (j:=p+1) a.o.rd) ((ax.refl r b1).setCell 1 _);rw[a8]at Y;have a:=hJ Y;simp at m0 m1;obtain⟨W,N,V⟩:=wo a.o.aX;obtain⟨S,U,O⟩:=mX a.o.aX;exact q.o fr a8 Y a m0 m1 W N V S U O):P:=h ⟨k⟩
def Eu (h:P:=by have a:=t 0 _ o 0 _ rfl;rw[u.cell]at a;obtain _|_|_|l:=l;all_goals(simp at a;done)):P:=h
def vC (h:P:=by intro wq hSw;go_simp;all_goals(with_reducible rfl)):P:=h
def Tt (h:P:=by
 go_wp2;go_roundw;case rel=>exact⟨k+1,b++[s],t,z,oy,bh,by rw[bu,K.o];rfl,b2,by rw[S.o,a5.o,ir,<-b3.o];simp,c0,b7,b9,O⟩
 case measure=>exact cn):P:=h
def NO (k:T) (h:aL T->P:=by intro y;have p:=(G.ay 0 (slice A z c1)).ay 1 D;have f:j.grownBy (j (q 0) (slice A z c1) (q 1) D) (some q):=(fH j q 0 _).trans (fH _ q 1 _);have t:w.grownBy j (some q):=nV m _;refine⟨v,rfl,t.trans f,?_⟩;exact y.o p f t):P:=h ⟨k⟩
def qe (k:T) (h:aL T->P:=by intro q;show K _ _;refine be f (bU hH x) λhH=>?_;exact q.o hH):P:=h ⟨k⟩
def Ep (h:P:=by simp only[Instr.storeAt,Instr.sureAddr,Sem.run_bind,Sem.run_pure,Result.andThen];exact m):P:=h
def QN (h:P:=by cases hy;exact⟨_,((f3.aI uy _).aI uy _).aI uy _,rfl,f7.dm h0 f8 g',λr g5 c a b=>tU (B:=I) (BR r m) (show r<d by omega) h1⟩):P:=h
def Fp (h:P:=by simp only[Instr.loadAt,Instr.sureAddr,Sem.run_bind,Sem.run_pure,Result.andThen];exact q):P:=h
def vW (k:T) (h:aL T->P:=by intro q;refine bodyPost_ret (results_tmp3 results181 _ _ _) rfl ?_;exact q.o):P:=h ⟨k⟩
def vG (k:T) (h:aL T->P:=by intro q;refine bodyPost_ret (results_tmp3 results180 _ _ _) rfl ?_;exact q.o):P:=h ⟨k⟩
def yR (k:T) (h:aL T->P:=by intro q;have l:decide ((97:Int)<=c.toNat)=false:=gI;have g:decide ((65:Int)<=c.toNat)=false:=gI;exact q.o l g):P:=h ⟨k⟩
def NQ {α0:Type} {A0:α0->Prop} {A1:α0->Prop} {A2:α0->Prop} {A3:α0->Prop} {A4:α0->Prop} {Q:α0->Prop} (k:∀a0:α0,A0 a0->A1 a0->A2 a0->A3 a0->A4 a0->Q a0) (h:aL (∀a0:α0,A0 a0->A1 a0->A2 a0->A3 a0->A4 a0->Q a0)->P:=by intro z;obtain⟨B,q⟩:=xR (ae.aD ⟨ys.map (·.al),m⟩);have G:=hJ (show gr ⟨ys.map (·.al),m⟩=pB B.a by unfold gr;rw[q]);have D:=(ae.jJ (show ae.ar B=true by rw[<-q];exact ae.ek _)).1;obtain⟨H,x⟩:=aq q g;exact z.o B q G D H x):P:=h ⟨k⟩
def PY (k:T) (h:aL T->P:=by intro q;refine tk 0 ?_ (hy:=by intro wq hSw;have m:=(hSw.1.cell (p:=an w 0) R a6).trans m;exact bM);refine tk 1 ?_ (hy:=by intro wq hSw;have m:=(hSw.1.cell (p:=an w 0) R a6).trans m;exact bM);exact q.o):P:=h ⟨k⟩
def zH (k:T) (h:aL T->P:=by intro q;show K _ _;have D:=g'.trans D;have M:=M;have b0:=h4;obtain⟨a7,e9,e7,e5,c0⟩:=de (i7.below D h4) hF f7 M D;exact q.o D M b0 a7 e9 e7 e5 c0):P:=h ⟨k⟩
def EC {α0:Type} {A0:α0->Prop} {A1:α0->Prop} {A2:α0->Prop} {A3:α0->Prop} {A4:α0->Prop} {A5:α0->Prop} {A6:α0->Prop} {A7:α0->Prop} {A8:α0->Prop} {A9:α0->Prop} {A10:α0->Prop} {A11:α0->Prop} {A12:α0->Prop} {Q:α0->Prop} (k:∀a0:α0,A0 a0->A1 a0->A2 a0->A3 a0->A4 a0->A5 a0->A6 a0->A7 a0->A8 a0->A9 a0->A10 a0->A11 a0->A12 a0->Q a0) (h:aL (∀a0:α0,A0 a0->A1 a0->A2 a0->A3 a0->A4 a0->A5 a0->A6 a0->A7 a0->A8 a0->A9 a0->A10 a0->A11 a0->A12 a0->Q a0)->P:=by intro q;refine aV 3 λK V=>?_;obtain⟨J,O,R⟩:=bi a2.a;obtain⟨L,N,I⟩:=bi a2.f;obtain⟨z,o,A⟩:=bi (af.drew a2).a;obtain⟨U,X,B⟩:=bi (af.drew a2).f;go_simp;show K _ _;exact q.o K V J O R L N I z o A U X B):P:=h ⟨k⟩
def RR (h:P:=by refine⟨⟨A,z,c1,0,p,rfl,?_,J.trans B⟩,j,m,f,l⟩;have a:=K.narrow L;have b:=(Below.refl base w).grown (t.trans f) oy rz;exact a.below b):P:=h
def EP (k:T) (h:aL T->P:=by intro z;have c6:=d.1.1.2.cell 0;have q:=d.1.1.2.cell 1;have V:=d.1.1.2.frozen 0;have U:=d.1.1.2.frozen 1;have p:=d.1.2.cell 0;have L:=d.1.2.frozen 0;exact z.o c6 q V U p L):P:=h ⟨k⟩
theorem Ou (h:P:=by
 go_wp2;all_goals go_ret
 all_goals first|exact⟨rfl,rfl⟩|(subst_vars;exact⟨rfl,rfl⟩)|(refine⟨?_,rfl⟩;simp_all;done)|(refine⟨?_,rfl⟩;simp_all;omega)):P:=h
def Qs (h:P:=by obtain rfl:k=n:=oy;have b:=hJ (show aa.named (xs.map (·.nm)) s=false by unfold aa.named;rw[cC,z.o,j.o];rfl);go_wp2;go_ret;exact⟨by rw[b.o];rfl,a⟩):P:=h
def zd (h:P:=by go_enter func278,ntmps278;go_wp2;go_ret;exact⟨rfl,rfl⟩):P:=h
def oF (k:T) (h:aL T->P:=by intro q;have B:(0:Int)<=k:=oy;have F:k<(n:Int):=oy;exact q.o B F):P:=h ⟨k⟩
def yW (k:T) (h:aL T->P:=by intro q;go_simp;show K _ _;refine be f b.a1.b λhH=>?_;have b:=hJ b.a1;unfold dG at b;exact q.o hH b):P:=h ⟨k⟩
def yx (k:T) (h:aL T->P:=by intro q;go_simp;show K _ _;refine be f b.a2.b λhH=>?_;have b:=hJ b.a2;unfold fL at b;exact q.o hH b):P:=h ⟨k⟩
def Od (h:P:=by
 rintro e w' ⟨rfl,rfl⟩;go_wp2;go_roundw;case rel=>exact⟨E,aR a6.o,rfl,by rw[<-d6.o];exact Y,b0⟩
 case measure=>have:=a6.o;simp[intOf];omega):P:=h
def RE (h:P:=by
 go_wp2;go_roundw;case rel=>exact⟨E,aR X.o,rfl,by rw[X.o];exact b5,j.trans (hH.mono j.size)⟩
 case measure=>have:=X.o;simp[intOf];omega):P:=h
def vE (h:P:=by go_wp2;go_ret;exact⟨by rw[f.o];rfl,j⟩):P:=h
def Ry (k:T) (h:aL T->P:=by intro q;have j:=af.drew (((b6.ay 0 (slice a4 m c)).ay 1 dr).ay 2 lo);have b1:=ui (((fH b3 (w+1) 0 (slice a4 m c)).trans (fH _ (w+1) 1 dr)).trans (fH _ (w+1) 2 lo));simp only[gS]at j;obtain⟨b0,a9,a'⟩:=bi j.a;exact q.o b1 j b0 a9 a'):P:=h ⟨k⟩
def zG (h:P:=by go_wp2;go_ret2;rw[t.o];exact⟨rfl,IA _ _ _⟩):P:=h
def DS (k:T) (h:aL T->P:=by intro q;refine cw 4 ?_;refine cw 5 ?_;refine cw 6 ?_;refine cw 7 ?_;refine cw 8 ?_;refine cw 9 ?_;exact q.o):P:=h ⟨k⟩
def QP (k:T) (h:aL T->P:=by intro z;go_simp;refine(Yn m.NA m.Nn m.Nc m.ys m.dr m.lo m.ck c.ok h7 b2.drew ((e5.q.below (a6.mono (Nat.le_of_lt N))).more (show q<=b2.drew by show q<=b2;omega))).mono ?_;exact z.o):P:=h ⟨k⟩
def DW (h:P:=by exact⟨b,a,_,e,j,f,g.2 _ (cz f),h k _ f 0 _ rfl,h k _ f 1 _ rfl⟩):P:=h
def Pw (h:P:=by have b:=k 0 _ i 0 _ rfl;have a:=k 0 _ i 1 _ rfl;rw[m.cell]at b a;obtain _|_|_|_|l:=l;all_goals first|(simp at b;done)|(simp at a;done)):P:=h
def PW (h:P:=by
 subst I;go_wp2;go_roundw;case rel=>exact⟨C,aR v.o,aR v.o,rfl,by rw[v.o];exact b,H⟩
 case measure=>have:=v.o;simp[intOf];omega):P:=h
def Ez (k:T) (h:aL T->P:=by intro q;go_simp;show K _ _;refine be Q ⟨(fj _ _ _ _ iy).trans hH.1,(fj _ _ _ _ mo).trans hH.2⟩ λhH=>?_;exact q.o hH):P:=h ⟨k⟩
def qT (k:T) (h:aL T->P:=by intro q;show K _ _;refine be o (bU hH j) λhH=>?_;exact q.o hH):P:=h ⟨k⟩
def Qk (k:T) (h:aL T->P:=by intro q;go_simp;refine(abQ r i n c j FA gs.length Fc ts oy i7.o gs E.drew h8 M (λ_ p e=>by have:=(d.own.lt p.block (by rw[e];rfl)).1;omega) d.ct d.rd).mono ?_;exact q.o):P:=h ⟨k⟩
def Sf (h:P:=by
 rw[if_neg (by rw[d4.o];decide)]at V;go_wp2;go_roundw;case rel=>exact⟨k+1,oy,bh,by rw[V.o];exact f0,d5⟩
 case measure=>exact cn):P:=h
def QY (k:T) (h:aL T->P:=by
 intro q;have U:E<=2400:=by rw[F,u];first|(simp only[jb];omega)|(rw[bu];have:=HO2.1;have c:=fJ t.toNat;have b:=fJ (0:Int).toNat;have a:=fJ (1:Int).toNat;omega)
 have H:=hJ u;exact q.o U H):P:=h ⟨k⟩
def Qv (k:T) (h:aL T->P:=by intro q;have b0:=hJ a.mb.aX;unfold Mr.cells at b0;obtain⟨G,b1,b2,b4⟩:=bJ (λ(b5:Wd) (b:az wr b5)=>iG.at9 f8 e5 (a.b.trans (b.mono b3))) a.mb.iN (show aH wr wr c.LA c.Ln c.Lc c.l from(A.1.below a.b).more b3) (e6.below a.b);exact q.o b0 G b1 b2 b4):P:=h ⟨k⟩
def QO (h:P:=by simp[Builtin.delete_,run_underlying G,MapKept.run_getObj_map c,K.check w _ F,m,MapKept.run_setObj_map _ c,Result.andThen,setBlock]):P:=h
def PX (h:P:=by
 go_wp2;go_roundw;case rel=>exact⟨E,aR a7.o,rfl,by rw[a7.o];exact c9,bU b1 hH⟩
 case measure=>have:=a7.o;simp[intOf];omega):P:=h
def RP (h:P:=by
 go_wp2;go_roundw;case rel=>exact⟨E,aR a2.o,rfl,by rw[a2.o];exact c0,bU j hH⟩
 case measure=>have:=a2.o;simp[intOf];omega):P:=h
def zK (k:T) (h:aL T->P:=by
 intro q;have g:u<(u.alloc (.cells #[c1,c2] 3)).drew.heap.size:=by simp[World.drew]
 exact q.o g):P:=h ⟨k⟩
def Pe (k:T) (h:aL T->P:=by intro z;have O:=hJ ((W.o.trans (Q.o.trans (Bk (mK _ _) _))).ahT E (λg e=>(D g e).2));have F:=(b1.below L oy oy).grown E (λe=>aR (D q e).2) (λg e=>aR (D g e).2) uy;exact z.o O F):P:=h ⟨k⟩
def aiP (h:P:=by rw[pairwise_iff_getElem];intro i j b c d;exact p (j-i-1) (a:=i) (br b) (by rw[show i+(j-i-1)+1=j by omega];exact br c)):P:=h
def Qn (h:P:=by
 go_enter Tryz.func189,Tryz.ntmps189;go_wp2_with fail
 refine mE (fB _ _ v.o _) ?_;go_wp2;go_ret;exact⟨by rw[f.o];rfl,ly⟩):P:=h
def PH (k:T) (h:aL T->P:=by intro q;have I:=b7.below a2 b7.lt;have g5:=c7.below a2 c7.lt;have b6:=a5.below a2 a5.lt;have b2:=b9.trans (a2.mono (aR a5.lt));have d3:=hJ c8;have c0:=I.frozen 1;have i9:=I.frozen 2;have h4:=I.frozen 3;have i5:=I.frozen 4;have j4:=I.frozen 5;have i6:=I.frozen 6;exact q.o I g5 b6 b2 d3 c0 i9 h4 i5 j4 i6):P:=h ⟨k⟩
def EF (k:T) (h:aL T->P:=by intro q;intro G J b I _;have y:=(a3.alloc a' _).grown I uy (λg e=>(d.o.2.2.1.lt g e).1);clear I;rw[a7.o]at b;exact q.o G J y b):P:=h ⟨k⟩
def Rk (k:T) (h:aL T->P:=by
 intro q;have D: ∀j v,cells[j]?=some v->w.cell? (g j)=some v:=λj v d=>by rw[Lib.cell_of_heap B];rw[<-s,getElem?_take]at d;split at d;{rw[<-d,Array.getElem?_toList]};cases d
 exact q.o D):P:=h ⟨k⟩
def oD (k:T) (h:aL T->P:=by intro q;have C:decide (k<n):=decide_eq_true u;exact q.o C):P:=h ⟨k⟩
def vr (k:T) (h:aL T->P:=by intro q;have r:=bU D b';have f:=F.below b' oy;have i:=E.below b' oy;exact q.o r f i):P:=h ⟨k⟩
def PU (h:P:=by go_wp2;go_ret;exact⟨none,0,0,[],rfl,cU.none_ _ _,by unfold ap.aD;rw[d.o];rfl,λa=>absurd (d.symm.trans a) dy,f⟩):P:=h
def Sy {α0:Type} {A0:Prop} {A1:α0->Prop} {A2:α0->Prop} {A3:α0->Prop} {A4:α0->Prop} {A5:α0->Prop} {Q:α0->Prop} (k:A0-> ∀a0:α0,A1 a0->A2 a0->A3 a0->A4 a0->A5 a0->Q a0) (h:aL (A0-> ∀a0:α0,A1 a0->A2 a0->A3 a0->A4 a0->A5 a0->Q a0)->P:=by
 intro z;have s:d<=():=oy;obtain⟨q,i⟩:=xS (d/b);have H:Int.tdiv (d:Int) (b:Int)=(q:Int):=by rw[i];rfl
 have v:(d:Int)/ (b:Int)=(q:Int):=by rw[i];rfl
 have u:q<=():=by rw[i];exact Nat.le_trans (Nat.div_le_self _ _) s
 have x: ¬b=0:=by omega
 exact z.o s q i H v u x):P:=h ⟨k⟩
def SO {α0 α1:Type} {A0:α0->Prop} {A1:α0->Prop} {A2:α0->Prop} {A3:α0->Prop} {A4:α0->Prop} {A5:α0->α1->Prop} {A6:α0->α1->Prop} {A7:α0->α1->Prop} {A8:α0->α1->Prop} {A9:α0->α1->Prop} {A10:α0->α1->Prop} {Q:α0->α1->Prop} (k:∀a0:α0,A0 a0->A1 a0->A2 a0->A3 a0->A4 a0-> ∀a1:α1,A5 a0 a1->A6 a0 a1->A7 a0 a1->A8 a0 a1->A9 a0 a1->A10 a0 a1->Q a0 a1) (h:aL (∀a0:α0,A0 a0->A1 a0->A2 a0->A3 a0->A4 a0-> ∀a1:α1,A5 a0 a1->A6 a0 a1->A7 a0 a1->A8 a0 a1->A9 a0 a1->A10 a0 a1->Q a0 a1)->P:=by intro q;obtain⟨b,h3⟩: ∃b,bm.gone ⟨r,E,z,D⟩ t keep=b:=⟨_,rfl⟩;obtain⟨d4,j3,d9⟩:=aM h3 f' p0;have i0:=f'.lt;refine mB (YA r E z D t keep b d4 k5) λm0 e4=>?_;have e1:=j3.below e4 i0;have j1:=d9.trans (e4.mono oy);have m6:=e1.lt;obtain⟨f0,d5⟩:=aq e1 j1;exact q.o b h3 d4 j3 d9 i0 m0 e4 e1 j1 m6 f0 d5):P:=h ⟨k⟩
def RY (k:T) (h:aL T->P:=by intro q;unfold Oper.wp execOp;simp only[b,resolve,invoke,builtin,Sem.run_bind,Sem.run_pure,Result.andThen_ok,map_toArray,map_cons,map_nil,d,e,c];exact q.o):P:=h ⟨k⟩
def SI (h:P:=by obtain⟨b,_⟩|⟨g,cap,c,b,_,_,k,f,_⟩:=a.2;{exact .inl b};exact .inr ⟨g,cap,b,k,by unfold maxLen at f;omega⟩):P:=h
def zZ {α0:Type} {A0:α0->Prop} {A1:α0->Prop} {A2:α0->Prop} {Q:α0->Prop} (k:∀a0:α0,A0 a0->A1 a0->A2 a0->Q a0) (h:aL (∀a0:α0,A0 a0->A1 a0->A2 a0->Q a0)->P:=by intro q;generalize a5:World.alloc _ _=J;have F:=bQ (Below.refl w.heap.size w) a5;have l:=nQ a5;exact q.o J a5 F l):P:=h ⟨k⟩
def zo (h:P:=by exact⟨_,rfl,World.ownsRow_nil _ _ _ _,aN⟩):P:=h
def yT (h:P:=by go_wp2;go_ret;exact⟨by rw[d.o];rfl,hH⟩):P:=h
def zk (k:T) (h:aL T->P:=by intro q;refine bodyPost_ret (results_tmp3 results185 _ _ _) rfl ?_;exact q.o):P:=h ⟨k⟩
def yq (k:T) (h:aL T->P:=by intro q;refine cO λhH=>?_;refine ts [0,1,2] ?_;refine cw 3 ?_;refine cw 4 ?_;exact q.o hH):P:=h ⟨k⟩
def QW {α0:Type} {A0:Prop} {A1:α0->Prop} {Q:α0->Prop} (k:A0-> ∀a0:α0,A1 a0->Q a0) (h:aL (A0-> ∀a0:α0,A1 a0->Q a0)->P:=by intro z;refine wp_region_held_drew (S:=λW'=>ax r w W') ry (ax.refl _ _).drew (λhH=>?_);refine tg [0,1,2,3,4] (λ_ s=>(s.cell (p:=(q 0)) f b).trans (bD d)) ?_;refine aV 5 λK a=>?_;go_simp;exact z.o hH K a):P:=h ⟨k⟩
def Oi (h:P:=by go_wp2;go_ret;exact⟨A,n,c,ses,rfl,g.later f,by unfold ap.aD;rw[d.o];rfl,λ_=>⟨rfl,rfl,rfl,rfl⟩,f⟩):P:=h
theorem Sx (h:P:=by cases b:text l (i+2)with|error e=>(rw[b]at a;cases a)|ok v=>(let⟨q,s⟩:=v;rw[b]at a;injection a with a;grind)):P:=h
def Ej (h:P:=by rw[if_neg (by rw[a];simp)];cases u;simp only at b;subst b;rfl):P:=h
def RO (h:P:=by
 go_wp2;go_roundw;case rel=>exact⟨0+1,by omega,by go_num,by rw[p.o];exact u,bU s t⟩
 case measure=>simp[intOf]):P:=h
def SE (h:P:=by
 go_wp2;go_roundw;case rel=>exact⟨1+1,by omega,by go_num,by rw[p.o];exact u,bU s t⟩
 case measure=>simp[intOf]):P:=h
def za (h:P:=by go_wp2;go_ret3;exact⟨by rw[G.o];rfl,E⟩):P:=h
def zR (h:P:=by go_wp2;go_ret;exact⟨by rw[d.o];rfl,p⟩):P:=h
def yQ (h:P:=by go_wp2;go_ret;exact⟨by rw[o.o];rfl,a⟩):P:=h
def vB (k:T) (h:aL T->P:=by intro q;refine tk 6 ?_;refine tk 7 ?_;refine tk 8 ?_;exact q.o):P:=h ⟨k⟩
def EG (h:P:=by go_wp2;go_ret;exact⟨rfl,x.trans (hH.mono x.size)⟩):P:=h
def QQ (h:P:=by
 go_wp2;go_roundw;case rel=>exact⟨E,aR J.o,rfl,bU e hH⟩
 case measure=>have:=J.o;simp[intOf];omega):P:=h
def QA (k:T) (h:aL T->P:=by intro q;have d:az w (b0 (an w 0) (slice A n c) (an w 1) dr (an w 2) lo):=(by(repeat(refine Below.setCell ?_ iy _));exact r);have f:=((c5.ay 0 (slice A n c)).ay 1 dr).ay 2 lo;exact q.o d f):P:=h ⟨k⟩
def PK (k:T) (h:aL T->P:=by intro q;rw[BitVec.toNat_xor,BitVec.ofInt_natCast,BitVec.ofInt_natCast,BitVec.toNat_ofNat,BitVec.toNat_ofNat,Nat.mod_eq_of_lt oy,Nat.mod_eq_of_lt oy];exact q.o):P:=h ⟨k⟩
def Sb (h:P:=by have f:=hJ (show aB.ar ⟨es,dr,lo⟩=false by rw[V.o];rfl);go_wp2;go_ret;exact⟨by rw[f.o];rfl,a3⟩):P:=h
def QL (h:P:=by rintro e d ⟨x,a,j,c,rfl,b⟩;exact⟨rfl,.inr ⟨z.o,x,a,j,c,rfl,(ax.of hH).trans b⟩⟩):P:=h
def EI (h:P:=by go_enter func191,ntmps191;go_wp2;go_ret;exact⟨rfl,rfl⟩):P:=h
def Ov (h:P:=by obtain⟨y,hy,rfl⟩:=fx.1 d;have:=g y hy;show(⟨y.s.toArray⟩:au).size<=_;simp[ByteArray.size];omega):P:=h
def NV (h:P:=by rw[<-i9.o,Mr.GK (tab:=λk=>aw.find saved k.1 k.2) h2 f4];unfold lg;rw[i5.o,g2.o];rfl):P:=h
def Oz (k:T) (h:aL T->P:=by intro q;obtain⟨m,f⟩:=mL o l 0 _ rfl 9 0 1 rfl rfl xX;obtain⟨j,e⟩:=mL o l 1 _ rfl 9 1 1 rfl rfl xX;obtain⟨d,b,_,g⟩:=DataW.trod_string Tryz.underlying9 f;obtain⟨c,a,_,i⟩:=DataW.trod_string Tryz.underlying9 e;exact q.o m f j e d b g c a i):P:=h ⟨k⟩
def NL (h:P:=by intro v a;unfold iQ at a;simp only[mem_toArray,mem_map]at a;obtain⟨k,_,rfl⟩:=a;rfl):P:=h
def Tm (h:P:=by go_wp2;go_ret2;exact⟨none,0,0,by rw[o.o];rfl,by rw[o.o];exact aH.none_ _ _,ly,λp e=>by cases e⟩):P:=h
def Ph (h:P:=by
 go_wp2;go_roundw;case rel=>exact⟨k+1,oy,bh,by rw[C.o];exact a0,Z⟩
 case measure=>exact cn):P:=h
def ED (k:T) (h:aL T->P:=by intro q;go_simp;refine mE (KR u c1 c2 c D _ _ (r.below hH g)) ?_;exact q.o):P:=h ⟨k⟩
def ze (h:P:=by unfold aD;split;{assumption};rfl):P:=h
def vu (k:T) (h:aL T->P:=by intro q;refine(xw _ _ c _ rfl m).mono ?_;exact q.o):P:=h ⟨k⟩
theorem Th (h:P:=by cases f:text l (i+2)with|ok v=>(rw[f]at a;cases a)|error v=>(rw[f]at a;injection a with a;grind)):P:=h
def RG (h:P:=by go_wp2;go_ret;exact⟨_,rfl,(by first|exact λe=>absurd e dy|(intro _;have:=mT m;omega)),d⟩):P:=h
def Pt (k:T) (h:aL T->P:=by intro q;refine cO λhH=>?_;have a9:=a.o.rd.lt;refine th [0,1,2,3,4,5,6,7,8,9,10,11] (λ_ s=>lx (bC s (bD a.o.rd)) (bC s (bL a.o.rd)) (bC s c1.o)) ?_;have a:=hJ (a.o.keep hH);exact q.o hH a9 a):P:=h ⟨k⟩
def Sz (h:P:=by rw[getElem!_pos d j a];simp at b;rw[Array.getElem?_eq_getElem a]at b;exact Option.some.inj b):P:=h
def EE (k:T) (h:aL T->P:=by intro q;have a:=congrArg length l;rw[length_drop,Lex.gp,length_cons]at a;exact q.o a):P:=h ⟨k⟩
def Sj (h:P:=by
 go_wp2;go_roundg (gk-1);case rel=>exact⟨j+1,oy,bh,rfl,rfl,rfl,K.o,ly⟩
 case measure=>omega):P:=h
def tp (k:T) (h:aL T->P:=by intro q;show K _ _;refine f.out _ _ hH (λhH=>?_);exact q.o hH):P:=h ⟨k⟩
def RF (h:P:=by exact⟨b,d,_,e,m,h,g.2 _ (cz h),j k _ h 0 _ rfl,j k _ h 1 _ rfl,j k _ h 2 _ rfl⟩):P:=h
def RJ (h:P:=by rintro e d ⟨c,rfl,b,a⟩;go_wp2;go_ret;exact⟨c,rfl,by rw[f.o];exact b,a⟩):P:=h
def Rt (k:T) (h:aL T->P:=by intro q;have m0:=i'.cell;obtain⟨a9,a8,b7⟩:=bi i3.a;have Y:=m0 0;have a0:=m0 1;have G:=m0 2;have a2:=m0 3;have H:=m0 4;have J:=m0 5;have X:=m0 6;have O:=m0 7;have a1:=m0 8;have Q:=m0 9;have M:=m0 10;have S:=m0 11;have I:=m0 12;have D:=m0 13;simp[Mr.cells]at Y a0 G a2 H J X O a1 Q M S I D;exact q.o m0 a9 a8 b7 Y a0 G a2 H J X O a1 Q M S I D):P:=h ⟨k⟩
def ET (h:P:=by go_wp2;go_ret;exact⟨by rw[l.o];rfl,bU i a⟩):P:=h
def Px (h:P:=by rw[Array.all_eq_true_iff_forall_mem];intro v a;exact Vg l v (by simpa using a)):P:=h
def RN (h:P:=by
 go_wp2;go_roundw;case rel=>exact⟨1,oy,rfl,by first|rfl|trivial⟩
 case measure=>simp[intOf]):P:=h
def PE (h:P:=by exact⟨W,_,_,s,p,⟨rfl,rfl,rfl,iy,λk d _=>heap_alloc_old W.drew _ d⟩,.inr rfl⟩):P:=h
def Pp (h:P:=by rw[p]at f;simp only[Option.map_some,Option.some.injEq]at f;subst f;exact o j q p i u z):P:=h
def OC (h:P:=by
 go_wp2_with fail
 refine mE (mD _ _) ?_;rw[l];go_wp2;go_ret;rw[s.o];exact⟨rfl,aN⟩):P:=h
def Ti (k:T) (h:aL T->P:=by intro q;have x:=y.trans (hH.mono y.size);have r:=hJ s;refine nT (S':=λW'=>Below d d W') (λW b=>hH.trans (b.mono hH.size)) _ _ _ _ ?_;exact q.o x r):P:=h ⟨k⟩
def SY (h:P:=by have I:=hJ t;go_wp2;refine bodyPost_ret (v:=agg #[slice none 0 0,int .i64 0]) TM rfl I):P:=h
def Ra (k:T) (h:aL T->P:=by intro q;simp only[Value.agg.injEq,toArray_inj,Array.mk.injEq,List.cons.injEq,Value.slice.injEq,Value.int.injEq,Value.bool.injEq,true_and,and_true]at d';exact q.o d'):P:=h ⟨k⟩
def Qb (k:T) (h:aL T->P:=by intro q;have J:=hJ (show eS ⟨nm,a,j,some (b o),n,c,rs⟩=false by rw[f.o];exact kM (by rw[z.o];exact u) (by rw[a5.o];rfl));exact q.o J):P:=h ⟨k⟩
theorem OV (h:P:=by
 simp only[b,Option.bind_some]at a⊢;have d:g<w:=by grind
 rw[c.block g d];exact a):P:=h
def vT (k:T) (h:aL T->P:=by intro q;injection a with a;injection a with h a;injection a with g f;exact q.o h a g f):P:=h ⟨k⟩
def RW (h:P:=by
 go_wp2;go_roundw;case rel=>exact⟨k+1,oy,bh,s.o,ly⟩
 case measure=>simp[intOf];omega):P:=h
def yG (k:T) (h:aL T->P:=by intro q;refine tk 12 ?_;refine tk 13 ?_;refine tk 14 ?_;exact q.o):P:=h ⟨k⟩
def PT (k:T) (h:aL T->P:=by
 intro z;have f:cells.length=n*2:=by rw[<-s,length_take,Array.length_toList];omega
 have q:(cells.drop (i*2)).length=2*(n-i):=by rw[length_drop,f];omega
 exact z.o f q):P:=h ⟨k⟩
def RU (h:P:=by rintro e f ⟨c,rfl,b,d,-⟩;go_wp2;go_ret;exact⟨c,rfl,b,a.trans d⟩):P:=h
def PC (h:P:=by simp only[mem_cons,not_mem_nil,or_false]at t;obtain rfl|rfl:=t<;>assumption):P:=h
def QM (h:P:=by have f:=hJ (Z k u (by rw[F.o];rfl));go_wp2;go_ret;exact⟨by rw[f.o];rfl,x⟩):P:=h
def zp (k:T) (h:aL T->P:=by intro q;refine(qw r _ n c _ _ _ g.rd).mono ?_;exact q.o):P:=h ⟨k⟩
def SZ (h:P:=by simp only[nE,Option.getD,Option.isSome];go_wp2;go_ret;exact⟨by rw[D.o];rfl,Z⟩):P:=h
def OY (h:P:=by injection f with f;injection f with b c;exact⟨a,d0,l,c7,by rw[a9,c],b.symm⟩):P:=h
def SN (h:P:=by rw[H,<-hG,<-u]at l;rw[show(n:Int)+1- (i:Int)=((n+1-i:Nat):Int)by omega];exact l):P:=h
def Ew (k:T) (h:aL T->P:=by intro q;have d:decide ((48:Int)<=c.toNat):=gI;have f:decide ((c.toNat:Int)<=57)=false:=gI;exact q.o d f):P:=h ⟨k⟩
def ER (h:P:=by rw[<-UInt8.toNat_inj,UInt8.toNat_ofNat'];omega):P:=h
def EJ (k:T) (h:aL T->P:=by intro q;refine bodyPost_ret (results_tmp3 Tryz.results223 _ _ _) rfl ?_;exact q.o):P:=h ⟨k⟩
def QH {α0:Type} {A0:α0->Prop} {A1:α0->Prop} {Q:α0->Prop} (k:∀a0:α0,A0 a0->A1 a0->Q a0) (h:aL (∀a0:α0,A0 a0->A1 a0->Q a0)->P:=by intro q;refine mB (YQ d LA Ln Lc l r m.o a5 b'.o wr ((show aH _ _ _ _ _ _ from X.o).below e|>.more e.size) (b7.o.later e)) λV G=>?_;have x:=bU e G;exact q.o V G x):P:=h ⟨k⟩
def Su {α0:Type} {A0:α0->Prop} {Q:α0->Prop} (k:∀a0:α0,A0 a0->Q a0) (h:aL (∀a0:α0,A0 a0->Q a0)->P:=by intro q;obtain⟨c2,p⟩: ∃c:Array ai,c=(c1.toList.take ((i+1)*2)++cells.drop (i*2)++c1.toList.drop ((i+1)*2+(cells.drop (i*2)).length)).toArray:=⟨_,rfl⟩;exact q.o c2 p):P:=h ⟨k⟩
def OU (h:P:=by exact((b9.o.setCell uy _).setCell uy _).more (J.o.result (.slice A' n' c') 2).2.size):P:=h
def Of (h:P:=by refine CV f0 g5 m2 b9 (show base<=w+1 by omega) k6 e4 g3 b6 b1 l5):P:=h
def PP (h:P:=by refine te [15,16] ?_;go_wp2;go_meet;exact⟨hH,.inl ⟨k,O,a8,J,rfl,rfl⟩⟩):P:=h
def SC (h:P:=by have:=Nat.mul_le_mul_right sz (show j+1<=n by omega);rw[Nat.succ_mul]at this;omega):P:=h
def OZ (h:P:=by obtain c|c:=Nat.lt_or_ge b a;{exact c};simp[Array.getElem?_eq_none c]at f):P:=h
def QE (h:P:=by rw[fS.1 hy];exact⟨G s b' (λg e=>U g (D g e).1),λg x=>U g oy⟩):P:=h
def Af (k:T) (h:aL T->P:=by intro q;have c7:=b8.below D N;obtain⟨I,B,j,A⟩:=bJ F E c7 D;have a9:=D.size;exact q.o c7 I B j A a9):P:=h ⟨k⟩
def Oe (k:T) (h:aL T->P:=by
 intro q;have a3:m.ls.length=m.gs.length:=by have:=U.g.last;simpa[Mr.val]using this
 have b8:m.ts.length=m.gs.length:=by have:=U.g.bw;simpa[Mr.val]using this
 exact q.o a3 b8):P:=h ⟨k⟩
def Fb (h:P:=by go_wp2;go_ret;exact⟨by rw[U.o];rfl,d⟩):P:=h
def Fl (h:P:=by go_wp2;go_ret2;rw[t.o];exact⟨rfl,W.o⟩):P:=h
def OO (k:T) (h:aL T->P:=by
 intro z;have W: ¬ ""<1+l.size:=by omega
 have M: ¬ ""<1+l.size+2:=by omega
 have X: ¬ ""<1+l.size+2+q.size:=by omega
 have S: ¬ ""<t.size+(1+l.size+2+q.size):=by omega
 exact z.o W M X S):P:=h ⟨k⟩
def Ef (h:P:=by go_wp2;go_ret;exact⟨by rw[a.o];rfl,p⟩):P:=h
def zM (k:T) (h:aL T->P:=by intro q;obtain⟨U,R,L,a3,a4⟩:=mr G C;obtain⟨U,R⟩:=aq U R;exact q.o L a3 a4 U R):P:=h ⟨k⟩
def NW (k:T) (h:aL T->P:=by
 intro z;have W: ¬ ""<1+l.size:=by omega
 have M: ¬ ""<1+l.size+1:=by omega
 have X: ¬ ""<1+l.size+1+q.size:=by omega
 have S: ¬ ""<t.size+(1+l.size+1+q.size):=by omega
 exact z.o W M X S):P:=h ⟨k⟩
def Ea (h:P:=by go_wp2;go_ret;exact⟨by rw[D.o];rfl,G⟩):P:=h
def OL (h:P:=by rintro e w' ⟨rfl,k,os,rfl⟩;exact⟨by rw[Lib.itoa_nonneg],Hs k os⟩):P:=h
def Eo (h:P:=by go_wp2;go_ret;exact⟨by rw[o.o];rfl,d⟩):P:=h
def OR {α0:Type} {A0:α0->Prop} {Q:α0->Prop} (k:∀a0:α0,A0 a0->Q a0) (h:aL (∀a0:α0,A0 a0->Q a0)->P:=by intro q;obtain⟨a,m⟩: ∃c:Array ai,c=(l.toList.take ((i+1)*2)++cells.drop (i*2)++l.toList.drop ((i+1)*2+(cells.drop (i*2)).length)).toArray:=⟨_,rfl⟩;exact q.o a m):P:=h ⟨k⟩
def Pm (k:T) (h:aL T->P:=by
 intro q;have t:a<n:=oy;have F:i<=a/\a<j:=oy;have K:IntKind.i64.wrap ((a:Int)+1)=((b:Nat):Int):=by rw[s,show(a:Int)+1=((a+1:Nat):Int)by omega];exact fA _ oy
 exact q.o t F K):P:=h ⟨k⟩
def OT (h:P:=by have b:=hJ (d.o.below a m);go_wp2;go_ret;exact⟨rfl,b.o,ax.of a⟩):P:=h
def Ql (k:T) (h:aL T->P:=by intro q;have m:=b.cell 0;have j:=b.cell 1;have i:=b.cell 2;have e:=b.cell 3;have f:=b.cell 4;simp only[gC]at m j i e f;simp only[getElem?_toArray,getElem?_cons_zero]at c5 d c4;exact q.o m j i e f c5 d c4):P:=h ⟨k⟩
def Sk (h:P:=by simp only[fI,not_mem_nil,or_false]at z;obtain rfl|rfl:=z<;>assumption):P:=h
def EM (k:T) (h:aL T->P:=by intro q;unfold step;rw[fp (eo.2 a.1)];exact q.o):P:=h ⟨k⟩
def Ac (k:T) (h:aL T->P:=by intro q;go_simp;show K _ _;refine be o (hH.alloc _) λhH=>?_;exact q.o hH):P:=h ⟨k⟩
def DT {α0:Type} {A0:α0->Prop} {Q:α0->Prop} (k:∀a0:α0,A0 a0->Q a0) (h:aL (∀a0:α0,A0 a0->Q a0)->P:=by intro q;refine mB (Yt d o n c e _ t p ((x.below i).more r)) λj a=>?_;exact q.o j a):P:=h ⟨k⟩
def NR (h:P:=by rw[take_append_of_le_length (by simp[f];omega)];simp[take_take]):P:=h
def Qh (h:P:=by rw[show m.val.f=m.gs.map aZ.bare from rfl,ZO,z];cases i<;>rfl):P:=h
def QU {α0 α1 α2 α3:Type} {A0:α0->Prop} {A1:α0->α1->Prop} {A2:α0->α1->α2->Prop} {A3:α0->α1->α2->α3->Prop} {Q:α0->α1->α2->α3->Prop} (k:∀a0:α0,A0 a0-> ∀a1:α1,A1 a0 a1-> ∀a2:α2,A2 a0 a1 a2-> ∀a3:α3,A3 a0 a1 a2 a3->Q a0 a1 a2 a3) (h:aL (∀a0:α0,A0 a0-> ∀a1:α1,A1 a0 a1-> ∀a2:α2,A2 a0 a1 a2-> ∀a3:α3,A3 a0 a1 a2 a3->Q a0 a1 a2 a3)->P:=by intro q;obtain⟨e0,d5⟩: ∃f8:ah ak,some (⟨g3,f0+1,none⟩:ak)=f8:=⟨_,rfl⟩;obtain⟨J,d8⟩: ∃n,m.On-1=n:=⟨_,rfl⟩;obtain⟨d0,d9⟩: ∃n,m.Oc-1=n:=⟨_,rfl⟩;obtain⟨L,e4⟩: ∃l,m.os.drop 1=l:=⟨_,rfl⟩;exact q.o e0 d5 J d8 d0 d9 L e4):P:=h ⟨k⟩
def DX (k:T) (h:aL T->P:=by intro q;refine bodyPost_ret (results_tmp3 results222 _ _ _) rfl ?_;exact q.o):P:=h ⟨k⟩
def Em (h:P:=by obtain⟨b,g,x,e,_⟩:=f.at_ d;cases e):P:=h
def QZ (k:T) (h:aL T->P:=by intro q;refine mB (Mo r g n c i ts F a3.o ⟨#[]⟩ (aG y).symm i (aG y).symm G a.o.ct a.o.rd) ?_;exact q.o):P:=h ⟨k⟩
def DZ (h:P:=by have:=af.ay a 1 j;simpa using this):P:=h
theorem Sw (h:P:=by intro l;induction l with|nil=>(intro v;exact ny)|cons d l ih=>grind[num]):P:=h
def sS (k:T) (h:aL T->P:=by intro q;have C:decide ((16:Int)<n)=false:=bj oy;exact q.o C):P:=h ⟨k⟩
def NX (h:P:=by rw[getElem?_take]at d;split at d;{exact D j v d};cases d):P:=h
def QS (h:P:=by go_wp2;go_ret;exact⟨by rw[J.o];rfl,q.trans (hH.mono q.size)⟩):P:=h
def NN (k:T) (h:aL T->P:=by intro q;refine(Gn none 0 0 [] (.inl rfl) oy LA Ln Lc l r G (aY.none_ _ _) (N.later D)).mono ?_;exact q.o):P:=h ⟨k⟩
def RX (h:P:=by have b:=D.o;rw[aK I]at b;subst b;go_wp2;go_ret;exact⟨rfl,H⟩):P:=h
def tu (k:T) (h:aL T->P:=by intro q;obtain⟨J,L,o⟩:=bi B.a;obtain⟨a2,Z,a3⟩:=bi B.f;exact q.o J L o a2 Z a3):P:=h ⟨k⟩
def DM (h:P:=by go_wp2;go_ret;exact⟨rfl,bU b a⟩):P:=h
def Tp (k:T) (h:aL T->P:=by intro q;refine(Hw a4 m c ys dr lo LA Ln Lc l true t n7 i0 b3 k6 (l1.more (aR r.size))).mono ?_;exact q.o):P:=h ⟨k⟩
def Ff (h:P:=by rw[wT,dE];rw[gJ,gp];omega):P:=h
def SV (k:T) (h:aL T->P:=by intro q;refine tk 4 ?_ (hy:=by intro wq hSw;obtain⟨c1,j,f,l,e,g,a,i,d⟩:=G wq hSw;exact bM);have b:=hJ (ja.start m c wr);exact q.o b):P:=h ⟨k⟩
def Ae (k:T) (h:aL T->P:=by
 intro q;have K:i<=n+2400:=by rw[r,p,bu];omega
 have I:=hJ p;exact q.o K I):P:=h ⟨k⟩
def OE (h:P:=by subst b;clear j g;go_wp2;go_ret;exact⟨rfl,f.alloc f.size _⟩):P:=h
def Ob (h:P:=by rw[<-i];exact((aN.alloc ny _).drew).alloc (by simp[World.drew]) _):P:=h
def Py (h:P:=by show(w.heap++os)[i]?=w.heap[i]?;rw[Array.getElem?_append_left a]):P:=h
def QG (h:P:=by go_enter func96,ntmps96;go_wp2;go_ret;exact⟨by rw[o.o];rfl,rfl⟩):P:=h
def OD (h:P:=by go_wp2;go_ret3;exact⟨_,_,_,_,_,rfl,bU j y,.inl ⟨d,rfl⟩⟩):P:=h
def Oj (h:P:=by exact⟨0,none,0,0,2,rfl,aN,.inl ⟨q.o,dy,rfl,rfl,rfl,rfl⟩⟩):P:=h
def OI (h:P:=by have:=congrArg Prod.fst d;injection this with this;exact this.symm):P:=h
def QD (h:P:=by obtain a|a:=jY n;{exact a};let⟨_,_,e,_⟩:=b.at_ a;cases e):P:=h
def Og (h:P:=by obtain⟨_,c⟩|⟨g,cap,a,c,_⟩:=b.2;{exact c};cases c):P:=h
def Qq (h:P:=by exact⟨⟨_,e⟩,dy,dy,λa=>absurd a dy,λ_=>⟨iy,e⟩⟩):P:=h
def Rf (h:P:=by go_wp2;go_ret;exact⟨_,rfl,mK _ _,⟨y,n,c,g,C,d⟩,rfl⟩):P:=h
def RQ (k:T) (h:aL T->P:=by intro q;have y:wr<(wr.alloc (.cells #[l,o,false] 287)).heap.size:=iy;have x:az E (wr.alloc (.cells #[l,o,false] 287)):=H.alloc b3 _;exact q.o y x):P:=h ⟨k⟩
def OX (h:P:=by injection e with e;subst e;exact⟨af.new V _ _,d.b.size⟩):P:=h
def Rq (h:P:=by injection b with b;subst b;exact cf.of (d.d p e).2.2.1 ny):P:=h
def Qg (k:T) (h:aL T->P:=by intro q;have y:=l.lt;have m:=af.new c 3 #[t,keep];have j:=v.alloc v.size (.cells #[t,keep] 3);refine(WE c 3 t keep _ m).mono ?_;exact q.o y m j):P:=h ⟨k⟩
def zb {α0:Type} {A0:α0->Prop} {Q:α0->Prop} (k:∀a0:α0,A0 a0->Q a0) (h:aL (∀a0:α0,A0 a0->Q a0)->P:=by intro q;refine ts [0,1,2,3,4,5,6,7] ?_;refine aV 8 λK r=>?_;exact q.o K r):P:=h ⟨k⟩
def zY (k:T) (h:aL T->P:=by intro q;have d:=bC e d;have f:=bC e f;have W:=dS J e.size;exact q.o d f W):P:=h ⟨k⟩
def SD {α0:Type} {A0:α0->Prop} {A1:α0->Prop} {A2:α0->Prop} {A3:α0->Prop} {Q:α0->Prop} (k:∀a0:α0,A0 a0->A1 a0->A2 a0->A3 a0->Q a0) (h:aL (∀a0:α0,A0 a0->A1 a0->A2 a0->A3 a0->Q a0)->P:=by intro q;obtain⟨m,I⟩: ∃m,ms[k]?=some m:=⟨_,br iO⟩;have R:=bC H (a1 k m I).1;have O:=bC H (a1 k m I).2.1;have N:=bC H (a1 k m I).2.2;exact q.o m I R O N):P:=h ⟨k⟩
def Pq (k:T) (h:aL T->P:=by intro q;refine mB (iK r (some (z K)) n c g u ts 4 av.kK true b2 b c6 _ a.ct a.rd) ?_;exact q.o):P:=h ⟨k⟩
def Qa (k:T) (h:aL T->P:=by intro q;have y:wr<(wr.alloc (.cells #[l,o,true] 287)).heap.size:=iy;have x:az E (wr.alloc (.cells #[l,o,true] 287)):=H.alloc b3 _;exact q.o y x):P:=h ⟨k⟩
def QK (h:P:=by rw[G.o,<-I.o];unfold pB;rw[filter_map];rfl):P:=h
def yS (k:T) (h:aL T->P:=by intro q;have Z:=bQ (Below.refl wr.heap.size wr) a4;have V:=nQ a4;exact q.o Z V):P:=h ⟨k⟩
def ON (h:P:=by go_wp2;go_ret;exact⟨rfl,l.o.below hH o,ax.of hH⟩):P:=h
def Oy (h:P:=by go_wp2;go_ret3;exact⟨_,_,_,_,_,rfl,j,.inl ⟨d,rfl⟩⟩):P:=h
def RH (k:T) (h:aL T->P:=by
 intro q;have N:i<=(n:Int)+1:=oy;have R: ¬b=i+1:=by omega
 have J: ¬b=i:=by omega
 have U: ¬n=i:=by omega
 have L:i<=(n:Int):=oy;have V:b<= "":=by unfold maxLen at C;omega
 exact q.o N R J U L V):P:=h ⟨k⟩
def NU (h:P:=by rw[k.cell]at i;obtain _|j:=j;all_goals(simp at i;done)):P:=h
def NM (h:P:=by exact⟨this.os,this.tape,this.output,this.size,this.block⟩):P:=h
def Ol (h:P:=by have:=c9.o;unfold aT.cap at this;simp[aT.ar]at d8;omega):P:=h
def PJ (h:P:=by go_wp2;exact⟨⟨k+1,oy,bh,r⟩,by simp[intOf];omega⟩):P:=h
def SM (k:T) (h:aL T->P:=by intro q;have D: ∀g,u8.ownBlock=some g->g<wr.heap.size/\w.heap.size<=g:=λg e=>⟨(A.o.lt g e).2,(A.o.lt g e).1⟩;exact q.o D):P:=h ⟨k⟩
def Ed (k:T) (h:aL T->P:=by intro q;show K _ _;refine be o (hH.trans (c3.mono hH.size)) λhH=>?_;exact q.o hH):P:=h ⟨k⟩
def SG (h:P:=by go_wp2;go_ret3;exact D.o.ret (D.o.err z.o a6.o) iy rfl):P:=h
def NT (k:T) (h:aL T->P:=by intro q;have u:G3[0]?=some (G3[0]' tI):=br _;have l:=A 0 _ u 0 _ rfl;have w:=A 0 _ u 1 _ rfl;have v:=A 0 _ u 2 _ rfl;rw[C.cell]at l w v;exact q.o u l w v):P:=h ⟨k⟩
def Sh (k:T) (h:aL T->P:=by
 intro q;have C:y<w:=oy;have E:IntKind.i64.wrap ((i:Int)+1)=((i+1:Nat):Int):=by rw[show(i:Int)+1=((i+1:Nat):Int)by omega];exact fA _ oy
 exact q.o C E):P:=h ⟨k⟩
def DN (k:T) (h:aL T->P:=by intro q;refine cw 17 ?_;refine cw 18 ?_;refine cw 19 ?_;exact q.o):P:=h ⟨k⟩
def NS (k:T) (h:aL T->P:=by intro q;refine mB (kS r g n c (i+1) ts ql false a7.o (i+1) rfl a1 a.o.ct a.o.rd) ?_;exact q.o):P:=h ⟨k⟩
def aiN (h:P:=by exact bG (pairwise_iff_getElem.1 g k (k+1) oy c oy)):P:=h
def Ss (h:P:=by go_enter func280,ntmps280;go_wp2;go_ret;exact⟨rfl,rfl⟩):P:=h
def Oa (h:P:=by go_enter func227,ntmps227;go_wp2;go_ret;exact⟨rfl,rfl⟩):P:=h
def sP (k:T) (h:aL T->P:=by intro q;refine cO λhH=>?_;refine tk 0 ?_;exact q.o hH):P:=h ⟨k⟩
def Rl (h:P:=by exact Z k a (by rw[Array.getElem?_toList]at d;exact d)):P:=h
def Pf {α0:Type} {A0:Prop} {A1:α0->Prop} {A2:α0->Prop} {Q:α0->Prop} (k:A0-> ∀a0:α0,A1 a0->A2 a0->Q a0) (h:aL (A0-> ∀a0:α0,A1 a0->A2 a0->Q a0)->P:=by intro q;have K:=sG r g n c p ts 3 _ (a.o.ct.more (dH a.o.rd.lt)) a.o.rd;rw[a'.o]at K;refine mB K λI H=>?_;have a:=hJ (a.o.keep H);exact q.o K I H a):P:=h ⟨k⟩
def vR (k:T) (h:aL T->P:=by intro q;have u:=dS G a.size;have C:=dS H a.size;exact q.o u C):P:=h ⟨k⟩
def Qe (h:P:=by rw[u];simp[Builtin.zeroCells,Value.cells,f];omega):P:=h
def NP (k:T) (h:aL T->P:=by intro q;refine tg [11,12,13,14,15,16,17,18,19,20,21,22] (λ_ s=>gG (bC s U) (bC s X)) ?_;exact q.o):P:=h ⟨k⟩
def QC (k:T) (h:aL T->P:=by intro q;unfold Oper.wp;simp only[execOp,f,e,Sem.run_bind,d,Result.andThen,Sem.run_pure];exact q.o):P:=h ⟨k⟩
def Rh {α0:Type} {A0:α0->Prop} {Q:α0->Prop} (k:∀a0:α0,A0 a0->Q a0) (h:aL (∀a0:α0,A0 a0->Q a0)->P:=by intro q;obtain⟨c1,m⟩: ∃c:Array ai,c=(a.toList.take (i*2)++[x,y]++a.toList.drop (i*2+[x,y].length)).toArray:=⟨_,rfl⟩;exact q.o c1 m):P:=h ⟨k⟩
def zx (k:T) (h:aL T->P:=by intro q;have l:=f.1;have t:n<=c/\c<= "":=⟨f.2.1,f.2.2.1⟩;exact q.o l t):P:=h ⟨k⟩
def Fj (k:T) (h:aL T->P:=by intro q;obtain⟨S,O⟩:=qh a.o.dL;obtain⟨N,R⟩:=fR a.o.dL;obtain⟨U,c1⟩:=fR a.o.bI;exact q.o S O N R U c1):P:=h ⟨k⟩
def Sq (h:P:=by rw[flatMap_append,length_append];exact l8):P:=h
def Qd (k:T) (h:aL T->P:=by
 intro q;have j:aa.bN xs k:=by rw[YE r o.o,g,bG (oy:p.2.size<=64)];rfl
 have s:=hJ (ig t.o j);exact q.o j s):P:=h ⟨k⟩
def SH (k:T) (h:aL T->P:=by
 intro q;have b8:IntKind.i64.wrap ((p:Int)+1)=((p+1:Nat):Int):=by rw[show(p:Int)+1=((p+1:Nat):Int)by omega];exact fA _ oy
 exact q.o b8):P:=h ⟨k⟩
def OW (h:P:=by go_wp2;go_ret;exact⟨by rw[H.o];rfl,bU e hH⟩):P:=h
def Qc (h:P:=by go_wp2;go_ret;exact⟨by rw[f.o];rfl,bU j hH⟩):P:=h
def QI (h:P:=by simp[IntKind.wrap,IntKind.bits,IntKind.signed];omega):P:=h
def Ad {α0:Type} {A0:α0->Prop} {Q:α0->Prop} (k:∀a0:α0,A0 a0->Q a0) (h:aL (∀a0:α0,A0 a0->Q a0)->P:=by intro q;obtain⟨x,u⟩: ∃x,ts[k]?=some x:=⟨_,br oy⟩;exact q.o x u):P:=h ⟨k⟩
def Qr (k:T) (h:aL T->P:=by
 intro q;rw[H.o]at s;have u:o.map (·.al)=B.a:=by rw[<-s]
 have t:=A.len;have O:=A.cap;have K:d<=16:=by rw[<-u,cC,t]at D;exact D
 obtain⟨C,y,I,z⟩:=bJ A (bU F E) u t;exact q.o s u t O K C y I z):P:=h ⟨k⟩
def yU (k:T) (h:aL T->P:=by intro q;injection o with A o;injection o with z o;injection o with t C;exact q.o A z o t C):P:=h ⟨k⟩
def PL (k:T) (h:aL T->P:=by intro q;go_simp;show K _ _;refine be h3 ⟨a.drew,_,j.drew,rfl,rfl,rfl,rfl⟩ λhH=>?_;refine dj ?_;have j:=j.drew;have a:=a.drew;exact q.o hH j a):P:=h ⟨k⟩
def Fk (k:T) (h:aL T->P:=by intro q;have a6:decide (j<g.Rn):=bG b3;obtain⟨C,B,I,D,a⟩:=aA.at_ d'.1 (show 0<g.Rn by omega);exact q.o a6 C B I D a):P:=h ⟨k⟩
def DQ (k:T) (h:aL T->P:=by intro q;simp only[Result.andThen];rw[Oper.upon_value];exact q.o):P:=h ⟨k⟩
def SJ (h:P:=by unfold ar;rw[kM b a,Bool.and_false]):P:=h
def Qm (k:T) (h:aL T->P:=by intro q;unfold keyOf;rw[c];simp only[j,g,Bool.and_self,if_true,Option.isSome_map,e];exact q.o):P:=h ⟨k⟩
def yP (k:T) (h:aL T->P:=by intro q;show K _ _;refine be a (bU hH g) λhH=>?_;exact q.o hH):P:=h ⟨k⟩
def zF (k:T) (h:aL T->P:=by intro q;show K _ _;refine be N (bU hH L) λhH=>?_;exact q.o hH):P:=h ⟨k⟩
theorem Rw (h:P:=by rw[b]at a;injection a with a;grind[fX,cH]):P:=h
def OP {α0:Type} {A0:Prop} {A1:α0->Prop} {Q:α0->Prop} (k:A0-> ∀a0:α0,A1 a0->Q a0) (h:aL (A0-> ∀a0:α0,A1 a0->Q a0)->P:=by intro q;refine cO λhH=>?_;refine tg [0,1,2,3,4,5,6,7,8,9] (λ_ s=>gG (bC s M) (bC s W)) ?_;refine aV 10 λK f=>?_;go_simp;exact q.o hH K f):P:=h ⟨k⟩
def Pg {α0:Type} {A0:α0->Prop} {A1:α0->Prop} {Q:α0->Prop} (k:∀a0:α0,A0 a0->A1 a0->Q a0) (h:aL (∀a0:α0,A0 a0->A1 a0->Q a0)->P:=by intro q;refine aV 12 λK o=>?_;go_simp;show K _ _;refine o.out _ _ (((Below.refl b b).alloc ny _).alloc iy _).drew (λhH=>?_);exact q.o K o hH):P:=h ⟨k⟩
def Rj (h:P:=by rw[b,i];exact⟨⟨none,0,0,D,p,H⟩,l⟩):P:=h
def DU (k:T) (h:aL T->P:=by intro q;refine tk 1 ?_;refine tk 2 ?_;refine tk 3 ?_;exact q.o):P:=h ⟨k⟩
def QB (h:P:=by injection a with a;injection a with b c;omega):P:=h
def RT (k:T) (h:aL T->P:=by
 intro z;have f:cells.length=n*2:=by rw[<-s,et,kI];omega
 have q:(cells.drop (i*2)).length=2*(n-i):=by rw[gJ,f];omega
 exact z.o f q):P:=h ⟨k⟩
def Pv (k:T) (h:aL T->P:=by intro q;have i7:u<=k0:=oy;rw[k8]at c5 k2⊢;obtain⟨h',i2,d2,b7,f9,a6⟩:=dN c5 a5 (B.below a5 M) (j.below a5 j.lt) (I.below a5 oy) (A.trans (a5.mono a9));have i5:=d2.lt;exact q.o i7 h' i2 d2 b7 f9 a6 i5):P:=h ⟨k⟩
def lZ (k:T) (h:aL T->P:=by intro q;obtain⟨F,E,D,-,M⟩:=mr G C;exact q.o F E D M):P:=h ⟨k⟩
theorem QJ (h:P:=by rw[map_set];apply ext_getElem?;grind):P:=h
def Pz (h:P:=by simp only[fQ,Nat.zero_add]at this;exact this):P:=h
def Tq (k:T) (h:aL T->P:=by intro q;have j:az w ((w.alloc (.cells #[k.1,k.2] 51)).alloc (.cells #[(),""] 56)):=(aN.alloc ny _).alloc iy _;exact q.o j):P:=h ⟨k⟩
def Tl (h:P:=by rw[Int.tmod_eq_emod_of_nonneg oy];simp;omega):P:=h
def OQ (h:P:=by rw[d.o,d7.o,I.o,V.o];exact(na _).symm):P:=h
def Oq (h:P:=by rw[length_append,length_take];omega):P:=h
def Si (h:P:=by have:=qx l (aa.aD e.1);omega):P:=h
def DP (k:T) (h:aL T->P:=by intro q;refine mE (rZ _ c false _ rfl b) ?_;exact q.o):P:=h ⟨k⟩
def Tg (h:P:=by rw[b]at a;let⟨d,_,_,c⟩:=a;rw[c];rfl):P:=h
def PM (h:P:=by have:=qx (aa.aD e.1) l;omega):P:=h
end
section
open Go.WideShapes Go.ChangeShapes
section
variable{H:Type} {enc:TypeId×Value->H} {P:Program}
def UB {f:Func} {s:ChangeSpec} {h fresh handsOn again:Bool} {args:Array Value} {v:Value} {ds gs:List (DataW H)} {a pa pv:List MemPlace}
 (e:DataW.Whole enc P f.params.toList s.vars h W args.toList ds gs a)
 (n: ∀ (b:Nat) (sp:Nat->Bool) (z:Bool),DataW.TrodAll enc P W' b sp z f.resultTypes.toList (v.resultList f.resultTypes.size) (s.fn H (ds++gs)).results [])
 (i: ∀sp:Nat->Bool,(∀p∈a,sp p.block=true)->DataW.TrodAll enc P W' 0 sp true f.params.toList args.toList (s.fn H (ds++gs)).args pa)
 (g: ∀sp:Nat->Bool,(∀p∈a,sp p.block=true)->DataW.TrodVars enc P W' sp s.vars (s.fn H (ds++gs)).vars pv)
 (d:a=pa++pv) (q:Below W.heap.size W W')
 (x: ∀ (j:Nat) (t:TypeId) (r:Value),f.resultTypes[j]?=some t->(v.resultList f.resultTypes.size)[j]?=some r->Value.okWide P W' .any 0 t r):
 s.post enc P f h fresh handsOn again W args v W':=by
 have l: ∀p∈a,p.block<W.heap.size:=λp c=>e.lt p c;have m: ∀p∈a,(λb=>decide (b<W.heap.size)) p.block=true:=λp c=>by simpa using l p c
 refine⟨ds,gs,a,[],pa,pv,e,n _ _ _,i _ m,g _ m,World.keptBut_mono (λp c=>⟨c,?_⟩) (q.frame (· ∈a)),λ_=>?_⟩;{rw[d,mem_append]at c;exact Or.inr c};obtain⟨_,_,_,_,_,w,u⟩:=e;refine⟨x,_,_,([]++pa)++pv,⟨[]++pa,pv,trodAll_append (i _ (λ_ _=>rfl)) (n _ _ _),g _ (λ_ _=>rfl),rfl,?_,?_⟩,?_⟩;{intro b o c;(have k:MemPlace.cell b o∈a:=by rw[d];simpa using c);rw[q.frozen (l _ k)];exact w b o k};{intro y;have:=u y;rw[d]at this;simpa using this};intro p c _;rw[d];simpa using c
end
def vz (w:World) (e:Ending) (w':World):Prop:=e= .returned (.bool true)/\Below w.heap.size w w'
section
variable{H:Type} {enc:TypeId×Value->H} {P:Program}
def Gh (g:laidOutB P=true) (i:Below W.heap.size W W') {sp:Nat->Bool}: ∀ (ts:List TypeId) (b:List Value) (ds:List (DataW H)) (p:List MemPlace),
 (∀t∈ts,P.readableRec t=true/\t<P.types.size)->DataW.TrodAll enc P W 0 (λ_=>true) true ts b ds p->(∀x∈p,x.block<W.heap.size)->(∀x∈p,sp x.block=true)->DataW.TrodAll enc P W' 0 sp true ts b ds p
 |[],b,ds,p,_,c,_,_=>by
  obtain⟨rfl,rfl,rfl⟩:=trodAll_nil c
  exact trodAll_mk0
 |t::ts,b,ds,p,e,c,h,f=>by
  obtain⟨v,l,d,m,o,q,rfl,rfl,rfl,j,n⟩:=trodAll_cons c
  refine trodAll_cons_mk ?_ (Gh g i ts l m q (λt k=>e t (mem_cons_of_mem _ k)) n (λx a=>h x (by simp[a])) (λx a=>f x (by simp[a])))
  exact WideElems.Trod_stays g (e t iy).1 (e t iy).2 j (λx a=>i.same (h x (by simp[a]))) (λx a=>f x (by simp[a]))
def IY {f:Func} {s:ChangeSpec} {fresh:Bool} {W W':World} {args:Array Value} {ds gs:List (DataW H)} {a:List MemPlace} {H7:TypeId} {e:Ending} {h:Bool}
 (d:DataW.Whole enc P f.params.toList s.vars h W args.toList ds gs a) (u:laidOutB P=true) (A: ∀t∈f.params.toList,P.readableRec t=true/\t<P.types.size) (k:s.vars=[])
 (j:f.resultTypes= #[H7]) (i:P.underlying H7=some .bool) (z:(s.fn H (ds++gs)).results=[.lit (.bool true)]) (o:(s.fn H (ds++gs)).args=ds) (r:(s.fn H (ds++gs)).vars=[])
 (n:vz W e W'): ∃v,e= .returned v/\s.post enc P f h fresh false false W args v W':=by obtain⟨rfl,m⟩:=n;have g:=d;obtain⟨p,q,w,l,rfl,D,C⟩:=d;rw[k]at l;obtain⟨rfl,rfl⟩:=trodVars_none l;refine⟨_,rfl,UB (pa:=p) (pv:=[]) g ?_ ?_ ?_ iy m ?_⟩;{intro b sp B;rw[z,j];exact trodAll_mk1 (shut_bool i true)};{intro sp y;rw[o];exact Gh u m _ _ _ _ A w (λx c=>g.lt x (by simp[c])) (λx c=>y x (by simp[c]))};{intro sp _;rw[r,k];exact rfl};exact ok_one j rfl (okWide_bool_mk i true)
end
end
def aA {α:Type} (f:α->List ai) (sz:Nat) (W:Wd) (B:Nat) (A:ah ak) (n c:Nat) (xs:List α):Prop:=
 xs.length=n/\n<=c/\c<= ""/\(0<n-> ∃b d,A=some (b d)/\b<B/\ ∀j x,xs[j]?=some x-> ∀i a,(f x)[i]?=some a->W.cell? (b (d+j*sz+i))=some a)
section
variable{α:Type} {f:α->List ai} {sz:Nat} {W W':Wd} {B B' n c:Nat} {A:ah ak} {xs:List α}
def aA.none_ (W B):aA f sz W B none 0 0 []:=⟨rfl,ny,oy,λa=>absurd a oy⟩
theorem aA.keep (a:aA f sz W B A n c xs) (q: ∀b d,b<B->W'.cell? (b d)=W.cell? (b d)):aA f sz W' B A n c xs:=
 ⟨a.1,a.2.1,a.2.2.1,λh=>by
  let⟨b,m,e,g,p⟩:=a.2.2.2 h;exact⟨b,m,e,g,λj x o i l k=>(q _ _ g).trans (p j x o i l k)⟩⟩
def aA.more (a:aA f sz W B A n c xs) (i:B<=B'):aA f sz W B' A n c xs:=
 ⟨a.1,a.2.1,a.2.2.1,λd=>by
  let⟨b,g,e,j,h⟩:=a.2.2.2 d;exact⟨b,g,e,oy,h⟩⟩
def aA.below (g:aA f sz W B A n c xs) (e:Below B W W'):aA f sz W' B A n c xs:=g.keep λb d a=>e.cell (p:=(b d)) a
def aA.later (b:aA f sz W W A n c xs) (a:az W W'):aA f sz W' W' A n c xs:=(b.below a).more a.size
def aA.alloc (e:aA f sz W B A n c xs) (g:B<=W) (a:Obj):aA f sz (W.alloc a) B A n c xs:=e.keep λb d h=>World.cell?_alloc_lt W a (b d) (show b<W by omega)
def aA.at_ (g:aA f sz W B A n c xs) (e:0<n): ∃b d,A=some (b d)/\b<B/\ ∀j x,xs[j]?=some x-> ∀i a,(f x)[i]?=some a->W.cell? (b (d+j*sz+i))=some a:=g.2.2.2 e
def iP (a: ∀x,(f x).length=sz) (xs:List α):(xs.flatMap f).length=xs.length*sz:=by induction xs with|nil=>simp|cons x xs ih=>rw[gX,bu,ih,a,cH,Nat.succ_mul,Nat.add_comm]
theorem pE (b: ∀x,(f x).length=sz) (xs:List α) {x:α} (a:xs[j]?=some x) (d:i<sz):(xs.flatMap f)[j*sz+i]?=(f x)[i]?:=by induction xs generalizing j with|nil=>simp at a|cons y xs ih=>(cases j with|zero=>grind|succ j=>grind)
theorem aA.reads (g: ∀x,(f x).length=sz) (m:0<sz) (a:aA f sz W B A n c xs):Mem.Reads W B sz A n (xs.flatMap f):=by
 refine⟨by rw[iP g,a.1],λl=>?_⟩;let⟨b,d,e,r,u⟩:=a.at_ l;refine⟨(b d),e,r,λj s i=>?_⟩;have t:j<n*sz:=by have:=(List.getElem?_eq_some_iff.1 i).1;rw[iP g,a.1]at this;exact this
 have k:(Addr.mk b d none).add j=(b (d+j)):=Ai;rw[k];have q:j/sz<xs.length:=by rw[a.1];simp_all[Nat.mul_comm,Nat.div_lt_of_lt_mul]
 have o:j=(j/sz)*sz+j%sz:=by rw[Nat.mul_comm];exact(Nat.div_add_mod j sz).symm
 have p:=br q;rw[o,pE g xs p (Nat.mod_lt _ m)]at i;grind
theorem aA.CK (k: ∀x,(f x).length=sz) (o:0<sz) (g:Mem.Reads W B sz A n (xs.flatMap f)) (l: ∀d,A=some d->0<n-> ∃b a,d=⟨b,a,none⟩) (m:n<=c) (v:c<= ""):aA f sz W B A n c xs:=by
 have s:xs.length=n:=by have:=g.1;rw[iP k]at this;exact Nat.eq_of_mul_eq_mul_right o this
 refine⟨s,m,v,λh=>?_⟩;let⟨d,e,w,t⟩:=g.2 h;obtain⟨b,a,rfl⟩:=l d e h;refine⟨b,a,e,w,λj x p i u r=>?_⟩;have y: ∀i,(Addr.mk b a none).add i=(b (a+i)):=λi=>by grind[Addr.add]
 have q:i<sz:=by grind
 have:=t (j*sz+i) u (by rw[pE k xs p q];exact r);grind
theorem aA.dV (d: ∀x,(f x).length=sz) (b:0<sz) (a:W.ownsRow base e sz v n (xs.flatMap f)): ∃A c,v=slice A n c/\aA f sz W W.heap.size A n c xs:=by obtain⟨rfl,rfl⟩|⟨g,cap,j,rfl,o,k,h,m,_,_⟩:=a.2;{(have i:xs=[]:=by have:=a.1;rw[iP d]at this;have:=Nat.eq_of_mul_eq_mul_right b this;grind);subst i;exact⟨none,0,rfl,aA.none_ _ _⟩};exact⟨some (g 0),cap,rfl,aA.CK d b (Mem.Reads.dV a) (λl e _=>by grind) h (by grind[maxLen])⟩
theorem aA.drop {b:Nat} (a:aA f sz W B (some (b i)) n c xs) {k:Nat} (l:k<=n):aA f sz W B (some (b (i+k*sz))) (n-k) (c-k) (xs.drop k):=by refine⟨by rw[gJ,a.1],aR a.2.1,aR a.2.2.1,λd=>?_⟩;let⟨g,h,e,m,j⟩:=a.at_ oy;simp_all;grind
theorem aA.take (a:aA f sz W B A n c xs) {k:Nat} (i:k<=n):aA f sz W B A k c (xs.take k):=by refine⟨by rw[et,a.1];omega,aR a.2.1,a.2.2.1,λb=>?_⟩;let⟨d,g,e,j,h⟩:=a.at_ oy;grind
end
namespace aQ
def bS (t:Int):Bool:=decide (0<=t)&&decide (t<=())
def fh (v:Int):Bool:=decide (-()<=v)&&decide (v<=())
def cF (xs:List (Int×Int)) (i:Nat):Int:=(xs[i]?.getD (0,0)).1
def dU (xs:List (Int×Int)) (i:Nat):Int:=(xs[i]?.getD (0,0)).2
def bN (xs:List (Int×Int)) (i:Nat):Bool:=bS (cF xs i)&&fh (dU xs i)&& (decide (i=0)||decide (cF xs (i-1)<cF xs i))
def ar (xs:List (Int×Int)):Bool:=decide (xs.length<=64)&& (range xs.length).all (bN xs)
def aD (xs:List (Int×Int)):List (Int×Int):=if ar xs then xs else[]
def append (xs:List (Int×Int)) (x:Int×Int):List (Int×Int)×Int:=
 if bS x.1&&fh x.2 then
  if 0<(aD xs).length/\x.1<=cF (aD xs) ((aD xs).length-1)then(aD xs,9)
  else((if 64<=(aD xs).length then(aD xs).tail else aD xs)++[x],0)
 else(aD xs,2)
def nv (xs:List (Int×Int)) (t:Int):Nat->ah (Int×Int)
 |0=>none
 |k+1=>if cF xs k<=t then some (xs[k]?.getD (0,0))else nv xs t k
def kh (xs:List (Int×Int)) (t a:Int):(Int×Int)×Bool:=
 match nv (aD xs) t (aD xs).length with
 |some x=>if t-x.1<a then(x,true)else((0,0),false)
 |none=>((0,0),false)
def cells (xs:List (Int×Int)):List Int:=xs.flatMap λx=>[x.1,x.2]
theorem Ba (a:ar xs):xs.length<=64:=by simp[ar]at a;exact a.1
theorem Uo (xs:List (Int×Int)):(aD xs).length<=64:=by grind[aD,Ba]
theorem pF (b:ar xs) (a:i<xs.length):bN xs i:=by grind[ar]
theorem eo (xs:List (Int×Int)):ar xs=true↔xs.length<=64/\ ∀i,i<xs.length->bN xs i:=by simp[ar]
def Cz (b:i<xs.length) (a:bN xs i=false):ar xs=false:=by rcases c:ar xs with _|_;{rfl};rw[pF c b]at a;cases a
def UH (a:i<xs.length) (b:bS (cF xs i)=false):ar xs=false:=Cz a (by simp[bN,b])
def US (a:i<xs.length) (b:fh (dU xs i)=false):ar xs=false:=Cz a (by simp[bN,b])
def Um (a:i<xs.length) (b:0<i) (c:cF xs i<=cF xs (i-1)):ar xs=false:=Cz a (by simp[bN];omega)
theorem xJ (a:bS (cF xs i)) (c:fh (dU xs i)) (b:i=0\/cF xs (i-1)<cF xs i):bN xs i:=by simp[bN,a,c];exact b
def Mz {k:Nat} (c: ∀j,j<k->bN xs j) (b:bN xs k): ∀j,j<k+1->bN xs j:=λj d=>by
 obtain a|a:=Nat.lt_or_ge j k;{exact c j a};obtain rfl:j=k:=oy;exact b
def uK {n:Nat} (c:xs.length=n) (d:n<=64) (a: ∀j,j<n->bN xs j):ar xs:=(eo xs).2 ⟨oy,λi b=>a i oy⟩
theorem adp {k:Nat} (a:(!cF xs k==cF ys k)\/(!dU xs k==dU ys k)):decide (xs=ys)=false:=by grind
def agN {k:Nat} (c: ∀j,j<k->cF xs j=cF ys j/\dU xs j=dU ys j) (b:(!cF xs k==cF ys k)=false/\(!dU xs k==dU ys k)=false):
 ∀j,j<k+1->cF xs j=cF ys j/\dU xs j=dU ys j:=λj d=>by
 obtain a|a:=Nat.lt_or_ge j k;{exact c j a};obtain rfl:j=k:=oy;simpa using b
theorem adx (a:xs.length=ys.length) (b: ∀j,j<xs.length->cF xs j=cF ys j/\dU xs j=dU ys j):decide (xs=ys):=by rw[decide_eq_true_iff];grind[cF,dU,ext_getElem,Prod.ext]
end aQ
namespace dX
def cP (W:Wd) (B:Nat) (A:ah ak) (n c:Nat) (xs:List (Int×Int)):Prop:=
 xs.length=n/\n<=c/\c<= ""/\(0<n-> ∃b a,A=some (b a)/\b<B/\ ∀j,j<n->
  W.cell? (b (a+j*2))=(cF xs j:ai)/\W.cell? (b (a+j*2+1))=(dU xs j:ai))
section
variable{W W':Wd} {B B' n c:Nat} {A:ah ak} {xs:List (Int×Int)}
def cP.len (a:cP W B A n c xs):xs.length=n:=a.1
def cP.none_ (W B):cP W B none 0 0 []:=⟨rfl,ny,oy,λa=>absurd a oy⟩
theorem cP.keep (a:cP W B A n c xs) (i: ∀b h,b<B->W'.cell? (b h)=W.cell? (b h)):cP W' B A n c xs:=
 ⟨a.1,a.2.1,a.2.2.1,λk=>by
  let⟨b,l,e,d,g⟩:=a.2.2.2 k;exact⟨b,l,e,d,λj f=>⟨(i _ _ d).trans (g j f).1,(i _ _ d).trans (g j f).2⟩⟩⟩
def cP.more (a:cP W B A n c xs) (h:B<=B'):cP W B' A n c xs:=
 ⟨a.1,a.2.1,a.2.2.1,λd=>by
  let⟨b,f,e,i,g⟩:=a.2.2.2 d;exact⟨b,f,e,oy,g⟩⟩
def cP.below (f:cP W B A n c xs) (e:Below B W W'):cP W' B A n c xs:=f.keep λb d a=>e.cell (p:=(b d)) a
def cP.later (b:cP W W A n c xs) (a:az W W'):cP W' W' A n c xs:=(b.below a).more a.size
def cP.alloc (e:cP W B A n c xs) (f:B<=W) (a:Obj):cP (W.alloc a) B A n c xs:=e.keep λb d g=>World.cell?_alloc_lt W a (b d) (show b<W by omega)
theorem cP.setCell (d:cP W B A n c xs) {p:ak} (f:B<=p.block) (a:ai):cP (W p a) B A n c xs:=d.keep λb g h=>fj W p (b g) a (λe=>by subst e;simp at f;omega)
def cP.at_ (d:cP W B A n c xs) {k:Nat} (e:k<n): ∃b a,A=some (b a)/\b<B/\ ∀j,j<n->
 W.cell? (b (a+j*2))=(cF xs j:ai)/\W.cell? (b (a+j*2+1))=(dU xs j:ai):=d.2.2.2 oy
theorem wF (xs):(aQ.cells xs).length=xs.length*2:=by induction xs with|nil=>rfl|cons x xs ih=>(simp only[aQ.cells,gX,bu,cH,fQ]at*;omega)
theorem rX (xs) (a:j<xs.length):(aQ.cells xs)[j*2]?=some (cF xs j)/\(aQ.cells xs)[j*2+1]?=some (dU xs j):=by induction xs generalizing j with|nil=>simp at a|cons x xs ih=>(cases j with|zero=>simp[aQ.cells,cF,dU]|succ j=>grind[aQ.cells,cF,dU,gX,lu,jb])
theorem cP.reads (a:cP W B A n c xs):Mem.Reads W B 2 A n ((aQ.cells xs).map (Value.int .i64)):=by
 refine⟨by rw[cC,wF,a.1],λk=>?_⟩;let⟨b,g,e,m,r⟩:=a.at_ k;refine⟨(b g),e,m,λj o d=>?_⟩;have p:=a.1;have q:j<n*2:=by grind[cC,wF,bZ]
 have i:(Addr.mk b g none).add j=(b (g+j)):=Ai;rw[i];rw[dw]at d;obtain l|l:=Nat.mod_two_eq_zero_or_one j;{have f:j=(j/2)*2:=oy;rw[f,(rX xs oy).1]at d;grind};have f:j=(j/2)*2+1:=oy;rw[f,(rX xs oy).2]at d;grind
theorem cP.CK (f:Mem.Reads W B 2 A n ((aQ.cells xs).map (Value.int .i64))) (h: ∀d,A=some d->0<n-> ∃b a,d=(an b a)) (k:n<=c) (m:c<= ""):cP W B A n c xs:=by
 have l:xs.length=n:=by have:=f.1;rw[cC,wF]at this;omega
 refine⟨l,k,m,λg=>?_⟩;let⟨d,e,o,s⟩:=f.2 g;obtain⟨b,a,rfl⟩:=h d e g;refine⟨b,a,e,o,λj r=>?_⟩;have p: ∀i,(Addr.mk b a none).add i=(b (a+i)):=λi=>by grind[Addr.add]
 let⟨q,t⟩:=rX xs (j:=j) oy;simp_all[dw,Nat.add_assoc]
theorem cP.dV (a:W.ownsRow base e 2 v n ((aQ.cells xs).map (Value.int .i64))): ∃A c,v=slice A n c/\cP W W.heap.size A n c xs:=by obtain⟨rfl,rfl⟩|⟨g,cap,f,rfl,k,h,b,j,_,_⟩:=a.2;{(have d:xs=[]:=by have:=a.1;rw[cC,wF]at this;exact je oy);subst d;exact⟨none,0,rfl,cP.none_ _ _⟩};exact⟨some (g 0),cap,rfl,cP.CK (Mem.Reads.dV a) (λi e _=>by grind) b (by grind[maxLen])⟩
end
def gw {a b:Bool} (c:a=b):Ending.returned a= .returned b:=by rw[c]
def pw (t w):Calls prog 100 #[int .i64 t] w λe w'=>e= .returned (bool (aQ.bS t))/\w=w':=by
 go_enter func100,ntmps100;go_wp2;all_goals go_ret
 all_goals exact⟨gw (by simp[aQ.bS];omega),rfl⟩
def nf (t w):Calls prog 101 #[int .i64 t] w λe w'=>e= .returned (bool (fh t))/\w=w':=by
 go_enter func101,ntmps101;go_wp2;all_goals go_ret
 all_goals exact⟨gw (by simp[fh];omega),rfl⟩
def mD (A n c xs w) (a:cP w w A n c xs):
 Calls prog 55 #[slice A n c] w (bO w (aQ.ar xs)):=by have r:=a.1;have O:=a.2.1;by_cases J:64<n;{go_enter func55,ntmps55;go_wp2;go_ret;exact⟨gw (by simp[aQ.ar];omega),aN⟩};have L: ¬(64:Int)<(n:Int):=oy;go_enter func55,ntmps55;go_wp2;go_loopw[10] (λi wr=> ∃k:Nat,k<=n/\i=k/\(∀j,j<k->aQ.bN xs j)/\az w wr) (λi _=>n- (intOf i).toNat);(case atStart=>exact⟨0,dR _,rfl,λj B=>absurd B oy,aN⟩);case round=>obtain⟨k,Q,rfl,q,d⟩:=hrel;by_cases o:k<n;{obtain⟨b,E,rfl,F,l⟩:=a.at_ o;have N:=bC d (l k o).1;have M:=bC d (l k o).2;let⟨u,C,I,z⟩:=bJ q l a r;have K:=d.size;clear q l a r;by_cases g:aQ.bS (cF xs k);{by_cases f:fh (dU xs k);{obtain m|m:=jY k;{have H:decide (0<k)=false:=uy;have D:=hJ m;clear m;(go_wp2_with(first|(go_at_call 100;refine(pw _ _).mono ?_;rintro e w' ⟨rfl,rfl⟩)|(go_at_call 101;refine(nf _ _).mono ?_;rintro e w' ⟨rfl,rfl⟩)));go_quiet (fail);go_wp2;go_roundw;(case rel=>exact⟨k+1,oy,bh,Mz u.o (xJ g f (.inl D.o)),ly⟩);case measure=>exact cn};have G: ∀p,(wr.alloc p).cell? (b (E+(k-1)*2))=(cF xs (k-1):ai):=λp=>(World.cell?_alloc_lt wr p _ (show b<wr by omega)).trans (bC d (C.o (k-1) oy).1);have t:IntKind.i64.wrap ((k:Int)-1)=(k:Int)-1:=fA _ oy;have s:((k:Int)-1).toNat=k-1:=oy;by_cases v:cF xs k<=cF xs (k-1);{(go_wp2_with(first|(go_at_call 100;refine(pw _ _).mono ?_;rintro e w' ⟨rfl,rfl⟩)|(go_at_call 101;refine(nf _ _).mono ?_;rintro e w' ⟨rfl,rfl⟩)));go_quiet (fail);clear t s;go_wp2;go_ret;exact⟨gw (Um jZ m v).symm,ly⟩};(go_wp2_with(first|(go_at_call 100;refine(pw _ _).mono ?_;rintro e w' ⟨rfl,rfl⟩)|(go_at_call 101;refine(nf _ _).mono ?_;rintro e w' ⟨rfl,rfl⟩)));go_quiet (fail);clear t s;go_wp2;go_roundw;(case rel=>exact⟨k+1,oy,bh,Mz u.o (xJ g f (.inr oy)),ly⟩);case measure=>exact cn};(have x:fh (dU xs k)=false:=by simpa using f);clear f;(go_wp2_with(first|(go_at_call 100;refine(pw _ _).mono ?_;rintro e w' ⟨rfl,rfl⟩)|(go_at_call 101;refine(nf _ _).mono ?_;rintro e w' ⟨rfl,rfl⟩)));go_ret;exact⟨gw (US jZ x).symm,ly⟩};(have y:aQ.bS (cF xs k)=false:=by simpa using g);clear g;(go_wp2_with(first|(go_at_call 100;refine(pw _ _).mono ?_;rintro e w' ⟨rfl,rfl⟩)|(go_at_call 101;refine(nf _ _).mono ?_;rintro e w' ⟨rfl,rfl⟩)));go_ret;exact⟨gw (UH jZ y).symm,ly⟩};(obtain rfl:k=n:=by omega);go_wp2;go_ret;exact⟨gw (aQ.uK r oy q).symm,d⟩
def KT (w a b c d):(Op.equalIn 10000 49 (agg #[int .i64 a,int .i64 b]) (agg #[int .i64 c,int .i64 d])).run prog w= .ok (a==c&&b==d) w:=by have j:=underlying3;have k:=isAgg3;have i:=sizeOf3;have f:prog.underlying 49=some (.struct (prog.fieldsOf 49)):=ry;have h:prog.stoodInHeld 49=false:=ry;rw[show(10000:Nat)=9999+1 from rfl,run_equalIn_agg w 9999 49 _ _ f h];simp only[Program.fieldsOf,underlying49];go_simp;by_cases e:a=c<;>by_cases g:b=d<;>simp[e,g]
def afm (w a b c d):(binOp .neq 49 (agg #[int .i64 a,int .i64 b]) (agg #[int .i64 c,int .i64 d])).run prog w= .ok (bool (!(a==c&&b==d))) w:=by rw[run_neq_struct,KT];rfl
def afa (w a b c d):(binOp .eql 49 (agg #[int .i64 a,int .i64 b]) (agg #[int .i64 c,int .i64 d])).run prog w= .ok (bool (a==c&&b==d)) w:=by rw[run_eql_struct,KT];rfl
def aai (w) (op:BinOp) (x y xs ys):(eqGuard op 49 x y (agg xs) (agg ys)).run prog w= .ok () w:=run_eqGuard_agg w op _ x y xs ys ry
attribute [local go_sem↓] afm afa aai
def GC (B A n c xs w) (b:B<=w.heap.size) (f:cP w B A n c xs):
 Calls prog 159 #[slice A n c] w λe w'=> ∃A' n' c',e= .returned (slice A' n' c')/\cP w' B A' n' c' (aQ.aD xs)/\az w w':=by
 cases d:aQ.ar xs;all_goals(go_enter func159,ntmps159;(go_wp2_with(go_at_call 55;refine(mD A n c xs _ (f.more b)).mono ?_;rintro e w' ⟨rfl,a⟩));go_ret)
 {exact⟨none,0,0,rfl,by unfold aQ.aD;rw[d];exact cP.none_ _ _,a⟩};exact⟨A,n,c,rfl,by unfold aQ.aD;rw[d];exact f.below (a.mono b),a⟩
def adH (A D n c m d xs ys w) (a:cP w w A n c xs) (g:cP w w D m d ys):
 Calls prog 31 #[slice A n c,slice D m d] w (bO w (decide (xs=ys))):=by have s:=a.1;have R:=a.2.1;have I:=a.2.2.1;by_cases u:n=m;{have z:((n:Int) !=(m:Int))=false:=uy;have x:=g.1;have p:=hJ u;go_enter func31,ntmps31;go_wp2;go_loopw[5] (λi wr=> ∃k:Nat,k<=n/\i=k/\(∀j,j<k->cF xs j=cF ys j/\dU xs j=dU ys j)/\az w wr) (λi _=>n- (intOf i).toNat);(case atStart=>exact⟨0,dR _,rfl,λj v=>absurd v oy,aN⟩);case round=>obtain⟨k,S,rfl,q,e⟩:=hrel;by_cases l:k<n;{have f:k<m:=aR p.o;obtain⟨b,K,rfl,F,r⟩:=a.at_ l;obtain⟨C,O,rfl,H,o⟩:=g.at_ f;have M:=bC e (r k l).1;have J:=bC e (r k l).2;have N:=bC e (o k f).1;have G:=bC e (o k f).2;let⟨y,E,GL⟩:=aM q s x;have Q:(0:Int)<=k:=oy;have L:k<(n:Int):=oy;go_wp2;go_quiet (fail);go_wp2;{have B:(!cF xs k==cF ys k)=true\/(!dU xs k==dU ys k)=true:=im;go_ret;refine⟨gw (adp B).symm,ly⟩};have t:(!cF xs k==cF ys k)=false/\(!dU xs k==dU ys k)=false:=im;go_roundw;(case rel=>exact⟨k+1,oy,bh,agN y.o t,ly⟩);case measure=>simp[intOf];omega};obtain rfl:k=n:=oy;go_wp2;go_ret;exact⟨gw (adx (aR p.o) (by rw[s];exact q)).symm,e⟩};have z:((n:Int) !=(m:Int)):=uy;go_enter func31,ntmps31;go_wp2;go_ret;exact⟨gw (by simp;rintro rfl;have:=a.1;have:=g.1;omega),aN⟩
def Na (w a n c):(binOp .eql 105 (slice a n c) ()).run prog w= .ok a.isNone w:=Lib.run_eql_slice_nil w _ _ a n c 0 0 underlying105
def Mw:(prog.info? 49).map (λi=>(i.zero,i.size,i.bytes))=some (some (agg #["",""]),2,16):=ry
def Ce (A n c xs w) (b:cP w w A n c xs) (D:n*16<=140737488351232):
 Calls prog 161 #[slice A n c] w λe w'=> ∃v,e= .returned v/\w'.ownsRow w 49 2 v n ((aQ.cells xs).map (Value.int .i64))/\az w w':=by let⟨m,j,q,r,B⟩:=info_parts Mw;have l:=b.reads;obtain _|a:=A;{have d:=Na w none n c;simp only[Option.isNone]at d;go_enter func161,ntmps161;go_wp2;go_ret;(obtain rfl:n=0:=by exact QD);have t:=je b.1;subst t;exact zo};have d:=Na w (some a) n c;simp only[Option.isNone]at d;go_enter func161,ntmps161;(have y: ∀f∈(aQ.cells xs).map (Value.int .i64),f.oneCell':=by intro f s;obtain⟨x,_,rfl⟩:=fx.1 s;rfl);have u:(w.alloc (.cells #[] 49)).ownsRow w 49 2 (bR w 0 0) 0 []:=⟨iy,.inr ⟨w,0,#[],rfl,ny,heap_alloc_new w _,ny,by unfold maxLen;omega,rfl,rfl⟩⟩;let⟨o,z,p⟩:=aM (l.alloc ny (.cells #[] 49)) y u;(go_wp2_with(at_builtin;refine nd _ rfl (.tmp 5) (.tmp 6) 105 rfl w 49 m _ 2 16 underlying105 j q r B rfl dy (bR w 0 0) 0 [] rfl p.o w (some a) n c _ rfl o.o z.o my oy iy ?_;intro C F g i E));exact pZ
end dX
namespace aQ
theorem agE (xs:List (Int×Int)) (s:Nat):(cF xs s,dU xs s)=xs[s]?.getD (0,0):=rfl
def mO (xs:List (Int×Int)) (s:Nat):List (Int×Int):=xs.reverse.take (xs.length-s)
theorem IG (a:s<xs.length):mO xs (s+1)++[(cF xs s,dU xs s)]=mO xs s:=by unfold mO;have e:xs.length-s=(xs.length- (s+1))+1:=oy;grind[take_add_one,agE]
def abx (xs:List (Int×Int)):mO xs 0=xs.reverse:=by unfold mO;rw[take_of_length_le iy]
def Zj (xs:List (Int×Int)):mO xs xs.length=[]:=by simp[mO]
def VC:(mO xs s).length=xs.length-s:=by simp[mO]
def Vx (xs:List (Int×Int)) (s:Nat):mO xs s<+:xs.reverse:=take_prefix _ _
theorem Wr {k:Nat} (a: ∀i,i<k->t<cF xs i):nv xs t k=none:=by induction k with|zero=>rfl|succ k ih=>grind[nv]
theorem WD {k:Nat} (c:s<k) (d: ∀i,s<i->i<k->t<cF xs i) (b:cF xs s<=t):nv xs t k=some (xs[s]?.getD (0,0)):=by induction k with|zero=>omega|succ k ih=>(obtain a|a:=Nat.lt_or_ge s k;{grind[nv]};obtain rfl:s=k:=oy;rw[nv,if_pos b])
theorem agu (a:i<xs.length):xs[i]?.getD (0,0)∈xs:=by grind
def aeT (b: ∀x∈(aD xs).reverse,t<x.1):kh xs t I=((0,0),false):=by unfold kh;rw[Wr];intro i a;exact b _ (mem_reverse.2 (agu a))
theorem Gj (b:J1++[x]<+:ys.reverse) (e: ∀y∈J1,t<y.1) (d:x.1<=t):x∈ys/\nv ys t ys.length=some x:=by
 obtain⟨l,c⟩:=b;have hy:ys=l.reverse++[x]++J1.reverse:=by grind
 refine⟨by rw[hy];simp,?_⟩;have a:ys[l.length]?=some x:=by rw[hy];simp
 rw[WD (s:=l.length)];{rw[a];rfl};{rw[hy];simp};{grind[cF]};grind[cF]
theorem UU (a:x∈aD xs):0<=x.1/\x.1<=()/\ -()<=x.2/\x.2<=():=by unfold aD at a;split at a;{obtain⟨i,b,e⟩:=mem_iff_getElem.1 a;have:=pF ‹_› b;simp_all[bN,cF,dU,bS,fh,decide_eq_true_eq]};cases a
def IE (a:J1++[x]<+:(aD xs).reverse) (c: ∀y∈J1,t<y.1) (b:x.1<=t):
 kh xs t I=if t-x.1<I then(x,true)else((0,0),false):=by unfold kh;rw[(Gj a c b).2]
end aQ
end Go.Proofs.YteagjoghhfngoaaGreatDoor
