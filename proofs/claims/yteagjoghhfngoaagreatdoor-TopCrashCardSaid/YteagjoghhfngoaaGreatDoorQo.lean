import Derived.Test.YteagjoghhfngoaaGreatDoorQk
import Derived.Test.YteagjoghhfngoaaGreatDoorRows
import Derived.ChangeMaps5
import Derived.LaidMore
import Derived.Lay
import Derived.LaidLaws
import Derived.LaidHandle
import Derived.Stop.Joined
import Derived.Stop.LaidErr
set_option maxRecDepth 100000
set_option maxHeartbeats 32000000
set_option linter.all false
namespace Go.Proofs.YteagjoghhfngoaaGreatDoor
open Go.RowKit Go.Proofs.Tryz Value List aa
variable{cs l:List Value} {b:List UInt8} {v:Value} {W:World} {n:Nat}
section
open Go.WideShapes Go.ChangeShapes Go.Joins Go.Deep
def CR:ownKnob Tryz.prog.godebug=none:=by kernel_rfl
def tT:laidOutB Tryz.prog=true:=by kernel_rfl
def Ng:Tryz.prog.globalNamed "watchtower/dur.units" =some 1:=by kernel_rfl
def ahp:Tryz.prog.globalNamed "watchtower/cond.signs" =some 2:=by kernel_rfl
def afN:Tryz.prog.globalNamed "watchtower/eval.states" =some 3:=by kernel_rfl
def aie:Tryz.prog.globalNamed "internal/strconv.uint64pow10" =some 4:=by kernel_rfl
def ahi:(Tryz.prog.globals[1]?).map (·.type)=some 329:=by kernel_rfl
def agZ:(Tryz.prog.globals[2]?).map (·.type)=some 337:=by kernel_rfl
def afQ:(Tryz.prog.globals[3]?).map (·.type)=some 360:=by kernel_rfl
def aiR:(Tryz.prog.globals[4]?).map (·.type)=some 437:=by kernel_rfl
def NB:Tryz.prog.cellsOf 328=2:=by kernel_rfl
def ahl:Tryz.prog.cellsOf 329=10:=by kernel_rfl
def ahu:Tryz.prog.cellsOf 337=7:=by kernel_rfl
def afs:Tryz.prog.cellsOf 360=3:=by kernel_rfl
def aiB:Tryz.prog.cellsOf 175=1:=by kernel_rfl
def aiF:Tryz.prog.cellsOf 437=20:=by kernel_rfl
def xX:Tryz.prog.cellsOf 9=1:=by kernel_rfl
def zW:Tryz.prog.cellsOf 3=1:=by kernel_rfl
def ahC:Tryz.prog.cellsOf 4=1:=by kernel_rfl
def Nw:Tryz.prog.cellsOf 69=2:=by kernel_rfl
def ahj:Tryz.prog.cellsOf 47=1:=by kernel_rfl
def Ml:Tryz.prog.cellsOf 49=2:=by kernel_rfl
def RD:Tryz.prog.cellsOf 51=2:=by kernel_rfl
def QV:Tryz.prog.cellsOf 53=9:=by kernel_rfl
abbrev jS:List (String×DataW Unit):=[("math/bits.deBruijn32tab",Rows.laid_math_bits_deBruijn32tab),("math/bits.deBruijn64tab",Rows.laid_math_bits_deBruijn64tab),("internal/strconv.uint64pow10",Rows.laid_internal_strconv_uint64pow10),("unicode/utf8.acceptRanges",Rows.laid_unicode_utf8_acceptRanges),("watchtower/dur.units",Rows.laid_watchtower_dur_units),("watchtower/cond.signs",Rows.laid_watchtower_cond_signs),("watchtower/eval.states",Rows.laid_watchtower_eval_states),("unicode/utf8.first",Rows.laid_unicode_utf8_first)]
def Ck (os:Os) (args:Array Value):laidMetH Tryz.prog jS ((World.laidAll Tryz.prog os jS).forCall (λ_ _=>0) ⟨#[],args,[]⟩).memory:=by rw[MakeChecks.laidMetH_plain _ _ _ (by kernel_rfl)];exact laidMet_laidAll _ (by kernel_rfl) (by kernel_rfl)
section
variable{H:Type} {enc:TypeId×Value->H} {w:World} {base:Nat} {sp:Nat->Bool} {held:Bool} {fuel:Nat}
def acV {p:List MemPlace} (e:DataW.trod enc Tryz.prog w base sp held fuel 9 l=some (.lit (.string b),p)):l=[.string ⟨b.toArray⟩]:=by obtain⟨s,c,d,_⟩:=DataW.trod_string Tryz.underlying9 e;have a:=congrArg Prod.fst d;simp only at a;injection a with a;injection a with a;subst a;rw[c]
def tY {z:Int} {p:List MemPlace} (m:DataW.trod enc Tryz.prog w base sp held fuel 328 l=some (.agg [.lit (.string b),.lit (.int .i64 z)],p)):l=[.string ⟨b.toArray⟩,.int .i64 z]:=by obtain⟨xs,n,_,g,f,x,h⟩:=DataW.trod_struct Tryz.underlying328 m;rw[NB]at f;match l,f with|[u,v],_=>(have r:=h 0 _ rfl;have i:=h 1 _ rfl;match xs,x with|[A,t],_=>(simp only[Prod.mk.injEq,DataW.agg.injEq,map_cons,map_nil,List.cons.injEq,and_true]at g;obtain⟨⟨e,d⟩,_⟩:=g;have o:DataW.trod enc Tryz.prog w base sp held n 9 [u]=some A:=r;have q:DataW.trod enc Tryz.prog w base sp held n 3 [v]=some t:=i;obtain⟨s,a,y,_⟩:=DataW.trod_string Tryz.underlying9 o;obtain⟨k,c,j,_⟩:=DataW.trod_int Tryz.underlying3 q;injection a with a _;injection c with c _;subst a c;rw[y]at e;rw[j]at d;simp only[DataW.lit.injEq,Lit.string.injEq,Lit.int.injEq,true_and]at e d;subst e d;rfl))
end
def chunk {x:Value} {i:Nat} (c:(cs.drop (i*2)).take 2=[x,v]):cs[i*2]?=some x/\cs[i*2+1]?=some v:=by have b:=congrArg (λl:List Value=>l[0]?) c;have a:=congrArg (λl:List Value=>l[1]?) c;simp[getElem?_take,getElem?_drop]at b a;exact⟨b,a⟩
def GX {nm:String} {g:Nat} {cs:Array Value} (b:Tryz.prog.globalNamed nm=some g) (a:W.var? Tryz.prog nm=some cs): ∃t fr,W.heap[g]?=some (.cells cs t fr):=by
 unfold World.var? at a;rw[b]at a;try simp only[Option.bind_some]at a
 split at a;{rename_i cs' t fr c;injection a with a;exact⟨t,fr,by rw[c,a]⟩};cases a
def Ma: ∀ (bs:List (List UInt8)) (xs:List (DataW Unit×List MemPlace)) (l:List Value),xs.map (·.1)=bs.map (λb=> .lit (.string b))->l.length=bs.length->(∀i,i<bs.length->DataW.trod (λ_=>()) Tryz.prog W 0 (λ_=>true) false n 9 ((l.drop (i*1)).take 1)=xs[i]?)->l=bs.map λb=> .string ⟨b.toArray⟩
 |[],_,[],_,_,_=>rfl
 |b::bs,x::xs,v::l,a,g,d=>by
  simp only[map_cons,List.cons.injEq]at a;have c:=acV ((d 0 (by simp)).trans (congrArg some (Prod.ext a.1 rfl:x=(_,x.2))));have e:=Ma bs xs l a.2 (by simpa using g) (λi f=>by have:=d (i+1) (by simpa using f);simpa[Nat.mul_one]using this);simp only[Nat.zero_mul,drop_zero,take_succ_cons,take_zero,List.cons.injEq,and_true]at c;rw[c,e];rfl
def KK {W:World} {nm:String} {bs:List (List UInt8)} {g n:Nat} {T:TypeId} {rest:List (String×DataW Unit)} (a:Tryz.prog.globalNamed nm=some g) (f:(Tryz.prog.globals[g]?).map (·.type)=some T) (s:Tryz.prog.underlying T=some (.array n 9)) (v:Tryz.prog.cellsOf T=n) (y:bs.length=n) (e:laidMet Tryz.prog ((nm,.agg (bs.map λb=> .lit (.string b)))::rest) W): ∃t fr,W.heap[g]?=some (.cells (bs.map λb=>Value.string ⟨b.toArray⟩).toArray t fr):=by
 obtain⟨A,⟨C,z,cs,fuel,p,q,u,j,x,k,_,_⟩,_⟩:=e;obtain rfl:=Option.some.inj (a.symm.trans u);obtain rfl:=Option.some.inj (f.symm.trans j);obtain⟨xs,m,_,d,o,D,c⟩:=DataW.trod_array s k;rw[v]at o;rw[xX]at c;have l:xs.map (·.1)=bs.map λb=> .lit (.string b):=by exact OI
 have:=Ma bs xs cs.toList l (by omega) (λi B=>c i (by omega));have r:cs=(bs.map λb=>Value.string ⟨b.toArray⟩).toArray:=Array.toList_inj.1 (by rw[this]);rw[<-r];exact GX a x
def adq {rest:List (String×DataW Unit)} (v:laidMet Tryz.prog (("watchtower/dur.units",Rows.laid_watchtower_dur_units)::rest) W): ∃t fr,W.heap[1]?=some (.cells di.rS t fr):=by
 obtain⟨N,⟨Q,M,cs,fuel,p,q,E,x,G,y,_,_⟩,_⟩:=v;obtain rfl:=Option.some.inj (Ng.symm.trans E);obtain rfl:=Option.some.inj (ahi.symm.trans x);obtain⟨xs,m,_,d,f,F,a⟩:=DataW.trod_array Tryz.underlying329 y;rw[ahl]at f;have b:xs.map (·.1)=[.agg [.lit (.string [100]),.lit (.int .i64 86400000)],.agg [.lit (.string [104]),.lit (.int .i64 3600000)],.agg [.lit (.string [109]),.lit (.int .i64 60000)],.agg [.lit (.string [115]),.lit (.int .i64 1000)],.agg [.lit (.string [109,115]),.lit (.int .i64 1)]]:=by exact OI
 match xs,F,b,a with|[e,c,n,r,g],_,b,a=>(simp only[map_cons,map_nil,List.cons.injEq,and_true]at b;obtain⟨z,D,B,u,A⟩:=b;rw[NB]at a;have s:=chunk (tY ((a 0 (by decide)).trans (congrArg some (Prod.ext z rfl:e=(_,e.2)))));have j:=chunk (tY ((a 1 (by decide)).trans (congrArg some (Prod.ext D rfl:c=(_,c.2)))));have i:=chunk (tY ((a 2 (by decide)).trans (congrArg some (Prod.ext B rfl:n=(_,n.2)))));have o:=chunk (tY ((a 3 (by decide)).trans (congrArg some (Prod.ext u rfl:r=(_,r.2)))));have k:=chunk (tY ((a 4 (by decide)).trans (congrArg some (Prod.ext A rfl:g=(_,g.2)))));(have C:cs=di.rS:=by apply Array.toList_inj.1;generalize cs.toList=l at*;match l,f with|[T,a1,a2,S,K,L,R,I,J,O],_=>(simp at s j i o k;obtain⟨rfl,rfl⟩:=s;obtain⟨rfl,rfl⟩:=j;obtain⟨rfl,rfl⟩:=i;obtain⟨rfl,rfl⟩:=o;obtain⟨rfl,rfl⟩:=k;rfl));rw[<-C];exact GX Ng G)
def AM (b:laidMetH Tryz.prog jS W):jw W:=by rw[MakeChecks.laidMetH_plain _ _ _ (by kernel_rfl)]at b;have d:=laidMet.tail (laidMet.tail b);have a:=laidMet.tail (laidMet.tail d);have c:=laidMet.tail a;have f:=laidMet.tail c;have e:Lib.TabIs Tryz.prog W "internal/strconv.uint64pow10" .u64 Lib.pow10Tab:=Lib.tabIs_of_head aie aiR Tryz.underlying437 Tryz.underlying175 aiB aiF d;refine⟨e,?_,?_,?_,e⟩;{exact KK (bs:=[[],[112,101,110,100,105,110,103],[102,105,114,105,110,103]]) afN afQ Tryz.underlying360 afs rfl f};{exact KK (bs:=[[],[62],[62,61],[60],[60,61],[61,61],[33,61]]) ahp agZ Tryz.underlying337 ahu rfl c};exact adq a
section
variable{H:Type} {enc:TypeId×Value->H} {W:World} {P:Program} {base:Nat}
def mL {a:Array Field} {xs:List (DataW H×List MemPlace)} {n:Nat} {cs:List Value}
 (j: ∀ (i:Nat) (f:Field),a[i]?=some f->DataW.trod enc P W 0 (λ_=>true) true n f.type ((cs.drop f.offset).take (P.cellsOf f.type))=xs[i]?) (g:xs.length=a.size)
 (i:Nat) (f:Field) (b:a[i]?=some f) (t:TypeId) (c k:Nat) (e:f.type=t) (d:f.offset=c) (h:P.cellsOf t=k):
 ∃y,DataW.trod enc P W 0 (λ_=>true) true n t ((cs.drop c).take k)=some y:=by subst e d h;have:=j i f b;obtain⟨y,hy⟩: ∃y,xs[i]?=some y:=⟨_,getElem?_eq_getElem (by rw[g];exact(Array.getElem?_eq_some_iff.1 b).1)⟩;exact⟨y,this.trans hy⟩
def Ni {F4:Type} (d:F4) {f:F4->List Value} {sz:Nat} {g:F4->Prop} {t e:TypeId} {fuel:Nat} {cs:List Value} {x:DataW H×List MemPlace} (J:P.underlying t=some (.slice e)) (Q:P.cellsOf e=sz) (v: ∀x,(f x).length=sz) (R:0<sz)
 (K: ∀n cs' y,DataW.trod enc P W 0 (λ_=>true) true n e cs'=some y-> ∃x:F4,cs'=f x/\g x)
 (p:DataW.trod enc P W 0 (λ_=>true) true fuel t cs=some x):
 ∃z n c xs,cs=[.slice z n c]/\aA f sz W W.heap.size z n c xs/\ ∀x∈xs,g x:=by obtain⟨q,_⟩|⟨a,l,cap,m,n,V,X,q,_,O,B,M,_,r⟩:=Go.Deep.open_slice J p;{exact⟨none,0,0,[],q,aA.none_ _ _,λx s=>by cases s⟩};(have I: ∀i,∃x:F4,i<l->g x/\ ∀j h,(f x)[j]?=some h->W.cell? ((a.add (i*sz)).add j)=some h:=by intro i;by_cases N:i<l;{obtain⟨cs',U,L⟩:=r i (by rw[M];show i<cap;omega);obtain⟨x,rfl,S⟩:=K _ _ _ L;obtain⟨_,I,u⟩:=World.cells?_some U;rw[Q]at u;refine⟨x,λ_=>⟨S,λj h o=>?_⟩⟩;(have k:j<sz:=by have:=(List.getElem?_eq_some_iff.1 o).1;rwa[v]at this);exact(u j k).trans o};exact⟨d,λp=>absurd p N⟩);obtain⟨F,hF⟩:=Classical.axiomOfChoice I;refine⟨some a,l,cap,(range l).map F,q,⟨by simp,O,by unfold maxLen at B;exact B,λA=>?_⟩,?_⟩;{obtain⟨b,G,spot⟩:=a;obtain⟨D,E⟩: ∃h,(f (F 0))[0]?=some h:=⟨_,getElem?_eq_getElem (by rw[v];exact R)⟩;(have T:spot=none:=by simpa[Addr.add]using World.cell?_spot ((hF 0 A).2 0 D E));subst T;refine⟨b,G,rfl,World.block_lt_of_cell? W ⟨b,G+0*sz+0,none⟩ (by have:=(hF 0 A).2 0 D E;rwa[Go.WideShapes.add_plain,Go.WideShapes.add_plain]at this),λj x k i h o=>?_⟩;(have C:j<l:=by have:=(List.getElem?_eq_some_iff.1 k).1;simpa using this);(have e:F j=x:=by rw[getElem?_map,getElem?_range C]at k;simpa using k);subst e;have:=(hF j C).2 i h o;rwa[Go.WideShapes.add_plain,Go.WideShapes.add_plain]at this};intro x s;obtain⟨i,r,rfl⟩:=mem_map.1 s;exact(hF i (mem_range.1 r)).1
end
def DI (d:cs.length=2): ∃a b,cs=[a,b]:=by obtain _|⟨a,_|⟨b,_|⟨c,cs⟩⟩⟩:=cs<;>simp at d;exact⟨a,b,rfl⟩
def ahH (h:cs.length=9): ∃a b c d e f g i j,cs=[a,b,c,d,e,f,g,i,j]:=by match cs,h with|[a,b,c,d,e,f,g,i,j],_=>exact⟨a,b,c,d,e,f,g,i,j,rfl⟩
section
variable{H:Type} {enc:TypeId×Value->H} {W:World} {base:Nat}
def ahn {y:DataW H×List MemPlace} (q:DataW.trod enc Tryz.prog W 0 (λ_=>true) true n 69 cs=some y):
 ∃p:Pr,cs=cW p/\p.1.size<=9223372036854775807/\p.2.size<=9223372036854775807:=by obtain⟨xs,n',_,_,s,l,o⟩:=DataW.trod_struct Tryz.underlying69 q;obtain⟨r,c1,rfl⟩:=DI (s.trans Nw);refine Oz λm f j e d b g c a i=>?_;change[r]=_ at b;change[c1]=_ at a;cases b;cases a;exact⟨(d,c),rfl,g,i⟩
def ahm {y:DataW H×List MemPlace} (f:DataW.trod enc Tryz.prog W 0 (λ_=>true) true n 49 cs=some y):
 ∃p:Int×Int,cs=[.int .i64 p.1,.int .i64 p.2]:=by obtain⟨xs,n',_,_,i,c,d⟩:=DataW.trod_struct Tryz.underlying49 f;obtain⟨g,c1,rfl⟩:=DI (i.trans Ml);obtain⟨m,j⟩:=mL d c 0 _ rfl 3 0 1 rfl rfl zW;obtain⟨l,e⟩:=mL d c 1 _ rfl 3 1 1 rfl rfl zW;obtain⟨k,b,_⟩:=DataW.trod_int Tryz.underlying3 j;obtain⟨h,a,_⟩:=DataW.trod_int Tryz.underlying3 e;change[g]=_ at b;change[c1]=_ at a;cases b;cases a;exact⟨(k,h),rfl⟩
def ahO {y:DataW H×List MemPlace} (q:DataW.trod enc Tryz.prog W 0 (λ_=>true) true n 51 cs=some y):
 ∃p:Pr,cs=[.string p.1,.string p.2]:=by obtain⟨xs,n',_,_,s,l,o⟩:=DataW.trod_struct Tryz.underlying51 q;obtain⟨r,c1,rfl⟩:=DI (s.trans RD);refine Oz λm f j e d b g c a i=>?_;change[r]=_ at b;change[c1]=_ at a;cases b;cases a;exact⟨(d,c),rfl⟩
def ahG {y:DataW H×List MemPlace} (c:DataW.trod enc Tryz.prog W 0 (λ_=>true) true n 53 cs=some y):
 ∃x:Cr,cs=oq x/\aH W W.heap.size x.LA x.Ln x.Lc x.l/\x.s.size<=9223372036854775807/\ -9223372036854775808<=x.bH/\x.bH<=9223372036854775807:=by obtain⟨xs,n',_,_,v,b,a⟩:=DataW.trod_struct Tryz.underlying53 c;obtain⟨u,c1,c2,c3,c4,c5,c6,q,r,rfl⟩:=ahH (v.trans QV);obtain⟨S,z⟩:=mL a b 0 _ rfl 3 0 1 rfl rfl zW;obtain⟨O,I⟩:=mL a b 1 _ rfl 9 1 1 rfl rfl xX;obtain⟨N,F⟩:=mL a b 2 _ rfl 47 2 1 rfl rfl ahj;obtain⟨Q,o⟩:=mL a b 3 _ rfl 49 3 2 rfl rfl Ml;obtain⟨M,J⟩:=mL a b 4 _ rfl 3 5 1 rfl rfl zW;obtain⟨R,E⟩:=mL a b 5 _ rfl 4 6 1 rfl rfl ahC;obtain⟨T,G⟩:=mL a b 6 _ rfl 51 7 2 rfl rfl RD;obtain⟨A,l,_,d⟩:=DataW.trod_int Tryz.underlying3 z;obtain⟨D,e,_,p⟩:=DataW.trod_string Tryz.underlying9 I;obtain⟨LA,Ln,Lc,ls,m,s,K⟩:=Ni ((⟨#[]⟩,⟨#[]⟩):Pr) Tryz.underlying47 Nw jF (by decide) (λn cs' y c=>ahn c) F;obtain⟨g,k⟩:=ahm o;obtain⟨L,h,_⟩:=DataW.trod_int Tryz.underlying3 J;obtain⟨t,j,_⟩:=DataW.trod_bool Tryz.underlying4 E;obtain⟨f,i⟩:=ahO G;change[u]=_ at l;change[c1]=_ at e;change[c2]=_ at m;change[c3,c4]=_ at k;change[c5]=_ at h;change[c6]=_ at j;change[q,r]=_ at i;cases l;cases e;cases m;cases k;cases h;cases j;cases i;have C:IntKind.i64.min= -9223372036854775808:=rfl;have B:IntKind.i64.max=9223372036854775807:=rfl;simp[Lit.wf,C,B]at d;exact⟨⟨A,D,LA,Ln,Lc,ls,g.1,g.2,L,t,f.1,f.2⟩,rfl,⟨s,K⟩,p,d.1,d.2⟩
def BV {d:DataW H} {p:List MemPlace} (h:Value.okWide Tryz.prog W .any base 22 v) (a:DataW.Trod enc Tryz.prog W 0 (λ_=>true) true 22 v d p):
 ∃b n c xs,v= .slice b n c/\iG W W.heap.size b n c xs:=by obtain⟨g,i,cap,rfl⟩:=okWide_slice Tryz.underlying22 h;obtain⟨fuel,j⟩:=a;obtain⟨b,n,c,xs,q,f,e⟩:=Ni (⟨0,⟨#[]⟩,none,0,0,[],0,0,0,false,⟨#[]⟩,⟨#[]⟩⟩:Cr) Tryz.underlying22 QV GH (by decide) (λn cs' y a=>ahG a) j;change[Value.slice g i cap]=_ at q;cases q;exact⟨_,_,_,xs,rfl,f,e⟩
end
end
end Go.Proofs.YteagjoghhfngoaaGreatDoor
