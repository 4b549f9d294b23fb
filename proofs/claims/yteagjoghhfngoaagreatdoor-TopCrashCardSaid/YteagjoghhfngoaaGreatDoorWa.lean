import Derived.Test.YteagjoghhfngoaaGreatDoorRa
import Derived.Test.YteagjoghhfngoaaGreatDoorQl
set_option maxRecDepth 100000
set_option maxHeartbeats 32000000
set_option linter.all false
namespace Go.Proofs.YteagjoghhfngoaaGreatDoor
namespace aa
end aa
namespace ae
end ae
namespace aw
end aw
namespace cu
end cu
open Go.RowKit Tryz Value List aa ae aw cu
section
variable{P T:Prop}(k:T)
def Rm (h:P:=by
 obtain⟨r7,k5,g3,j2,q2,n6,j8,k1,l',n7,l2,m9,p9,o6⟩:=eV d6;obtain⟨q,p,o,l,f,i,e,c,b,a,n,j,d,m⟩:=qL g;obtain⟨O,S,c1,j7,r8,p2,m3,p5,q1,q',p0,n2,n8,r4⟩:=eV g;clear z d6 g;go_wp2;go_roundw;case rel=>exact⟨k+1,m2,oy,bh,n0⟩
 case measure=>exact cn):P:=h
def Ta (k:T) (h:aL T->P:=by intro q;refine tk 3 ?_;refine tf 4 (λ_ s=>bC s f9.1) ?_;refine tk 5 ?_;refine tk 6 ?_;refine tk 7 ?_;refine tk 8 ?_ (hy:=by intro wq hSw;obtain⟨O,S,c1,e7,f2,h8⟩:=qp (f0.below hSw f0.lt);exact bM);exact q.o):P:=h ⟨k⟩
def Tj (k:T) (h:aL T->P:=by intro q;rw[nr,show pg.cells= #[int .i64 6,string ⟨#[]⟩,slice none 0 0,int .i64 0,int .i64 0,int .i64 0,bool false,string ⟨#[]⟩,string ⟨#[]⟩]from rfl]at D;exact q.o D):P:=h ⟨k⟩
def QF (k:T) (h:aL T->P:=by intro q;simp only[Value.agg.injEq,toArray_inj,Array.mk.injEq,List.cons.injEq,Value.int.injEq,true_and]at e;exact q.o e):P:=h ⟨k⟩
end
namespace aa
def Ord.self {F4:Type} {c:F4->F4->Int} (b:Ord c) (a:F4):c a a=0:=(b.eq a a).2 rfl
end aa
namespace aw
theorem agK {l:List Sv} (c:ar l):l.Pairwise λa b=>eI a.k b.k<0:=by
 unfold ar at c;rw[cm,fa]at c;have s: ∀ {k:Nat} {y z:Sv},l[k]?=some z->l[k+1]?=some y->eI z.k y.k<0:=by intro k y z o hy;have:=c.2 (k+1) (bZ.1 hy).1;rw[gY hy,cm]at this;have g:=this.2;simp only at g;rw[o]at g;exact mT g
 have q: ∀d,∀ {a:Nat} {e f:Sv},l[a]?=some f->l[a+d+1]?=some e->eI f.k e.k<0:=by intro d;induction d with|zero=>(intro a e f n h;exact s n h)|succ d ih=>(intro a e f n h;have t:=(bZ.1 h).1;obtain⟨m,u⟩: ∃m,l[a+d+1]?=some m:=⟨_,br oy⟩;grind[mF.trans])
 rw[pairwise_iff_getElem];intro i j p r v;exact q (j-i-1) (a:=i) (br p) (by rw[show i+(j-i-1)+1=j by omega];exact br r)
def kZ (k:Pr) (x:Tb) (s:Sv):Tb:=if s.k=k then s.x else x
def yg (l:List Sv) (k:Pr):Tb:=l.foldl (kZ k) ae.zero
def MK {k:Pr}: ∀ (l:List Sv) (x:Tb),(∀s∈l,s.k≠k)->l.foldl (kZ k) x=x
 |[],_,_=>rfl
 |s::l,x,a=>by
  rw[foldl_cons];unfold kZ;rw[aG (a s (gl ..))];exact MK l x (λt b=>a t (gW _ b))
theorem aan {l:List Sv} (b:ar l) (k):yg l k=find l k.1 k.2:=by have g:=agK b;unfold find yg;rw[aK b];clear b;generalize ae.zero=z;induction l with|nil=>rfl|cons s l ih=>(let⟨d,h⟩:=pairwise_cons.1 g;rw[foldl_cons,find?_cons];by_cases a:s.k=k;{(have c:decide (s.g=k.1/\s.r=k.2):=by subst a;exact bG ⟨rfl,rfl⟩);rw[c];simp only;unfold kZ;rw[aK a];refine MK l s.x λt f e=>?_;have:=d t f;rw[e,<-a,(mF).self]at this;omega};have c:decide (s.g=k.1/\s.r=k.2)=false:=bj (λe=>a (Prod.ext e.1 e.2));grind[kZ])
end aw
namespace Mg
def ow:List Cm->Mn->List Sv->Mn×List Sv
 |[],m,s=>(m,s)
 |c::l,m,s=>ow l (step m c).1 (keep m c s)
def Dy: ∀ (l:List Cm) {m:Mn} {s:List Sv},Has m s->Has (ow l m s).1 (ow l m s).2
 |[],_,_,a=>a
 |c::l,_,_,a=>Dy l (Cy a c)
theorem Xc {m:Mn} {saved:List Sv} (e:Has m saved) {x:Mn×Rp} (f:lg m=some x): ∀s∈ep x.1,s.x=yg saved s.k:=by intro s a;unfold ep at a;split at a;{have a:=(jf _ _).mem_iff.1 a;let⟨i,j,g,r,y,c,b,h,d,l,k⟩:=Cp a;unfold lg at f;cases f;rw[Lu e]at b;unfold start at c b;simp only at c b;rw[dw,c]at b;simp only[Option.map_some,Option.some.injEq]at b;subst b;rw[dw,h]at d;simp only[Option.map_some,Option.some.injEq]at d;rw[<-d,aan e.ok];grind[aS.key,Sv.k]};cases a
def Xj (m) {x y:Mn×Rp} (a:lg m=some x) (hy:lg x.1=some y):y=x:=by unfold lg at a;cases a;unfold lg at hy;injection hy with hy;rw[<-hy];rfl
def IP {m:Mn} (b:Inv m) {c:Cm} (a:c.bH=6): ∃x,lg m=some x/\step m c=(x.1,some x.2):=by refine⟨_,rfl,?_⟩;unfold step;rw[fp (eo.2 b.1)];unfold eF;rw[a];rfl
def Gw (c:Cm): ∀ (l:List Cm) (m:Mn) (s:List Sv),ow (l++[c]) m s=((step (ow l m s).1 c).1,keep (ow l m s).1 c (ow l m s).2)
 |[],_,_=>rfl
 |d::l,m,s=>Gw c l _ _
end Mg
end Go.Proofs.YteagjoghhfngoaaGreatDoor
