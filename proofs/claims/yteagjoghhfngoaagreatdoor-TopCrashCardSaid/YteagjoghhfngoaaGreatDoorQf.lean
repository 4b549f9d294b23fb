import Derived.Test.YteagjoghhfngoaaGreatDoorQe
import Derived.Shelf.SlSortCmp.NoneTotal
set_option maxRecDepth 100000
set_option maxHeartbeats 32000000
set_option linter.all false
namespace Go.Proofs.YteagjoghhfngoaaGreatDoor
namespace aC
end aC
namespace ae
end ae
namespace av
end av
namespace bm
end bm
namespace dd
end dd
open Go.RowKit Tryz Value List Mem Om aC aP aa ae ap av bF bm cu dd fP iu
variable{B b base c e g n:Nat} {s:au} {p:Bs} {v:ai} {t wait:Int} {W w:Wd} {F0:ah ak} {bs xs:List ai}
namespace aC
def top:Nat:=1152921504606846976
def iW:Nat->Nat->Bs
 |0,_=>[]
 |f+1,n=>if n<128 then[UInt8.ofNat n]else UInt8.ofNat (n%128+128)::iW f (n/128)
def cZ (n:Nat):Bs:=iW 9 n
def iU:Nat->Bool->Bs->ah (Nat×Bs)
 |0,_,_=>none
 |_+1,_,[]=>none
 |f+1,b,c::l=>
  if c.toNat<128 then(if c.toNat=0/\b=false then none else some (c.toNat,l))
  else match iU f false l with
   |none=>none
   |some (n,r)=>some (c.toNat-128+128*n,r)
def cr (b:Bs):ah (Nat×Bs):=
 match iU 9 true b with
 |none=>none
 |some (n,r)=>if top<n then none else some (n,r)
def me (n:Int):Bs:=if n< -576460752303423488\/576460752303423488<n then[]else if n<0 then cZ (-2*n-1).toNat else cZ (2*n).toNat
def iV (b:Bs):ah (Int×Bs):=
 match cr b with
 |none=>none
 |some (a,r)=>some (if a%2=1 then-(((a:Int)+1)/2)else(a:Int)/2,r)
def iA (s:au):Bs:=if 65536<s.size then[]else cZ s.size++s.data.toList
def dC (b:Bs):ah (au×Bs):=
 match cr b with
 |none=>none
 |some (n,r)=>if 65536<n then none else if r.length<n then none else some (⟨(r.take n).toArray⟩,r.drop n)
def mj (p:Pr):Bs:=iA p.1++iA p.2
def tH (l:List Pr):List Pr:=if aa.ar l=true then l else[]
def ml (l:List Pr):Bs:=cZ (tH l).length++(tH l).flatMap mj
def jr:Nat->Bs->ah (List Pr×Bs)
 |0,b=>some ([],b)
 |n+1,b=>
  match dC b with
  |none=>none
  |some (s,a)=>
   match dC a with
   |none=>none
   |some (t,c)=>
    match jr n c with
    |none=>none
    |some (l,d)=>some ((s,t)::l,d)
def gU (b:Bs):ah (List Pr×Bs):=
 match cr b with
 |none=>none
 |some (n,r)=>if 16<n then none else
  match jr n r with
  |none=>none
  |some (l,a)=>if aa.ar l=true then some (l,a)else none
theorem u8 (n) (a:n<256):(UInt8.ofNat n).toNat=n:=by simp_all
theorem Kg: ∀ (f n:Nat) (b:Bool) (r:Bs),n<128^f->0<f->(n=0->b)->iU f b (iW f n++r)=some (n,r)
 |0,n,b,r,_,c,_=>absurd c oy
 |f+1,n,b,r,k,_,i=>by
  unfold iW;split;{rename_i a;rw[singleton_append,iU,if_pos (by rw[u8 n oy];exact a),if_neg (by rw[u8 n oy];intro⟨e,d⟩;rw[i e]at d;cases d),u8 n oy]};rename_i a;have g:n%128+128<256:=oy;(have j:0<f:=by grind);(have h:n/128<128^f:=by omega);rw[lu,iU,aG (by rw[u8 _ g];omega),Kg f (n/128) false r h j (by intro c;omega)];simp_all;grind
def kN (a:n<=top) (r):cr (cZ n++r)=some (n,r):=by unfold cr cZ;rw[Kg 9 n true r (by unfold top at a;omega) oy nR];simp only;rw[aG oy]
def Kx: ∀ (f n:Nat) (b:Bool) (k:Nat),k<(iW f n).length->iU f b ((iW f n).take k)=none
 |0,n,b,k,a=>by simp[iW]at a
 |f+1,n,b,k,a=>by
  cases k with|zero=>rfl|succ k=>(unfold iW at a⊢;split at a;{simp at a};rename_i c;rw[aG c];have d:n%128+128<256:=oy;rw[take_succ_cons,iU,aG (by rw[u8 _ d];omega),Kx f (n/128) false k (by simp at a;omega)])
def aeu {k:Nat} (a:k<(cZ n).length):cr ((cZ n).take k)=none:=by unfold cr cZ at*;rw[Kx 9 n true k a]
theorem Ct {b:Bs} {r:Bs} (a:cr b=some (n,r)):n<=top:=by grind[cr]
def adB: ∀ (f n:Nat),0<f->0<(iW f n).length
 |0,_,a=>absurd a oy
 |f+1,n,_=>by unfold iW;split<;>simp
def Ku (n):0<(cZ n).length:=adB 9 n oy
def LK: ∀ (f n:Nat),(iW f n).length<=f
 |0,_=>by simp[iW]
 |f+1,n=>by
  unfold iW;split;{simp};have:=LK f (n/128);simp;omega
def fJ (n):(cZ n).length<=9:=LK 9 n
theorem abh {n:Int} (a: -576460752303423488<=n) (b:n<=576460752303423488) (r):iV (me n++r)=some (n,r):=by unfold me;rw[aG oy];split;{unfold iV;rw[kN Av];grind};unfold iV;rw[kN Av];grind
theorem xl (a:s.size<=65536) (r:Bs):dC (iA s++r)=some (s,r):=by unfold iA dC;rw[aG oy,ed,kN Av];simp_all
def JO: ∀ (l:List Pr) (r:Bs),(∀p∈l,p.1.size<=65536/\p.2.size<=65536)->jr l.length (l.flatMap mj++r)=some (l,r)
 |[],r,_=>rfl
 |p::l,r,b=>by
  have a:=b p (gl ..);rw[cH,jr,gX,mj,ed,ed,xl a.1];simp only;rw[xl a.2];simp only;rw[JO l r wB]
theorem jG {l:List Pr} (a:aa.ar l):l.length<=16/\ ∀p∈l,p.1.size<=64/\p.2.size<=64:=by unfold aa.ar at a;rw[cm]at a;refine⟨mT a.1,λp b=>?_⟩;let⟨i,c⟩:=fF b;have:=fa.1 a.2 i (bZ.1 c).1;simp_all[cm,dP,aa.bN,aa.name]
def ZT {l:List Pr} (a:aa.ar l) (r):gU (ml l++r)=some (l,r):=by
 have c:=jG a;have b:tH l=l:=by unfold tH;rw[aK a]
 unfold ml gU;rw[b,ed,kN Av];simp only;rw[aG oy,JO l r (λp d=>aR (c.2 p d))];simp only;rw[aK a]
end aC
namespace dd
def bit (c:Nat):Nat:=if c%2=1 then(c/2)^^^3988292384 else c/2
def bits:Nat->Nat->Nat
 |0,c=>c
 |n+1,c=>bits n (bit c)
def step (c:Nat) (x:Nat):Nat:=bits 8 (c^^^x)
def tab (x:Nat):Nat:=step 0 x
def zg (c:Nat) (x:aU):Nat:=tab ((c%256)^^^x.toNat)^^^ (c/256)
def pp (c:Nat) (b:Bs):Nat:=b.foldl zg c
def sum (b:Bs):Nat:=4294967295^^^pp 4294967295 b
def agV (a:c<4294967296):bit c<4294967296:=by unfold bit;split;{exact Nat.xor_lt_two_pow (n:=32) oy dy};omega
def My: ∀ (n:Nat) {c:Nat},c<4294967296->bits n c<4294967296
 |0,_,a=>a
 |n+1,_,a=>My n (agV a)
def MG {x:Nat} (a:c<4294967296) (b:x<256):step c x<4294967296:=My 8 (Nat.xor_lt_two_pow (n:=32) a oy)
def ago (b:c<4294967296) (x):zg c x<4294967296:=by have a:=x.toNat_lt;exact Nat.xor_lt_two_pow (n:=32) (MG dy (by exact Nat.xor_lt_two_pow (n:=8) oy oy)) oy
def Dw: ∀ (b:Bs) {c:Nat},c<4294967296->pp c b<4294967296
 |[],_,a=>a
 |x::b,_,a=>Dw b (ago a x)
def Nl (b):sum b<4294967296:=Nat.xor_lt_two_pow (n:=32) dy (Dw b dy)
end dd
namespace dZ
open aC (cZ cr)
def four (n:Nat):Bs:=[UInt8.ofNat n,UInt8.ofNat (n/256),UInt8.ofNat (n/65536),UInt8.ofNat (n/16777216)]
def sM:Bs->Nat
 |a::b::c::d::_=>a.toNat+256*b.toNat+65536*c.toNat+16777216*d.toNat
 |_=>0
def put (p:Bs):Bs:=if 65536<p.length then[]else cZ p.length++p++four (dd.sum p)
def get (b:Bs):ah (Bs×Bs):=
 match cr b with
 |none=>none
 |some (n,r)=>if 65536<n then none else if r.length<n+4 then none else if dd.sum (r.take n)≠sM (r.drop n)then none else some (r.take n,r.drop (n+4))
theorem Yu (a:n<4294967296) (r):sM (four n++r)=n:=by show(UInt8.ofNat n).toNat+256*(UInt8.ofNat (n/256)).toNat+65536*(UInt8.ofNat (n/65536)).toNat+16777216*(UInt8.ofNat (n/16777216)).toNat=n;grind[UInt8.toNat_ofNat']
theorem pD (b:p.length<=65536) (r):get (put p++r)=some (p,r):=by unfold put get;rw[aG oy,ed,ed,kN tK];have a:(four (dd.sum p)).length=4:=rfl;simp only;rw[aG oy,aG (by simp only[bu,a];omega),take_left' rfl,drop_left' rfl,aG (by rw[Yu (Nl p)];simp)];grind
theorem agm {k:Nat} (b:k<(put p).length):get ((put p).take k)=none:=by unfold put at b⊢;split at b;{simp at b};rename_i c;rw[aG c];have d:(four (dd.sum p)).length=4:=rfl;unfold get;obtain a|a:=Nat.lt_or_ge k (cZ p.length).length;{rw[ed,take_append_of_le_length oy,aeu a]};rw[ed,take_append,dE a,kN tK];grind
end dZ
namespace bm
structure H where
 on:Bool
 since:Int
 hit:Bool
 cB:Int
deriving DecidableEq
def zero:H:=⟨false,0,false,0⟩
def bS (t:Int):Bool:=decide (0<=t)&&decide (t<=())
def ar (a:H):Bool:=bS a.since&&bS a.cB&& ((a.on||a.since==0)&& (a.hit||a.cB==0))
def aD (a:H):H:=if ar a=true then a else zero
def eC (n:Int):Int:=min (max n 0) ()
def DV (a:H) (t keep:Int):Int:=
 if a.hit/\(a.cB=t\/(0<keep/\a.cB<t/\t-a.cB<keep))then 2 else if a.on=true then 1 else 0
def now (a:H) (t keep:Int):Int:=DV (aD a) (eC t) (eC keep)
def from_ (a:H) (t:Int):Int:=if a.on=false\/t<a.since then t else a.since
def held (a:H) (c:Bool) (t wait:Int):H:=
 if c=false then{a with on:=false,since:=0}
 else if wait<=t-from_ a t then⟨true,from_ a t,true,t⟩else⟨true,from_ a t,a.hit,a.cB⟩
def step (a:H) (c:Bool) (t wait keep:Int):H×Int:=
 (held (aD a) c (eC t) (eC wait),now (held (aD a) c (eC t) (eC wait)) (eC t) (eC keep))
def gone (a:H) (t keep:Int):Bool:=
 if now (aD a) (eC t) (eC keep)≠0\/(aD a).on=true then false
 else !(aD a).hit||(decide ((aD a).cB<eC t)&&decide (eC keep<=eC t- (aD a).cB))
def sI (n:Int):0<=eC n/\eC n<=():=by unfold eC;omega
def ek (a:H):ar (aD a):=by unfold aD;split;{assumption};decide
theorem jJ {a:H} (b:ar a):(0<=a.since/\a.since<=())/\(0<=a.cB/\a.cB<=()):=by simp_all[decide_eq_true_eq,ar,bS]
end bm
namespace aa
def Ord.pre {F4:Type} {c:F4->F4->Int} (e:Ord c):gV c:=by refine⟨e.jU,λa b d h i=>?_⟩;obtain g|g:=Int.lt_or_eq_of_le h;{obtain f|f:=Int.lt_or_eq_of_le i;{exact Int.le_of_lt (e.trans _ _ _ g f)};rw[<-(e.eq b d).1 f];exact h};rw[(e.eq a b).1 g];exact i
def jX (p q:Pr):Int:=fD p.1 q.1
def KY:cu.gV jX:=(Cl.pre).pY (λp:Pr=>p.1)
def distinct (l:List Pr):Bool:=decide (l.map (·.1)).Nodup
def make (l:List Pr):List Pr×Int:=
 if 16<l.length then([],4)
 else if(l.all λp=>decide (p.2.size<=64))=false then([],4)
 else if(l.all λp=>name p.1)=false then([],7)
 else if distinct l=false then([],6)
 else(dM jX l,0)
def lD (l:List Pr) (n:au):List Pr:=(aD l).filter λp=>!(p.1.toList==n.toList)
def qS (l:List Pr) (n v:au):List Pr×Int:=make (lD l n++[(n,v)])
def merge (a b:List Pr):List Pr×Int:=make ((aD a).filter (λp=>(get (aD b) p.1).isNone)++aD b)
def ek (l):ar (aD l):=by exact ze
def fp {l:List Pr} (a:ar l):aD l=l:=by unfold aD;rw[aK a]
theorem xO {l:List Pr} (d:l.length<=16) (e: ∀p∈l,p.2.size<=64) (c: ∀p∈l,name p.1) (f:l.Pairwise λp q=>Op.bytesLess p.1.toList q.1.toList=true):ar l:=by unfold ar;rw[bG d,Bool.true_and,fa];intro i a;unfold bN;rw[br a];have b:=getElem_mem a;simp only;rw[c _ b,bG (e _ b),Bool.true_and,Bool.true_and];grind[pairwise_iff_getElem]
theorem pr {l:List Pr} (a:ar l):l.length<=16:=by grind[ar]
theorem aag (l):ar (make l).1:=by unfold make;split;{rfl};rename_i i;split;{rfl};rename_i f;split;{rfl};rename_i d;split;{rfl};rename_i j;simp only[Bool.not_eq_false,all_eq_true,dP]at f d;have a:=jf jX l;(have h:(l.map (·.1)).Nodup:=by grind[distinct]);have c:=(a.map (·.1)).nodup_iff.2 h;refine xO (by rw[a.length_eq];omega) (λp b=>f p (a.mem_iff.1 b)) (λp b=>d p (a.mem_iff.1 b)) ?_;have g:=rH KY l;rw[nodup_iff_pairwise_ne,pairwise_map]at c;refine(g.and c).imp λ{p q} e=>?_;rw[<-xM];have:=e.1;unfold jX at this;obtain k|k:=Int.lt_or_eq_of_le this;{exact k};exact absurd ((qJ _ _).1 k) e.2
end aa
namespace av
open aj (Tk cX dz)
def bare (r:Ru):Ru:=⟨r.nm,r.sn,none,0,0,r.ms,r.op,r.v,r.fo,r.ke,none,0,0,r.ls⟩
def ca (ts:List Tk) (i:Nat) (k:Int) (s:au):Bool:=
 match ts[i]? with
 |none=>false
 |some t=>t.1==k&&decide (t.2.2=s)
def lP:au:=⟨#[114,117,108,101]⟩
def oJ:au:=⟨#[102,111,114]⟩
def ox:au:=⟨#[107,101,101,112]⟩
def qG:au:=⟨#[108,97,98,101,108,115]⟩
def tB:au:=⟨#[58]⟩
def nF:au:=⟨#[59]⟩
def kK:au:=⟨#[61]⟩
def iZ:au:=⟨#[123]⟩
def eY:au:=⟨#[125]⟩
def jD:au:=⟨#[44]⟩
def ft (ts:List Tk) (i:Nat):ah Int:=
 if cX ts i 2=true then(if(di.aT.parse (di.aT.bl (dz ts i))).2=0 then some (di.aT.parse (di.aT.bl (dz ts i))).1 else none)else none
def jN (ts:List Tk) (i:Nat):ah Pr:=
 if cX ts i 1/\ca ts (i+1) 4 kK/\cX ts (i+2) 3=true then some (dz ts i,dz ts (i+2))else none
def lG (ts:List Tk):Nat->Nat->List Pr->ah (List Pr×Nat)
 |0,_,_=>none
 |f+1,i,l=>
  match jN ts i with
  |none=>none
  |some p=>if ca ts (i+3) 4 jD=true then lG ts f (i+4) (l++[p])else some (l++[p],i+3)
def iJ (ts:List Tk) (i:Nat):ah (List Pr×Nat):=
 if ca ts i 4 iZ=true then
  match(if ca ts (i+1) 4 eY=true then some ([],i+1)else lG ts (ts.length+1) (i+1) [])with
  |none=>none
  |some (l,j)=>
   if ca ts j 4 eY=true then
    (if(aa.make l).2=0 then(if aa.free (aa.make l).1=true then some ((aa.make l).1,j+1)else none)else none)
   else none
 else none
def kz (ts:List Tk) (i:Nat) (w:au):ah (Int×Nat):=
 if ca ts i 1 w=true then(match ft ts (i+1)with|none=>none|some d=>some (d,i+2))else some (0,i)
def qc (ts:List Tk) (i:Nat):ah (List Pr×Nat):=
 if ca ts i 1 qG=true then iJ ts (i+1)else some ([],i)
def sE (ts:List Tk) (nm:au) (x:Ex) (i:Nat):ah (Ru×Nat):=
 match kz ts i oJ with
 |none=>none
 |some (fo,c)=>
  match kz ts c ox with
  |none=>none
  |some (ke,b)=>
   match qc ts b with
   |none=>none
   |some (ls,a)=>if ca ts a 4 nF=true then some (⟨nm,x.1,none,0,0,x.2.1,x.2.2.1,x.2.2.2,fo,ke,none,0,0,ls⟩,a+1)else none
def fe (ts:List Tk) (i:Nat):ah (Ru×Nat):=
 if ca ts i 1 lP/\cX ts (i+1) 1/\aa.name (dz ts (i+1))/\ca ts (i+2) 4 tB=true then
  (if(bF.parse ts ((i+3:Nat):Int)).2.2=0 then sE ts (dz ts (i+1)) (bF.parse ts ((i+3:Nat):Int)).1 (bF.parse ts ((i+3:Nat):Int)).2.1 else none)
 else none
end av
namespace aZ
open aj (Tk cX dz)
open av (ca)
def bare (g:Gr):Gr:=⟨g.nm,g.iv,g.off,none,0,0,g.rs.map av.bare⟩
def uQ:au:=⟨#[103,114,111,117,112]⟩
def ve:au:=⟨#[101,118,101,114,121]⟩
def uJ:au:=⟨#[111,102,102,115,101,116]⟩
def jI (ts:List Tk):Nat->Nat->List Ru->ah (List Ru×Nat)
 |0,_,_=>none
 |f+1,i,l=>
  if ca ts i 4 av.eY=true then some (l,i+1)
  else if 16<=l.length/\ca ts i 1 lP=true then none
  else match fe ts i with
   |none=>none
   |some (r,j)=>if aa.named (l.map (·.nm)) r.nm=true then none else jI ts f j (l++[r])
def gM (ts:List Tk) (i:Nat) (gs:List Gr):ah (Gr×Nat):=
 if ca ts i 1 uQ/\gs.length<16/\cX ts (i+1) 1/\aa.name (dz ts (i+1))/\aa.named (gs.map (·.nm)) (dz ts (i+1))=false/\ca ts (i+2) 1 ve=true then
  match ft ts (i+3)with
  |none=>none
  |some b=>
   if b=0 then none
   else match(if ca ts (i+4) 1 uJ=true then(match ft ts (i+5)with|none=>none|some a=>if b<=a then none else some (a,i+6))else some (0,i+4))with
    |none=>none
    |some (a,j)=>
     if ca ts j 4 av.iZ=true then
      match jI ts (ts.length+1) (j+1) []with
      |none=>none
      |some (rs,k)=>some (⟨dz ts (i+1),b,a,none,0,0,rs⟩,k)
     else none
 else none
def kP (ts:List Tk):Nat->Nat->List Gr->ah (List Gr)
 |0,_,_=>none
 |f+1,i,l=>
  if ts.length<=i then some l
  else match gM ts i l with
   |none=>none
   |some (g,j)=>kP ts f j (l++[g])
end aZ
namespace ae
open aa (Pr)
def cj:Int:=9007199254740992
structure Al where
 l:List Pr
 h:bm.H
 st:Int
 v:Int
deriving DecidableEq
structure Tb where
 a:List Al
 full:Int
deriving DecidableEq
def zero:Tb:=⟨[],0⟩
def gi (a:Al):Bool:=aa.ar a.l&&bm.ar a.h&&decide (0<=a.st)&&decide (a.st<=2)
def ju (a b:Al):Int:=aa.cmpL (aa.aD a.l) (aa.aD b.l)
def behind (ys:List Al) (i:Nat) (a:Al):Bool:=
 match i with
 |0=>true
 |k+1=>match ys[k]? with
  |none=>true
  |some b=>decide (ju b a<0)
def bN (ys:List Al) (i:Nat):Bool:=
 match ys[i]? with
 |none=>true
 |some a=>gi a&&behind ys i a
def ar (x:Tb):Bool:=decide (x.a.length<=16)&&decide (0<=x.full)&&decide (x.full<=cj)&&cI (bN x.a) x.a.length
def aD (x:Tb):Tb:=if ar x=true then x else zero
def pB (ys:List Al):List Al:=ys.filter λa=>decide (a.st≠0)
def gr (x:Tb):List Al:=pB (aD x).a
def gY {ys:List Al} {a:Al} {k:Nat} (b:ys[k]?=some a):bN ys k=(gi a&&behind ys k a):=by unfold bN;rw[b]
theorem nW {ys:List Al} {a b:Al} {k:Nat} (c:ys[k]?=some b):behind ys (k+1) a=decide (ju b a<0):=by grind[behind]
def CD:cu.gV ju:=(jh.pre).pY (λa:Al=>aa.aD a.l)
def ek (x):ar (aD x):=by exact ze
def fp {x:Tb} (a:ar x):aD x=x:=by unfold aD;rw[aK a]
def jJ {x:Tb} (a:ar x):x.a.length<=16/\(0<=x.full/\x.full<=cj)/\ ∀k,k<x.a.length->bN x.a k:=by unfold ar at a;simp only[cm,dP]at a;exact⟨a.1.1.1,⟨a.1.1.2,a.1.2⟩,fa.1 a.2⟩
def pA {x:Tb} (d:ar x) {a:Al} (c:a∈x.a):gi a:=by let⟨k,b⟩:=fF c;have:=(jJ d).2.2 k (bZ.1 b).1;rw[gY b,cm]at this;exact this.1
theorem kR {a:Al} (b:gi a):aa.ar a.l/\bm.ar a.h/\0<=a.st/\a.st<=2:=by simp_all[cm,dP,gi]
def uK {x:Tb} (f:x.a.length<=16) (d:0<=x.full/\x.full<=cj) (e: ∀a∈x.a,gi a) (g:x.a.Pairwise λa b=>ju a b<0):ar x:=by unfold ar;rw[bG f,bG d.1,bG d.2,Bool.true_and,Bool.true_and,Bool.true_and,fa];intro i c;rw[gY (br c),e _ (getElem_mem c),Bool.true_and];cases i with|zero=>rfl|succ k=>(rw[nW (br (show k<x.a.length by omega))];exact aiN)
def ib (s:au):List aU:=Lib.decDigits s.size++32::s.data.toList
def pO (l:List Pr):List aU:=l.flatMap λp=>ib p.1++ib p.2
def key (l:List Pr):au:=⟨(pO l).toArray⟩
def nw (s:List ap.F×List (au×ap.F)) (f:ap.F):List ap.F×List (au×ap.F):=
 if aa.ar f.1=false then s else if(Om.get (key f.1) s.2).isSome=true then s else(s.1++[f],Om.put (key f.1) f s.2)
def gF (l:List ap.F):List ap.F×List (au×ap.F):=l.foldl nw ([],[])
def lR (there:List (au×ap.F)) (t wait keep:Int) (a:Al):Al:=
 ⟨a.l,(bm.step a.h (Om.get (key a.l) there).isSome t wait keep).1,(bm.step a.h (Om.get (key a.l) there).isSome t wait keep).2,match Om.get (key a.l) there with|some f=>f.2.2|none=>a.v⟩
def jW (there:List (au×ap.F)) (t wait keep:Int) (b:List (au×Al)) (a:Al):List (au×Al):=
 if bm.gone (lR there t wait keep a).h t keep=true then Om.del (key a.l) (Om.put (key a.l) (lR there t wait keep a) b)else Om.put (key a.l) (lR there t wait keep a) b
def tE (t wait keep:Int) (f:ap.F):Al:=⟨f.1,(bm.step bm.zero true t wait keep).1,(bm.step bm.zero true t wait keep).2,f.2.2⟩
def lU (t wait keep:Int) (s:List (au×Al)×Int) (f:ap.F):List (au×Al)×Int:=
 if(Om.get (key f.1) s.1).isSome=true then s else if 16<=s.1.length then(s.1,min (s.2+1) cj)else(Om.put (key f.1) (tE t wait keep f) s.1,s.2)
def uV (a:List (au×Al)):List Al:=dM ju (a.map (·.2))
def kE (x:Tb) (l:List ap.F) (t wait keep:Int):List (au×Al):=x.a.foldl (jW (gF l).2 t wait keep) []
def news (x:Tb) (l:List ap.F) (t wait keep:Int):List (au×Al)×Int:=(gF l).1.foldl (lU t wait keep) (kE x l t wait keep,x.full)
def step (x:Tb) (l:List ap.F) (t wait keep:Int):Tb:=⟨uV (news (aD x) l t wait keep).1,(news (aD x) l t wait keep).2⟩
structure Good (al:List (au×Al)):Prop where
 key: ∀p∈al,p.1=key p.2.l
 ok: ∀p∈al,gi p.2
 gF:jt al
def Good.nil:Good []:=⟨λp a=>absurd a iy,λp a=>absurd a iy,Pairwise.nil⟩
def Good.put {H5:List (au×Al)} (c:Good H5) {a:Al} (d:gi a):Good (Om.put (ae.key a.l) a H5):=by refine⟨λp b=>?_,λp b=>?_,Ky c.gF⟩;{obtain rfl|b:=lE b;{rfl};exact c.key p b};obtain rfl|b:=lE b;{exact d};exact c.ok p b
def Good.del {H5:List (au×Al)} (b:Good H5) (k):Good (Om.del k H5):=
 ⟨λp a=>b.key p (qH a),λp a=>b.ok p (qH a),Ko b.gF⟩
theorem Good.tie {H5:List (au×Al)} (c:Good H5): ∀a b,a∈H5.map (·.2)->b∈H5.map (·.2)->ju a b=0->a=b:=by
 intro a b g l f;obtain⟨p,d,rfl⟩:=fx.1 g;obtain⟨q,e,rfl⟩:=fx.1 l;unfold ju at f;rw[aa.cmpL_eq,aa.fp (kR (c.ok p d)).1,aa.fp (kR (c.ok q e)).1]at f;have o:p.1=q.1:=by rw[c.key p d,c.key q e,f]
 let⟨i,h⟩:=fF d;let⟨j,k⟩:=fF e;have m:=Om.get_at c.gF h;have n:=Om.get_at c.gF k;grind
theorem ZG {a:Al} (b:gi a) {H4:bm.H} {s v:Int} (d:bm.ar H4) (c:0<=s/\s<=2):gi ⟨a.l,H4,s,v⟩:=by grind[gi]
end ae
namespace bm
theorem abS (h t keep):0<=now h t keep/\now h t keep<=2:=by grind[now,DV]
theorem abi (h c t w) (a:ar h=true) (d:0<=t/\t<=9007199254740992):ar (held h c t w)=true:=by have b:=jJ a;unfold held;cases c;{simp_all[if_true,cm,dP,beq_iff_eq,ar,bS]};simp only[Bool.true_eq_false,if_false];(have:0<=from_ h t/\from_ h t<=():=by grind[from_]);split;{simp_all[cm,dP,beq_iff_eq,ar,bS]};simp_all[cm,dP,beq_iff_eq,ar,bS]
theorem xa (h c t wait keep):ar (step h c t wait keep).1=true:=abi _ _ _ _ (ek h) (sI t)
theorem Iv (h c t wait keep):0<=(step h c t wait keep).2/\(step h c t wait keep).2<=2:=abS _ _ _
end bm
namespace ae
theorem Ju (l): ∀f∈(gF l).1,aa.ar f.1:=by
 have: ∀ (l:List ap.F) (s:List ap.F×List (au×ap.F)),(∀f∈s.1,aa.ar f.1)-> ∀f∈(l.foldl nw s).1,aa.ar f.1:=by intro l;induction l with|nil=>(intro s b;exact b)|cons f l ih=>grind[nw]
 exact this l _ (λf a=>absurd a iy)
def afV (there t wait keep) {a:Al} (b:gi a):gi (lR there t wait keep a):=
 ZG b (bm.xa _ _ _ _ _) (Iv _ _ _ _ _)
def aak {there:List (au×ap.F)} {keep:Int} {H5:List (au×Al)} (d:Good H5) {a:Al} (c:gi a):Good (jW there t wait keep H5 a):=by have b:=d.put (a:=lR there t wait keep a) (afV there t wait keep c);unfold jW;split;{exact b.del _};exact b
theorem afr (t wait keep) {f:ap.F} (a:aa.ar f.1):gi (tE t wait keep f):=by unfold gi tE;grind[bm.xa,Iv]
def LX {F4 F5:Type} [DecidableEq F4] (k:F4): ∀l:List (F4×F5),(Om.del k l).length<=l.length
 |[]=>ny
 |p::l=>by
  rw[Om.del];split;{simp};have:=LX k l;simp;omega
theorem aep (there t wait keep al a):(jW there t wait keep al a).length<=al.length+1:=by have:=Db (key a.l) (lR there t wait keep a) al;unfold jW;split;{exact cK (LX _ _) this};exact this
theorem abB {x:Tb} (f:ar x) (l t wait keep):Good (kE x l t wait keep)/\(kE x l t wait keep).length<=x.a.length:=by
 have: ∀ (ys:List Al) (c:List (au×Al)),(∀a∈ys,gi a)->Good c->Good (ys.foldl (jW (gF l).2 t wait keep) c)/\(ys.foldl (jW (gF l).2 t wait keep) c).length<=c.length+ys.length:=by intro ys;induction ys with|nil=>(intro c _ d;exact⟨d,iy⟩)|cons a ys ih=>(intro c e d;have i:=ih (jW (gF l).2 t wait keep c a) (λb g=>e b (gW _ g)) (aak d (e a (gl ..)));grind[cH,aep])
 have d:=this x.a [] (λa e=>pA f e) Good.nil;refine⟨d.1,?_⟩;have:=d.2;exact Pz
theorem Jq {x:Tb} (h:ar x) (l t wait keep):Good (news x l t wait keep).1/\(news x l t wait keep).1.length<=16/\0<=(news x l t wait keep).2/\(news x l t wait keep).2<=cj:=by
 have: ∀ (b:List ap.F) (s:List (au×Al)×Int),(∀f∈b,aa.ar f.1)->(Good s.1/\s.1.length<=16/\0<=s.2/\s.2<=cj)->(Good (b.foldl (lU t wait keep) s).1/\(b.foldl (lU t wait keep) s).1.length<=16/\0<=(b.foldl (lU t wait keep) s).2/\(b.foldl (lU t wait keep) s).2<=cj):=by intro b;induction b with|nil=>(intro s _ c;exact c)|cons f b ih=>(intro s i c;refine ih _ (λg j=>i g (gW _ j)) ?_;unfold lU;split;{exact c};split;{grind};rename_i k;refine⟨c.1.put (a:=tE t wait keep f) (afr t wait keep (i f (gl ..))),?_,c.2.2⟩;grind[Db])
 have e:=abB h l t wait keep;have d:=jJ h;exact this _ (kE x l t wait keep,x.full) (Ju l) ⟨e.1,cK e.2 d.1,d.2.1⟩
theorem xa (x l t wait keep):ar (step x l t wait keep):=by let⟨c,k,j⟩:=Jq (ek x) l t wait keep;unfold step uV;have e:=jf ju ((news (aD x) l t wait keep).1.map (·.2));refine uK (by rw[e.length_eq,cC];exact k) j (λa h=>?_) ?_;{obtain⟨p,d,rfl⟩:=fx.1 (e.mem_iff.1 h);exact c.ok p d};have i:=rH CD ((news (aD x) l t wait keep).1.map (·.2));(have m:(dM ju ((news (aD x) l t wait keep).1.map (·.2))).Pairwise (λa b=>ju a b≠0):=by refine(e.pairwise_iff (λ{a b} g=>?_)).2 ?_;{rw[CD.jU];omega};rw[pairwise_map];have:=c.gF;unfold jt at this;refine Pairwise.imp_of_mem ?_ this;intro p q d f o n;have:=c.tie p.2 q.2 (fx.2 ⟨p,d,rfl⟩) (fx.2 ⟨q,f,rfl⟩) n;exact o (by rw[c.key p d,c.key q f,this]));exact(i.and m).imp λ{a b} g=>oy
end ae
abbrev aih (a:bm.H):Array ai:= #[a.on,a.since,a.hit,a.cB]
def Iu (t b) (a:bm.bS t=b) (w):Calls prog 146 #[t] w λe w'=>e= .returned b/\w=w':=by
 subst a;go_enter func146,ntmps146;go_wp2;all_goals go_ret
 all_goals exact⟨vD (by simp[bm.bS];try omega),rfl⟩
def Hy (h b) (s:bm.ar h=b) (w):Calls prog 106 #[agg (aih h)] w (bO w b):=by
 subst s;let⟨on,since,hit,c⟩:=h;let⟨g,m⟩:=xR (bm.bS since);let⟨e,l⟩:=xR (bm.bS c);let⟨n,q⟩:=xR (since==0);let⟨i,t⟩:=xR (c==0);let⟨o,u,r⟩:=aM (show bm.ar ⟨on,since,hit,c⟩=(g&&e&& ((on||n)&& (hit||i)))by unfold bm.ar;rw[m,l,q,t]) m l;go_enter func106,ntmps106;go_wp2_with fail
 refine oM λF p a J j d f=>?_;have x:=p.cell 2;have v:=p.cell 3;refine cE (Iu since g u F) ?_;cases g;{exact yQ};(go_wp2_with fail);refine mE (Iu c e r F) ?_;cases e;{exact yQ};obtain _|_:=on<;>obtain _|_:=hit<;>obtain _|_:=n<;>obtain _|_:=i;all_goals(exact yQ)
def AJ (on since hit cB on' since' hit' fired') (m:bm.aD ⟨on,since,hit,cB⟩=⟨on',since',hit',fired'⟩) (w):
 Calls prog 236 #[agg #[on,since,hit,cB]] w (bO w (agg #[on',since',hit',fired'])):=by
 let⟨b,o⟩:=xR (bm.ar ⟨on,since,hit,cB⟩);unfold bm.aD at m;rw[o]at m;let⟨s,p⟩:=aq o m;go_enter func236,ntmps236;go_wp2_with fail
 refine gh λH G u C=>?_;let⟨d,g,r,q,x⟩:=mr G C;let⟨d,g⟩:=aq d g;refine mB (Hy ⟨on,since,hit,cB⟩ b s u) λD j=>?_;have F:=bU r j;let⟨c,t⟩:=aq (g.below j x) (d.below j q);let⟨L,K,J,B⟩:=cJ c.f;let⟨A,E,z,y⟩:=cJ c.a;let⟨M,a1,a2,I⟩:=cJ t.a;cases b;{go_wp2;have n:=(((c.ay 0 false).ay 1 "").ay 2 false).ay 3 "";let⟨e,f,i,l⟩:=cJ n.a;have a:=p.o;rw[aG dy]at a;unfold bm.zero at a;cases a;exact bodyPost_ret (v:=agg #[false,"",false,""]) (by simp[results,results236,go_sem,e,f,i,l]) rfl ⟨rfl,ly⟩};go_wp2;have n:=(((c.ay 0 on).ay 1 since).ay 2 hit).ay 3 cB;let⟨e,f,i,l⟩:=cJ n.a;have a:=p.o;rw[aK trivial]at a;cases a;exact bodyPost_ret (v:=agg #[on,since,hit,cB]) (by simp[results,results236,go_sem,e,f,i,l]) rfl ⟨rfl,ly⟩
def uI (x):eC x=min (max x 0) ():=rfl
def WV (g ty a b c w) (m:af w g ty #[int .i64 a,int .i64 b,int .i64 c]):
 Calls prog 237 #[slice (some ⟨g,0,none⟩) 3 3] w λe w'=> ∃j,e= .returned (slice (some ⟨j,0,none⟩) 3 3)/\w.heap.size<=j/\af w' j 3 #[int .i64 (eC a),int .i64 (eC b),int .i64 (eC c)]/\az w w':=by
 have r:=m.lt;have u:=hJ m;have L: ∀w,(Instr.makeSlice 27 "3" "3").run prog w= .ok (bR w 3 3) (w.alloc (.cells #["","",""] 3)):=λ_=>ry;go_enter func237,ntmps237;go_wp2;refine yA λJ t F Q K=>?_;go_loopw[11] (λi wr=> ∃k x y z,k<=3/\i=int .i64 (k:Nat)/\af wr w.heap.size 3 #[int .i64 x,int .i64 y,int .i64 z]/\(0<k->x=eC a)/\(1<k->y=eC b)/\(2<k->z=eC c)/\az w wr) (λi _=>3- (intOf i).toNat);case atStart=>exact⟨0,0,0,0,by omega,rfl,t.o,by omega,by omega,by omega,F⟩
 case round=>obtain⟨k,x,y,z,T,rfl,h,C,hy,B,n⟩:=hrel;let⟨l,o,G,f⟩:=bJ C hy B h;have E:=u.below n r;let⟨M,H,N⟩:=bi E.a;let⟨U,S,R⟩:=bi h.f;let⟨I,P,O⟩:=bi h.a;obtain⟨p,D,s⟩:=aM (uI a) (uI b) (uI c);(obtain rfl|rfl|rfl|rfl:k=0\/k=1\/k=2\/k=3:=by omega);{go_wp2;all_goals(go_roundw;(case rel=>exact⟨1,_,y,z,oy,by first|rfl|go_num,f.ay 0 _,λ_=>by rw[p.o]<;>omega,λd=>absurd d oy,λd=>absurd d oy,ly⟩);case measure=>simp[intOf])};{go_wp2;all_goals(go_roundw;(case rel=>exact⟨2,x,_,z,oy,by first|rfl|go_num,f.ay 1 _,λ_=>l oy,λ_=>by rw[D.o]<;>omega,λd=>absurd d oy,ly⟩);case measure=>simp[intOf])};{go_wp2;all_goals(go_roundw;(case rel=>exact⟨3,x,y,_,oy,by first|rfl|go_num,f.ay 2 _,λ_=>l oy,λ_=>o oy,λ_=>by rw[s.o]<;>omega,ly⟩);case measure=>simp[intOf])};go_wp2;go_ret;have q:=l oy;have A:=o oy;have v:=G oy;subst q A v;exact⟨_,rfl,ny,f,n⟩
def WE (g ty a b w) (h:af w g ty #[int .i64 a,int .i64 b]):
 Calls prog 237 #[slice (some ⟨g,0,none⟩) 2 2] w λe w'=> ∃d,e= .returned (slice (some ⟨d,0,none⟩) 2 2)/\w.heap.size<=d/\af w' d 3 #[int .i64 (eC a),int .i64 (eC b)]/\az w w':=by
 have p:=h.lt;have r:=hJ h;have F: ∀w,(Instr.makeSlice 27 "2" "2").run prog w= .ok (bR w 2 2) (w.alloc (.cells #["",""] 3)):=λ_=>ry;go_enter func237,ntmps237;go_wp2;refine yA λD q A I E=>?_;go_loopw[11] (λi wr=> ∃k x y,k<=2/\i=int .i64 (k:Nat)/\af wr w.heap.size 3 #[int .i64 x,int .i64 y]/\(0<k->x=eC a)/\(1<k->y=eC b)/\az w wr) (λi _=>2- (intOf i).toNat);case atStart=>exact⟨0,0,0,by omega,rfl,q.o,by omega,by omega,A⟩
 case round=>obtain⟨k,x,y,K,rfl,c,t,hy,l⟩:=hrel;let⟨j,v,f⟩:=aM t hy c;have z:=r.below l p;let⟨G,B⟩:=bE z.a;let⟨L,J⟩:=bE c.f;let⟨C,H⟩:=bE c.a;obtain⟨n,u⟩:=aq (uI a) (uI b);(obtain rfl|rfl|rfl:k=0\/k=1\/k=2:=by omega);{go_wp2;all_goals(go_roundw;(case rel=>exact⟨1,_,y,oy,by first|rfl|go_num,f.ay 0 _,λ_=>by rw[n.o]<;>omega,λm=>absurd m oy,ly⟩);case measure=>simp[intOf])};{go_wp2;all_goals(go_roundw;(case rel=>exact⟨2,x,_,oy,by first|rfl|go_num,f.ay 1 _,λ_=>j oy,λ_=>by rw[u.o]<;>omega,ly⟩);case measure=>simp[intOf])};go_wp2;go_ret;have o:=j oy;have s:=v oy;subst o s;exact⟨_,rfl,ny,f,l⟩
theorem rU (on since hit cB t keep r) (b:bm.now ⟨on,since,hit,cB⟩ t keep=r) (w):
 Calls prog 238 #[agg #[on,since,hit,cB],t,keep] w (bO w r):=by
 unfold bm.now at b;obtain⟨⟨A,i,g,f⟩,O⟩: ∃I,bm.aD ⟨on,since,hit,cB⟩=I:=⟨_,rfl⟩;rw[O]at b;refine DO λb5 b1=>?_;have Q:=sI keep;have R:=hJ O;go_enter func238,ntmps238;go_wp2_with fail
 refine yA λJ L V G Z=>?_;refine mB (AJ on since hit cB A i g f R J) λa3 n=>?_;have a0:=bU V n;have o:=hJ (L.below n G);have a1:=dS G n.size;let⟨a7,a5,a4,a2⟩:=cJ o.f;let⟨C,D,u,q⟩:=cJ o.a;go_wp2_with fail
 generalize p:World.setCell _ _ _=c;have l:=o.q p;have N:=zQ p;have v:Below w w c:=lQ p;rw[<-N];refine Qg λy m j=>?_;rintro e a8 ⟨Y,rfl,hG,E,z⟩;have S:=bU j z;let⟨a,d⟩:=aq ((l.alloc (.cells #[t,keep] 3)).below z uy) E;have X:=E.lt;have a6:=a.lt;let⟨T,B⟩:=xR (eC t);let⟨K,F⟩:=xR (eC keep);rw[B]at b b1;rw[F]at b Q;rw[B,F]at d;go_wp2;refine cO λhH=>?_;refine ts [0,1] ?_;refine tf 2 (λ_ s=>bC s (bD d)) ?_;refine ts [3,4] ?_;refine tf 5 (λ_ s=>bC s (bL d)) ?_;refine te [6,7] ?_;have C:=bC hH (a.cell 0);have D:=bC hH (a.cell 1);have u:=bC hH (a.cell 2);have q:=bC hH (a.cell 3);simp at C D u q;have W:=bU S hH;have M:=hJ b;by_cases U:f=T;all_goals(have H:(f==T)=decide (f=T):=rfl;simp only[U,decide_true,decide_false]at H;go_wp2;all_goals(go_ret;refine⟨?_,W⟩;rw[<-M.o];refine congrArg (λx=>Ending.returned x) ?_;unfold DV;(repeat' split)<;>(first|rfl|(exfalso;simp_all;done)|(exfalso;simp_all;omega))))
def aiv (w:Wd) (x:bm.H×Int) (e:Ending) (w':Wd):Prop:=
 ∃on since hit a r,e= .returned (tuple #[agg #[bool on,int .i64 since,bool hit,int .i64 a],int .i64 r])/\((⟨on,since,hit,a⟩:bm.H),r)=x/\Below w w w'
def Bi (on:Bool) (since:Int) (hit:Bool) (c2:Int) (c:Bool) (t wait keep:Int) (x:bm.H×Int) (b2:bm.step ⟨on,since,hit,c2⟩ c t wait keep=x) (w:Wd):
 Calls prog 207 #[agg #[on,since,hit,c2],c,t,wait,keep] w (aiv w x):=by
 unfold bm.step at b2;obtain⟨⟨A,i,g,f⟩,O⟩: ∃j,bm.aD ⟨on,since,hit,c2⟩=j:=⟨_,rfl⟩;rw[O]at b2;refine DO λb5 b1=>?_;have f7:=sI wait;have f9:=sI keep;obtain⟨f',f4⟩:=aq O b2;go_enter func207,ntmps207;go_wp2_with fail
 refine gh λH G u C=>?_;refine zM λL a3 a4 U R=>?_;refine(AJ on since hit c2 A i g f f' u).mono ?_;rintro e c5 ⟨rfl,d1⟩;have L:=L.trans (d1.mono L.size);obtain⟨c',f2⟩:=aq (U.below d1 a3) (R.below d1 a4);obtain⟨f0,e7,e',e3⟩:=cJ c'.f;obtain⟨e1,f1,d9,e5⟩:=cJ c'.a;have m:=(((c'.ay 0 A).ay 1 i).ay 2 g).ay 3 f;have c9:=(((f2.aI (p:=⟨w,0,none⟩) iy A).aI (p:=⟨w,1,none⟩) iy i).aI (p:=⟨w,2,none⟩) iy g).aI (p:=⟨w,3,none⟩) iy f;have e9:(c5 ⟨w,0,none⟩ A ⟨w,1,none⟩ i ⟨w,2,none⟩ g ⟨w,3,none⟩ f).heap.size=c5:=iy;have d3:Below w w (c5 ⟨w,0,none⟩ A ⟨w,1,none⟩ i ⟨w,2,none⟩ g ⟨w,3,none⟩ f):=ly;go_wp2_with fail
 generalize(c5 ⟨w,0,none⟩ A ⟨w,1,none⟩ i ⟨w,2,none⟩ g).setCell ⟨w,3,none⟩ f=d' at m c9 d3 e9⊢;rw[<-e9];have g1:=af.new d' 3 #[t,wait,keep];have e6:=d3.alloc d3.size (.cells #[t,wait,keep] 3);refine(WV d' 3 t wait keep _ g1).mono ?_;rintro e f6 ⟨d2,rfl,hG,e4,d0⟩;have e2:=e6.trans (d0.mono e6.size);obtain⟨e8,e0,c0⟩:=aM ((m.alloc (.cells #[t,wait,keep] 3)).below d0 (by have:=m.lt;simp;omega)) ((c9.alloc (.cells #[t,wait,keep] 3)).below d0 (by have:=c9.lt;simp;omega)) e4;have d5:=e4.lt;have f5:=e8.lt;have g0:=e0.lt;obtain⟨T,d6⟩: ∃T,eC t=T:=⟨_,rfl⟩;obtain⟨N,d7⟩: ∃N,eC wait=N:=⟨_,rfl⟩;obtain⟨B,d8⟩: ∃K,eC keep=K:=⟨_,rfl⟩;have b2:=f4.o;rw[d6,d7,d8]at b2;rw[d6]at b1;rw[d7]at f7;rw[d8]at f9;rw[d6,d7,d8]at c0;have b6:=hJ b2;go_wp2;refine sP λhH=>?_;refine tk 1 ?_;refine tk 2 ?_ (hy:=by intro wq hSw;have z:=(hSw.cell (p:=⟨d2,0,none⟩) d5).trans (c0.cell 0);simp at z;exact bM);refine tk 3 ?_;refine tk 4 ?_;refine tk 5 ?_ (hy:=by intro wq hSw;have z:=(hSw.cell (p:=⟨d2,1,none⟩) d5).trans (c0.cell 1);simp at z;exact bM);refine tk 6 ?_;refine tk 7 ?_;refine tk 8 ?_ (hy:=by intro wq hSw;have z:=(hSw.cell (p:=⟨d2,2,none⟩) d5).trans (c0.cell 2);simp at z;exact bM);refine oS ?_;refine dj ?_;have b4:=e2.trans (hH.mono e2.size);have M:=e8.below hH f5;have b3:=e0.below hH g0;have M:af _ w 71 #[A,i,g,f]:=M;generalize f6.drew=g2 at b4 M b3⊢;obtain _|_:=c;{(have E:x=(⟨false,0,g,f⟩,bm.now ⟨false,0,g,f⟩ T B):=by rw[<-b6.o];rfl);obtain⟨r,F⟩: ∃r,bm.now ⟨false,0,g,f⟩ T B=r:=⟨_,rfl⟩;rw[F]at E;obtain⟨V,a'⟩:=aq F E.symm;obtain⟨f0,e7,e',e3⟩:=cJ M.f;obtain⟨e1,f1,d9,e5⟩:=cJ M.a;have f8:=(M.ay 0 false).ay 1 "";obtain⟨a9,Y,a6⟩:=aM f8 ((b3.aI (p:=⟨w,0,none⟩) iy false).aI (p:=⟨w,1,none⟩) iy "") ((b4.setCell (p:=⟨w,0,none⟩) iy false).setCell (p:=⟨w,1,none⟩) iy "");go_wp2;refine wp_region_held_drew (S:=λW'=>Below w w W'/\af W' w 71 #[false,"",g,f]/\ ∃a b c d,af W' (w+1) 71 #[a,b,c,d]) ry ⟨a6.drew,a9.drew,⟨_,_,_,_,Y.drew⟩⟩ (λhH=>?_);refine EV λK n=>?_;refine(rU (false) (0) (g) (f) T B r V _).mono ?_;rintro e D ⟨rfl,o⟩;show K _ _;obtain⟨a,b,c,d,I⟩:=hH.2.2;have l:=I.below o I.lt;refine be n ⟨hH.1.trans (o.mono hH.1.size),hH.2.1.below o hH.2.1.lt,⟨_,_,_,_,l⟩⟩ λhH=>?_;refine aV 5 λK n=>?_;obtain⟨b9,b7,c8,b'⟩:=cJ l.a;obtain⟨c4,b8,c7,c1⟩:=cJ l.f;go_simp;have m:=(((l.ay 0 false).ay 1 "").ay 2 g).ay 3 f;have c3:=hH.1;have X:=hH.2.1;have y:Below w w (((D ⟨w+1,0,none⟩ false).setCell ⟨w+1,1,none⟩ "") ⟨w+1,2,none⟩ g ⟨w+1,3,none⟩ f):=ly;have q:=(((X.aI (p:=⟨w+1,0,none⟩) iy false).aI (p:=⟨w+1,1,none⟩) iy "").aI (p:=⟨w+1,2,none⟩) iy g).aI (p:=⟨w+1,3,none⟩) iy f;refine be n ⟨y,q,⟨_,_,_,_,m⟩⟩ λhH=>?_;refine nT (S':=λW'=>Below w w W'/\af W' w 71 #[false,"",g,f]/\af W' (w+1) 71 #[false,"",g,f]) (λW j=>⟨j.1,j.2.1,⟨_,_,_,_,j.2.2⟩⟩) _ _ _ _ ?_;generalize(((D ⟨w+1,0,none⟩ false).setCell ⟨w+1,1,none⟩ "") ⟨w+1,2,none⟩ g).setCell ⟨w+1,3,none⟩ f=s at m y q hH⊢;have hH:Below w w s/\af s w 71 #[false,"",g,f]/\af s (w+1) 71 #[false,"",g,f]:=⟨y,q,m⟩;refine tk 6 ?_;refine dj ?_;go_wp2;obtain⟨a7,a2,a5,a8⟩:=cJ hH.2.2.a;exact bodyPost_ret (v:=tuple #[agg #[false,"",g,f],r]) (by simp[results,results207,go_sem,a7,a2,a5,a8]) rfl ⟨_,_,_,_,_,rfl,a',hH.1⟩};obtain⟨e1,f1,d9,e5⟩:=cJ M.a;obtain⟨f0,e7,e',e3⟩:=cJ M.f;obtain _|_:=A;{(have b0:bm.from_ ⟨false,i,g,f⟩ T=T:=by unfold bm.from_;rw[if_pos (.inl rfl)]);by_cases J:N<=T-T;{(have Z:bm.held ⟨false,i,g,f⟩ true T N=⟨true,T,true,T⟩:=by unfold bm.held;rw[if_neg dy,b0,if_pos J]);exact RM};(have Z:bm.held ⟨false,i,g,f⟩ true T N=⟨true,T,g,f⟩:=by unfold bm.held;rw[if_neg dy,b0,if_neg J]);exact OJ};by_cases c6:T<i;{(have b0:bm.from_ ⟨true,i,g,f⟩ T=T:=by unfold bm.from_;rw[if_pos (.inr c6)]);have f3:decide (T<i):=decide_eq_true c6;by_cases J:N<=T-T;{(have Z:bm.held ⟨true,i,g,f⟩ true T N=⟨true,T,true,T⟩:=by unfold bm.held;rw[if_neg dy,b0,if_pos J]);exact RM};(have Z:bm.held ⟨true,i,g,f⟩ true T N=⟨true,T,g,f⟩:=by unfold bm.held;rw[if_neg dy,b0,if_neg J]);exact OJ};(have b0:bm.from_ ⟨true,i,g,f⟩ T=i:=by unfold bm.from_;rw[if_neg (by rintro(j|j);cases j;exact c6 j)]);have f3:decide (T<i)=false:=decide_eq_false c6;by_cases J:N<=T-i;{(have Z:bm.held ⟨true,i,g,f⟩ true T N=⟨true,i,true,T⟩:=by unfold bm.held;rw[if_neg dy,b0,if_pos J]);have d4:decide (N<=T-i):=decide_eq_true J;(have E:x=(⟨true,i,true,T⟩,bm.now ⟨true,i,true,T⟩ T B):=by rw[<-b6.o,Z]);obtain⟨r,F⟩: ∃r,bm.now ⟨true,i,true,T⟩ T B=r:=⟨_,rfl⟩;rw[F]at E;obtain⟨V,a',a9,Y,a6⟩:=de F E.symm (((M.ay 0 true).ay 2 true).ay 3 T) (((b3.aI (p:=⟨w,0,none⟩) iy true).aI (p:=⟨w,2,none⟩) iy true).aI (p:=⟨w,3,none⟩) iy T) (((b4.setCell (p:=⟨w,0,none⟩) iy true).setCell (p:=⟨w,2,none⟩) iy true).setCell (p:=⟨w,3,none⟩) iy T);go_wp2;refine wp_region_held_drew (S:=λW'=>Below w w W'/\af W' w 71 #[true,i,true,T]/\ ∃a b c d,af W' (w+1) 71 #[a,b,c,d]) ry ⟨a6.drew,a9.drew,⟨_,_,_,_,Y.drew⟩⟩ (λhH=>?_);refine EV λK n=>?_;refine(rU (true) (i) (true) (T) T B r V _).mono ?_;rintro e D ⟨rfl,o⟩;show K _ _;obtain⟨a,b,c,d,I⟩:=hH.2.2;have l:=I.below o I.lt;refine be n ⟨hH.1.trans (o.mono hH.1.size),hH.2.1.below o hH.2.1.lt,⟨_,_,_,_,l⟩⟩ λhH=>?_;refine aV 5 λK n=>?_;obtain⟨b9,b7,c8,b'⟩:=cJ l.a;obtain⟨c4,b8,c7,c1⟩:=cJ l.f;go_simp;have m:=(((l.ay 0 true).ay 1 i).ay 2 true).ay 3 T;have c3:=hH.1;have X:=hH.2.1;have y:Below w w (D ⟨w+1,0,none⟩ true ⟨w+1,1,none⟩ i ⟨w+1,2,none⟩ true ⟨w+1,3,none⟩ T):=ly;have q:=(((X.aI (p:=⟨w+1,0,none⟩) iy true).aI (p:=⟨w+1,1,none⟩) iy i).aI (p:=⟨w+1,2,none⟩) iy true).aI (p:=⟨w+1,3,none⟩) iy T;refine be n ⟨y,q,⟨_,_,_,_,m⟩⟩ λhH=>?_;refine nT (S':=λW'=>Below w w W'/\af W' w 71 #[true,i,true,T]/\af W' (w+1) 71 #[true,i,true,T]) (λW j=>⟨j.1,j.2.1,⟨_,_,_,_,j.2.2⟩⟩) _ _ _ _ ?_;generalize(D ⟨w+1,0,none⟩ true ⟨w+1,1,none⟩ i ⟨w+1,2,none⟩ true).setCell ⟨w+1,3,none⟩ T=s at m y q hH⊢;have hH:Below w w s/\af s w 71 #[true,i,true,T]/\af s (w+1) 71 #[true,i,true,T]:=⟨y,q,m⟩;refine tk 6 ?_;refine dj ?_;go_wp2;obtain⟨a7,a2,a5,a8⟩:=cJ hH.2.2.a;exact bodyPost_ret (v:=tuple #[agg #[true,i,true,T],r]) (by simp[results,results207,go_sem,a7,a2,a5,a8]) rfl ⟨_,_,_,_,_,rfl,a',hH.1⟩};(have Z:bm.held ⟨true,i,g,f⟩ true T N=⟨true,i,g,f⟩:=by unfold bm.held;rw[if_neg dy,b0,if_neg J]);have d4:decide (N<=T-i)=false:=decide_eq_false J;(have E:x=(⟨true,i,g,f⟩,bm.now ⟨true,i,g,f⟩ T B):=by rw[<-b6.o,Z]);obtain⟨r,F⟩: ∃r,bm.now ⟨true,i,g,f⟩ T B=r:=⟨_,rfl⟩;rw[F]at E;obtain⟨V,a',a9,Y,a6⟩:=de F E.symm (M.ay 0 true) (b3.aI (p:=⟨w,0,none⟩) iy true) (b4.setCell (p:=⟨w,0,none⟩) iy true);go_wp2;refine wp_region_held_drew (S:=λW'=>Below w w W'/\af W' w 71 #[true,i,g,f]/\ ∃a b c d,af W' (w+1) 71 #[a,b,c,d]) ry ⟨a6.drew,a9.drew,⟨_,_,_,_,Y.drew⟩⟩ (λhH=>?_);refine EV λK n=>?_;refine(rU (true) (i) (g) (f) T B r V _).mono ?_;rintro e D ⟨rfl,o⟩;show K _ _;obtain⟨a,b,c,d,I⟩:=hH.2.2;have l:=I.below o I.lt;refine be n ⟨hH.1.trans (o.mono hH.1.size),hH.2.1.below o hH.2.1.lt,⟨_,_,_,_,l⟩⟩ λhH=>?_;refine aV 5 λK n=>?_;obtain⟨b9,b7,c8,b'⟩:=cJ l.a;obtain⟨c4,b8,c7,c1⟩:=cJ l.f;go_simp;have m:=(((l.ay 0 true).ay 1 i).ay 2 g).ay 3 f;have c3:=hH.1;have X:=hH.2.1;have y:Below w w (D ⟨w+1,0,none⟩ true ⟨w+1,1,none⟩ i ⟨w+1,2,none⟩ g ⟨w+1,3,none⟩ f):=ly;have q:=(((X.aI (p:=⟨w+1,0,none⟩) iy true).aI (p:=⟨w+1,1,none⟩) iy i).aI (p:=⟨w+1,2,none⟩) iy g).aI (p:=⟨w+1,3,none⟩) iy f;refine be n ⟨y,q,⟨_,_,_,_,m⟩⟩ λhH=>?_;refine nT (S':=λW'=>Below w w W'/\af W' w 71 #[true,i,g,f]/\af W' (w+1) 71 #[true,i,g,f]) (λW j=>⟨j.1,j.2.1,⟨_,_,_,_,j.2.2⟩⟩) _ _ _ _ ?_;generalize(D ⟨w+1,0,none⟩ true ⟨w+1,1,none⟩ i ⟨w+1,2,none⟩ g).setCell ⟨w+1,3,none⟩ f=s at m y q hH⊢;have hH:Below w w s/\af s w 71 #[true,i,g,f]/\af s (w+1) 71 #[true,i,g,f]:=⟨y,q,m⟩;refine tk 6 ?_;refine dj ?_;go_wp2;obtain⟨a7,a2,a5,a8⟩:=cJ hH.2.2.a;exact bodyPost_ret (v:=tuple #[agg #[true,i,g,f],r]) (by simp[results,results207,go_sem,a7,a2,a5,a8]) rfl ⟨_,_,_,_,_,rfl,a',hH.1⟩
theorem YA (on since hit cB t keep b) (a:bm.gone ⟨on,since,hit,cB⟩ t keep=b) (w):
 Calls prog 208 #[agg #[bool on,int .i64 since,bool hit,int .i64 cB],int .i64 t,int .i64 keep] w (bO w (bool b)):=by
 unfold bm.gone at a;obtain⟨⟨A,i,g,f⟩,O⟩: ∃S,bm.aD ⟨on,since,hit,cB⟩=S:=⟨_,rfl⟩;rw[O]at a;simp only at a;refine DO λb5 b1=>?_;have X:=sI keep;have Y:=hJ O;clear O;go_enter func208,ntmps208;go_wp2_with fail
 refine yB λU V a1 a4=>?_;refine mB (AJ on since hit cB A i g f Y.o U) λb7 J=>?_;have b6:=bU a1 J;have C:=hJ (V.o.below J a4);let⟨a9,a6,a5,a2⟩:=fJ4 C.o;let⟨q,Q,o,n⟩:=Fw C.o;go_wp2_with fail
 generalize G:World.setCell _ _ _=c;have l:=C.o.q G;have N:=zQ G;have v:Below w w c:=lQ G;rw[<-N];clear N;refine Qg λy m j=>?_;rintro e a' ⟨b2,rfl,hG,E,H⟩;have Z:=bU j H;let⟨I,z⟩:=aq ((l.alloc (.cells #[t,keep] 3)).below H uy) E;have b0:=E.lt;have a8:=I.o.lt;let⟨T,B⟩:=xR (eC t);let⟨K,F⟩:=xR (eC keep);rw[B]at a b1;rw[F]at a X;rw[B,F]at z;clear l m E B F a9 a6 a5 a2 q Q o n;go_wp2;refine cO λhH=>?_;refine th [0,1,2,3,4,5,6,7] (λ_ s=>gG (bC s (bD z.o)) (bC s (bL z.o))) ?_;have R:=bU Z hH;let⟨r,D⟩:=xR (bm.now ⟨A,i,g,f⟩ T K);rw[D]at a;let⟨a7,M⟩:=aq D a;clear a D;have u:=I.o.below hH a8;clear hH;generalize a'.drew=W at R u⊢;have b3:=u.lt;let⟨q,Q,o,n⟩:=Fw u;clear u;go_wp2_with fail
 refine mB (rU A i g f T K r a7.o W) λb4 p=>?_;have L:=bU R p;have q:=bC p q;have o:=bC p o;have n:=bC p n;by_cases d:r=0;{(have a0:(r !=0)=false:=by rw[d];rfl);subst d;go_wp2;all_goals(go_ret;refine⟨?_,L⟩;rw[<-M.o];refine congrArg (λx=>Ending.returned x) ?_;(repeat' split)<;>(first|rfl|(simp_all;done)|(simp_all;omega)|(exfalso;simp_all;done)|(exfalso;simp_all;omega)))};have a0:(r !=0):=Tx;have a3:=hJ (show b=false by rw[<-M.o,aK (.inl d)]);go_wp2;go_ret;exact⟨by rw[a3.o];rfl,L⟩
section
open Go.Sort
section
variable{α:Type} [Inhabited α] {w w':Wd}
def aeN {enc:α->List ai} {k:Nat} (h: ∀x,(enc x).length=k) (xs:List α) {j:Nat} (b:j<xs.length*k):(xs.flatMap enc)[j]?=some (flatK enc k xs.toArray)[j]!:=by
 have l:0<k:=by obtain a|a:=jY k;{subst a;simp at b};exact a
 have g:=Nat.div_lt_of_lt_mul (by rw[Nat.mul_comm];exact b);have i:=br g;have f:=Nat.mod_lt j l;have c:=pE h xs i f;rw[show j/k*k+j%k=j by rw[Nat.mul_comm];exact Nat.div_add_mod j k]at c;rw[c,get_flatK enc k xs.toArray j (by simpa using b)];have e:(xs.toArray)[j/k]! =xs[j/k]:=by rw[getElem!_pos xs.toArray (j/k) (by simpa using g)];simp
 rw[e];have d:j%k<(enc xs[j/k]).length:=by rw[h];exact f
 rw[br d,getElem!_pos (enc xs[j/k]) (j%k) d]
def Ga {enc:α->List ai} {k:Nat} (h: ∀x,(enc x).length=k) {cap:Nat} {xs:List α} (c:w.ownsRow base e k (bR g n cap) n (xs.flatMap enc)):HoldsK enc k w g 0 xs.toArray:=by obtain⟨i,_⟩|⟨t,p,l,a,_,d,q,r,s,o⟩:=c.2;{cases i};injection a with a _ _;injection a with a;injection a with a;subst a;have m:=c.1;rw[iP h]at m;intro j f;rw[size_flatK,size_toArray]at f;have b:=aeN h xs f;rw[<-o,getElem?_take,aK oy]at b;refine⟨?_,?_⟩;{rw[cell_of_row w g (0+j) l e (0,0) d,Nat.zero_add];simpa using b};simp[World.frozen?,d]
def Ur {enc:α->List ai} {k:Nat} (m: ∀x,(enc x).length=k) {cap:Nat} {d:Array α} (p:g<w) (o:HoldsK enc k w g 0 d) (n:d.size<=cap) (q:cap<= ""):aA enc k w w (some (g 0)) d.size cap d.toList:=by
 refine⟨iy,n,q,λr=>⟨g,0,rfl,p,λj x b i s f=>?_⟩⟩;have a:=(bZ.1 b).1;simp at a;have c:=(bZ.1 f).1;rw[m]at c;have:=(o.cell a c).1;rw[this];have e:d[j]! =x:=by exact Sz
 have l:i<(enc x).length:=by rw[m];exact c
 rw[e,getElem!_pos (enc x) i l];rw[br l]at f;exact congrArg some (Option.some.inj f)
def FX (w:Wd) (b:Nat) (f:Array ai->Array ai):w.grownBy (mapBlock w b f) (some b):=
 ⟨rfl,rfl,rfl,by simp[mapBlock],λi c a=>by simp only[mapBlock,Array.getElem?_modify];rw[aG (λe=>a oZ)]⟩
def Bp (enc:α->List ai) (k:Nat) (w:Wd) (b c m:Nat) (d:Array α) (os:Array Obj):w.grownBy (sortWorldK enc k w b c m d os) (some b):=by
 have a:w.grownBy (putRowK enc k (Sort.ahead w m) b c d) (some b):=by have:=FX (Sort.ahead w m) b (putCells id c (flatK enc k d));exact NM
 unfold sortWorldK;exact⟨a.os,a.tape,a.output,cK a.size iy,λi e f=>(heap_grow_old _ os (dS e a.size)).trans (a.block i e f)⟩
end
def DG {P:Program} {ρ:Shelf.Ren} {α:Type} [Inhabited α] (C:SlLaysF0.n6 P ρ) (k:Nat) (I: ∀w,(isAgg (ρ.t 24)).run P w= .ok true w) (u: ∀w,(Go.sizeOf (ρ.t 24)).run P w= .ok k w) (enc:α->List ai) (f: ∀x,(enc x).length=k) (H: ∀x,∀v∈enc x,v.oneCell')
 (c:α->α->Int) (s:gV c) (g:Nat) (i:Array ai) (base e b n cap:Nat) (xs:List α) (w:Wd) (z: ∀args w,(callFunc g args).run P w= .ok (.enter g args) w) (D:CmpLays P g i enc k c b 0 xs.length w)
 (p:w.ownsRow base e k (bR b n cap) n (xs.flatMap enc)) (h:b<w) (A:n<4611686018427387904) (G:n<=cap/\cap<= "") (J:0<k) (t: ∀x y,x∈xs->y∈xs->c x y=0->x=y):
 Calls P (ρ.f 6) #[bR b n cap,.func (.func g) #[] i] w λe w'=>e= .returned (tuple #[])/\aA enc k w' w' (some (b 0)) n cap (dM c xs)/\w.grownBy w' (some b):=by
 have E:xs.length=n:=by have:=p.1;rw[iP f]at this;exact Nat.eq_of_mul_eq_mul_right J this
 have q:=Ga f p;have a:xs.toArray.size=n:=by simpa using E
 have:=AnyQ.slices_SortFunc C k I u enc f H c s.swo g i b 0 cap xs.toArray w z (by simpa using D) q h (by rw[a];exact A);rw[a]at this;refine this.mono ?_;rintro e w' ⟨rfl,d,m,os,j,l,rfl⟩;rw[<-a]at j l;have B:=Me s j l (by simpa using t);have o:d.size=n:=by rw[j.1,a]
 have F:=holdsK_sortWorldK_c enc k w b 0 xs.toArray d m os q h (by rw[o,a]);have r:=Ur f (cap:=cap) (Nat.lt_of_lt_of_le h (Bp enc k w b 0 m d os).size) F oy G.2;rw[B,o]at r;exact⟨rfl,by simpa using r,Bp enc k w b 0 m d os⟩
end
namespace DD
structure Below (B:Nat) (w w':Wd):Prop where
 jz:RowKit.Below B w w'
 drawn:w.drawn<=w'.drawn
instance{B:Nat} {w w':Wd}:Coe (Below B w w') (RowKit.Below B w w'):=⟨Below.jz⟩
section
variable{B B':Nat} {a w w':Wd}
def Below.refl (B:Nat) (w:Wd):Below B w w:=⟨RowKit.Below.refl B w,ny⟩
theorem Below.trans {b:Wd} (c:Below B a b) (k:Below B b w):Below B a w:=⟨c.jz.trans k.jz,cK c.drawn k.drawn⟩
def Below.mono (b:Below B w w') (c:B'<=B):Below B' w w':=⟨b.jz.mono c,b.drawn⟩
def Below.drew (b:Below B a w):Below B a w.drew:=⟨b.jz.drew,cK b.drawn (Nat.le_succ _)⟩
def Below.drewN (b:Below B a w) (n:Nat):Below B a (w.drewN n):=⟨Mem.below_drewN b.jz n,cK b.drawn (Nat.le_add_right _ _)⟩
def Below.alloc (c:Below B a w) (d:B<=w) (b:Obj):Below B a (w.alloc b):=⟨c.jz.alloc d b,c.drawn⟩
theorem Below.setCell (c:Below B a w) {p:ak} (d:B<=p.block) (b:ai):Below B a (w p b):=⟨c.jz.setCell d b,c.drawn⟩
def Below.cell (c:Below B w w') {p:ak} (b:p.block<B):w'.cell? p=w.cell? p:=c.jz.cell b
def Below.size (b:Below B w w'):w<=w'.heap.size:=b.jz.size
def Below.block (b:Below B w w'): ∀k,k<B->w'.heap[k]?=w.heap[k]?:=b.jz.block
theorem Below.grow (b:Below w w w'): ∃q os,w'=Sort.grow (w.drewN q) os:=by refine⟨w'.drawn-w.drawn,w'.heap.extract w w',?_⟩;have g:=b.drawn;have f:=b.size;have c:=b.jz.os;have e:=b.jz.tape;have d:=b.jz.output;have h:=b.block;obtain⟨heap,tape,drawn,os,output⟩:=w;obtain⟨l,i,m,j,k⟩:=w';simp only at g f c e d h;subst c e d;simp only[Sort.grow,World.drewN];simp_all;grind
end
def nY (J:ah ak) (n c:Nat) (xs:List Pr) (w:Wd) (y:aH w w J n c xs):
 Calls prog 59 #[slice J n c] w λe w'=>e= .returned (aa.ar xs)/\Below w w w':=by have m:=y.len;by_cases U:16<n;{have O:decide ((16:Int)<n):=bG oy;have f:=hJ (show aa.ar xs=false by unfold aa.ar;rw[m,bj (by omega: ¬n<=16)];rfl);clear y m;go_enter func59,ntmps59;go_wp2;go_ret;exact⟨by rw[f.o];rfl,Below.refl _ _⟩};have O:decide ((16:Int)<n)=false:=bj oy;obtain⟨f,z,K⟩:=aM (show aa.ar xs=cI (aa.bN xs) xs.length by unfold aa.ar;rw[m,bG (oy:n<=16)];rfl) m y;clear y m;go_enter func59,ntmps59;go_wp2;go_loopw[10] (λi wr=> ∃k:Nat,k<=n/\i=k/\cI (aa.bN xs) k/\Below w w wr) (λi _=>n- (intOf i).toNat);(case atStart=>exact⟨0,dR _,rfl,rfl,Below.refl _ _⟩);case round=>obtain⟨k,a0,rfl,N,d⟩:=hrel;have t:=hJ N;clear N;by_cases u:k<n;{obtain⟨b,D,rfl,F,A⟩:=K.o.at_ u;obtain⟨p,x⟩: ∃p,xs[k]?=some p:=⟨_,br (by rw[z.o];exact u)⟩;have Y:=(d.cell (p:=b (D+k*2)) F).trans (A k p x).1;have W:=(d.cell (p:=b (D+k*2+1)) F).trans (A k p x).2;obtain⟨Q,o⟩:=aq A x;have V:=d.size;have Z:=(K.o.2 p (cz x)).2;clear A x;rcases g:aa.name p.1 with _|_;{obtain⟨H,l⟩:=aq (aa.kp (by rw[z.o];exact u) (Jb o.o g)) g;clear g;(go_wp2_with fail);refine mE (fB _ _ l.o _) ?_;exact El};have l:=hJ g;by_cases v:64<p.2.size;{have H:=hJ (aa.kp (by rw[z.o];exact u) (Jc o.o v));have R:decide ((64:Int)<p.2.size):=bG oy;clear g v;(go_wp2_with fail);refine mE (fB _ _ l.o _) ?_;exact El};have R:decide ((64:Int)<p.2.size)=false:=bj oy;obtain r|r:=jY k;{refine Qd λj s=>?_;have X:decide (0<k)=false:=bj oy;clear g v j r;(go_wp2_with fail);refine mE (fB _ _ l.o _) ?_;go_wp2;go_quiet (fail);exact Oo};obtain⟨q,E⟩: ∃q,xs[k-1]?=some q:=⟨_,br (by rw[z.o];omega)⟩;have C:=Jw r o.o E;have S: ∀G,(wr.alloc G).cell? (b (D+(k-1)*2))=(q.1:ai):=λG=>(World.cell?_alloc_lt wr G _ (show b<wr by omega)).trans ((d.cell (p:=b (D+(k-1)*2)) F).trans (Q.o (k-1) q E).1);have L:IntKind.i64.wrap ((k:Int)-1)=(k:Int)-1:=fA _ oy;have I:((k:Int)-1).toNat=k-1:=oy;rcases M:Op.bytesLess q.1.toList p.1.toList with _|_;{have H:=hJ (aa.kp (by rw[z.o];exact u) (show aa.bN xs k=false by rw[C,M,Bool.and_false]));clear g v C E;(go_wp2_with fail);refine mE (fB _ _ l.o _) ?_;go_wp2;go_quiet (fail);clear L I;exact El};(have j:aa.bN xs k:=by rw[C,g,bG (oy:p.2.size<=64),M];rfl);have s:=hJ (ig t.o j);clear g v C E j;(go_wp2_with fail);refine mE (fB _ _ l.o _) ?_;go_wp2;go_quiet (fail);clear L I;exact Oo};obtain rfl:k=n:=oy;exact vK
def nZ (f:ah ak) (n c:Nat) (xs:List Pr) (w:Wd) (i:aH w w f n c xs):
 Calls prog 103 #[slice f n c] w λe w'=> ∃A' n' c',e= .returned (slice A' n' c')/\aH w' w' A' n' c' (aa.aD xs)/\Below w w w':=by have j:=hJ i;rcases b:aa.ar xs with _|_;{obtain⟨l,g⟩:=aq (show aa.aD xs=[]by unfold aa.aD;rw[b];rfl) b;clear i b;go_enter func103,ntmps103;(go_wp2_with fail);have d:=nY f n c xs w j.o;rw[g.o]at d;refine mB d λk h=>?_;go_wp2;go_ret;refine⟨none,0,0,rfl,?_,h⟩;rw[l.o];exact⟨aA.none_ _ _,λp m=>absurd m iy⟩};have g:=hJ b;clear i b;go_enter func103,ntmps103;(go_wp2_with fail);have d:=nY f n c xs w j.o;rw[g.o]at d;refine mB d λk h=>?_;go_wp2;go_ret;exact⟨f,n,c,rfl,Hc (j.o.later h) g.o,h⟩
def Df (p q:Pr) (c:Int) (F:eI p q=c) (w:Wd):
 Calls prog 104 #[agg #[p.1,p.2],agg #[q.1,q.2]] w λe w'=>e= .returned c/\Below w w w':=by
 obtain⟨m,n⟩:=p;obtain⟨l,j⟩:=q;obtain⟨c1,A⟩: ∃c,fD m l=c:=⟨_,rfl⟩;obtain⟨c2,z⟩: ∃c,fD n j=c:=⟨_,rfl⟩;obtain⟨I,L,H⟩:=aM (show(if c1≠0 then c1 else c2)=c by rw[<-F];unfold eI;rw[A,z]) A z;clear A z F;go_enter func104,ntmps104;go_wp2;have y:Below w.heap.size w ((w.alloc (.cells #[string m,string n] 69)).alloc (.cells #[string l,string j] 69)):=((Below.refl _ w).alloc (Nat.le_refl _) _).alloc (by simp) _;have t:=(af.new w 69 #[m,n]).alloc (.cells #[l,j] 69);have o:af ((w.alloc (.cells #[m,n] 69)).alloc (.cells #[l,j] 69)) (w+1) 69 #[l,j]:=by simpa using af.new (w.alloc (.cells #[m,n] 69)) 69 #[l,j]
 generalize(w.alloc (.cells #[m,n] 69)).alloc (.cells #[l,j] 69)=u at y t o⊢;have E:=t.lt;have G:=o.lt;obtain⟨C,D⟩:=aq t o;clear t o;refine wp_region_held_drew (S:=λW'=>Below u.heap.size u W') (by kernel_rfl) (Below.refl _ _).drew (λhH=>?_);refine wpAnyH_take (i:=0) (v:=?_) (by simp only[getElem?_toArray,getElem?_cons_succ,getElem?_cons_zero];exact rfl) ry ry ry (by exact λ_ _ _ b=>b) (Or.inl ⟨bq,?_⟩) hH ?_;rotate_left;{exact vC};try simp only[Act.put,setIfInBounds_toArray,set_cons_zero,set_cons_succ]
 refine wpAnyH_take (i:=1) (v:=?_) (by simp only[getElem?_toArray,getElem?_cons_succ,getElem?_cons_zero];exact rfl) ry ry ry (by exact λ_ _ _ b=>b) (Or.inl ⟨bq,?_⟩) hH ?_;rotate_left;{exact zu};try simp only[Act.put,setIfInBounds_toArray,set_cons_zero,set_cons_succ]
 refine wpAnyH_take (i:=2) (v:=?_) (by simp only[getElem?_toArray,getElem?_cons_succ,getElem?_cons_zero];exact rfl) ry ry ry (by exact λ_ _ _ b=>b) (Or.inl ⟨bq,?_⟩) hH ?_;rotate_left;{exact vC};try simp only[Act.put,setIfInBounds_toArray,set_cons_zero,set_cons_succ]
 refine wpAnyH_take (i:=3) (v:=?_) (by simp only[getElem?_toArray,getElem?_cons_succ,getElem?_cons_zero];exact rfl) ry ry ry (by exact λ_ _ _ b=>b) (Or.inl ⟨bq,?_⟩) hH ?_;rotate_left;{exact zu};try simp only[Act.put,setIfInBounds_toArray,set_cons_zero,set_cons_succ]
 refine wpAnyH_take (i:=5) (v:=?_) (by simp only[getElem?_toArray,getElem?_cons_succ,getElem?_cons_zero];exact rfl) ry ry ry (by exact λ_ _ _ b=>b) (Or.inl ⟨bq,?_⟩) hH ?_;rotate_left;{exact vC};try simp only[Act.put,setIfInBounds_toArray,set_cons_zero,set_cons_succ]
 refine wpAnyH_take (i:=6) (v:=?_) (by simp only[getElem?_toArray,getElem?_cons_succ,getElem?_cons_zero];exact rfl) ry ry ry (by exact λ_ _ _ b=>b) (Or.inl ⟨bq,?_⟩) hH ?_;rotate_left;{exact zu};try simp only[Act.put,setIfInBounds_toArray,set_cons_zero,set_cons_succ]
 refine wpAnyH_take (i:=7) (v:=?_) (by simp only[getElem?_toArray,getElem?_cons_succ,getElem?_cons_zero];exact rfl) ry ry ry (by exact λ_ _ _ b=>b) (Or.inl ⟨bq,?_⟩) hH ?_;rotate_left;{exact vC};try simp only[Act.put,setIfInBounds_toArray,set_cons_zero,set_cons_succ]
 refine wpAnyH_take (i:=8) (v:=?_) (by simp only[getElem?_toArray,getElem?_cons_succ,getElem?_cons_zero];exact rfl) ry ry ry (by exact λ_ _ _ b=>b) (Or.inl ⟨bq,?_⟩) hH ?_;rotate_left;{exact zu};try simp only[Act.put,setIfInBounds_toArray,set_cons_zero,set_cons_succ]
 refine wpAnyH_ready (rs:=[4]) ry iy ?_;refine AllReadyH.cons (by simp only[getElem?_toArray,getElem?_cons_succ,getElem?_cons_zero];exact rfl) (λK f=>?_) ?_;{go_simp;refine mE (uA m l c1 L.o _) ?_;refine tp λhH=>?_;clear f K;(try simp only[Act.put,setIfInBounds_toArray,set_cons_zero,set_cons_succ]);refine wpAnyH_ready (rs:=[9]) ry iy ?_;refine AllReadyH.cons (by simp only[getElem?_toArray,getElem?_cons_succ,getElem?_cons_zero];exact rfl) (λK f=>?_) ?_;{go_simp;refine mE (uA n j c2 H.o _) ?_;refine tp λhH=>?_;clear f K;(try simp only[Act.put,setIfInBounds_toArray,set_cons_zero,set_cons_succ]);refine wpAnyH_ready (rs:=[10]) ry iy ?_;refine AllReadyH.cons (by simp only[getElem?_toArray,getElem?_cons_succ,getElem?_cons_zero];exact rfl) (λK f=>?_) ?_;{go_simp;refine f.out _ _ ((Below.refl _ u).alloc (Nat.le_refl _) _).drew (λhH=>?_);clear f K;(try simp only[Act.put,setIfInBounds_toArray,set_cons_zero,set_cons_succ]);refine zK λg=>?_;generalize J:World.drew _=d at g hH⊢;have s:=(af.new u _ _).q J;have s:af d u 3 #[c1,c2]:=s;refine Ti λx r=>?_;clear hH s;have hH:Below d.heap.size d d:=Below.refl _ _;refine wpAnyH_ready (rs:=[11]) ry iy ?_;refine AllReadyH.cons (by simp only[getElem?_toArray,getElem?_cons_succ,getElem?_cons_zero];exact rfl) (λK f=>?_) ?_;{go_simp;refine mE (KR u c1 c2 c I.o _ _ (r.o.below hH g)) ?_;refine tp λhH=>?_;clear f K;(try simp only[Act.put,setIfInBounds_toArray,set_cons_zero,set_cons_succ]);refine wpAnyH_take (i:=12) (v:=?_) (by simp only[getElem?_toArray,getElem?_cons_succ,getElem?_cons_zero];exact rfl) ry ry ry (by exact λ_ _ _ b=>b) (Or.inl ⟨bq,?_⟩) hH ?_;rotate_left;{exact vC};(try simp only[Act.put,setIfInBounds_toArray,set_cons_zero,set_cons_succ]);refine wpAnyH_done ry ?_ _;exact EG};exact AllReadyH.nil};exact AllReadyH.nil};exact AllReadyH.nil};exact AllReadyH.nil
def CP (L:ah ak) (n c:Nat) (xs:List Pr) (B:ah ak) (m d:Nat) (ys:List Pr) (r:Int) (a4:aa.cmpL xs ys=r) (w:Wd) (s:aH w w L n c xs) (hy:aH w w B m d ys):
 Calls prog 102 #[slice L n c,slice B m d,.func (.func 104) #[] #[]] w λe w'=>e= .returned r/\Below w w w':=by
 have M:=s.len;have R:=hy.len;obtain⟨Z,a2,u,o⟩:=bJ s hy M R;have b3:=cK s.1.2.1 s.1.2.2.1;clear s hy M R;go_enter func102,ntmps102;go_wp2;go_loopw[13] (λi wr=> ∃k:Nat,k<=n/\k<=m/\i=k/\aa.cmpL (xs.drop k) (ys.drop k)=r/\Below w w wr) (λi _=>n- (intOf i).toNat);case atStart=>exact⟨0,by omega,by omega,rfl,a4,Below.refl _ _⟩
 case round=>obtain⟨k,a9,S,rfl,b,f⟩:=hrel;obtain⟨C,F⟩: ∃y,y=k+1:=⟨_,rfl⟩;(have E:k<n->IntKind.i64.wrap ((k:Int)+1)=((C:Nat):Int):=λa7=>by rw[F,show(k:Int)+1=((k+1:Nat):Int)by omega];exact fA _ oy);have v:=hJ F;clear F;by_cases t:k<n;{have Y:decide (k<n):=bG t;obtain⟨U,O,a0,N,j⟩:=Z.o.at_ t;obtain⟨p,g⟩: ∃p,xs[k]?=some p:=⟨_,br (by rw[u.o];exact t)⟩;have a':=(f.cell (p:=U (O+k*2)) N).trans (j k p g).1;have a8:=(f.cell (p:=U (O+k*2+1)) N).trans (j k p g).2;subst a0;by_cases K:k<m;{have a1:decide (m<=k)=false:=bj oy;obtain⟨x,A,a5,T,G⟩:=a2.o.at_ K;obtain⟨q,z⟩: ∃q,ys[k]?=some q:=⟨_,br (by rw[o.o];exact K)⟩;have W:=(f.cell (p:=x (A+k*2)) T).trans (G k q z).1;have Q:=(f.cell (p:=x (A+k*2+1)) T).trans (G k q z).2;subst a5;rw[Kc g z]at b;clear j G g z;have b1: ∀l,(wr.alloc l).cell? (x (A+k*2))=(q.1:ai):=λl=>(World.cell?_alloc_some wr _ l (by rw[W];rfl)).trans W;have b2: ∀l,(wr.alloc l).cell? (x (A+k*2+1))=(q.2:ai):=λl=>(World.cell?_alloc_some wr _ l (by rw[Q];rfl)).trans Q;obtain⟨V,J⟩: ∃c,eI p q=c:=⟨_,rfl⟩;rw[J]at b;obtain⟨a3,D⟩:=aq J b;clear J b;have b0:=f.size;(go_wp2_with fail);refine mB (Df p q V a3.o _) λa6 X=>?_;have H:Below w w a6:=((f.alloc f.size _).alloc (by simp;omega) _).trans (X.mono (by simp;omega));by_cases I:V=0;{have b:=D.o;rw[aG oy]at b;exact PW};exact RX};have a1:decide (m<=k):=bG oy;rw[JH (by rw[u.o];exact t) (by rw[o.o];omega)]at b;exact OE};exact OK
def oj (b:ah ak) (n c:Nat) (xs:List Pr) (B:ah ak) (m d:Nat) (ys:List Pr) (r:Int) (j:aa.cmpL (aa.aD xs) (aa.aD ys)=r) (w:Wd) (i:aH w w b n c xs) (hy:aH w w B m d ys):
 Calls prog 56 #[slice b n c,slice B m d] w λe w'=>e= .returned r/\Below w w w':=by
 obtain⟨s,u,p⟩:=aM i hy j;clear i hy j;go_enter func56,ntmps56;go_wp2_with fail
 refine(nZ b n c xs w s.o).mono ?_;rintro e y ⟨l,q,c1,rfl,v,f⟩;go_wp2_with fail
 refine(nZ B m d ys y (u.o.later f)).mono ?_;rintro e x ⟨z,k,c2,rfl,t,g⟩;have h:=f.trans (g.mono f.size);go_wp2_with fail
 refine mB (CP l q c1 _ z k c2 _ r p.o x (v.later g) t) λA o=>?_;go_wp2;go_ret;exact⟨rfl,h.trans (o.mono h.size)⟩
end DD
def sK:(prog.info? 69).map (λi=>(i.zero,i.size,i.bytes))=some (some (agg #["s","s"]),2,32):=ry
def MD (w a n c):(binOp .eql 47 (slice a n c) ()).run prog w= .ok (bool a.isNone) w:=Lib.run_eql_slice_nil w _ _ a n c 0 0 underlying47
def MV (xs:List Pr): ∀b∈xs.flatMap cW,b.oneCell':=by intro b c;let⟨t,_,a⟩:=mem_flatMap.1 c;simp only[cW,fI,not_mem_nil,or_false]at a;obtain rfl|rfl:=a<;>rfl
theorem aH.cap {xs:List Pr} (a:aH W B F0 n c xs):n<=c/\c<= "":=⟨a.1.2.1,a.1.2.2.1⟩
def aH.none_ (W B):aH W B none 0 0 []:=⟨aA.none_ _ _,λp a=>absurd a iy⟩
def Dd {xs:List Pr} (e:W.ownsRow base 69 2 v n (xs.flatMap cW)) (d: ∀p∈xs,p.1.size<= ""/\p.2.size<= ""): ∃a c,v=slice a n c/\aH W W a n c xs:=by obtain⟨a,c,rfl,b⟩:=aA.dV jF dy e;exact⟨a,c,rfl,b,d⟩
def Yd (A n c xs w) (b:aH w w A n c xs) (y:n<=32):
 Calls prog 297 #[slice A n c] w λe w'=> ∃v,e= .returned v/\w'.ownsRow w 69 2 v n (xs.flatMap cW)/\az w w':=by let⟨l,f,p,q,u⟩:=info_parts sK;have j:=aA.reads jF dy b.1;obtain _|a:=A;{have d:=MD w none n c;simp only[Option.isNone]at d;go_enter func297,ntmps297;go_wp2;go_ret;(obtain rfl:n=0:=by exact QD);have r:=je b.len;subst r;exact zo};have d:=MD w (some a) n c;simp only[Option.isNone]at d;go_enter func297,ntmps297;have s:(w.alloc (.cells #[] 69)).ownsRow w 69 2 (bR w 0 0) 0 []:=⟨iy,.inr ⟨w,0,#[],rfl,ny,heap_alloc_new w _,ny,by unfold maxLen;omega,rfl,rfl⟩⟩;obtain⟨m,t,o⟩:=aM (j.alloc ny (.cells #[] 69)) (MV xs) s;(go_wp2_with(at_builtin;refine nd _ rfl (.tmp 5) (.tmp 6) 47 rfl w 69 l _ 2 32 underlying47 f p q u rfl dy (bR w 0 0) 0 [] rfl o.o w (some a) n c _ rfl m.o t.o my oy iy ?_;intro x B g i z));exact pZ
def adK (p q w):Calls prog 299 #[agg #[string p.1,string p.2],agg #[string q.1,string q.2]] w λe w'=>e= .returned (int .i64 (jX p q))/\ ∃m os,w'=Sort.grow (w.drewN m) os:=by
 let⟨c,a⟩:=xR (fD p.1 q.1);have b:=hJ a;unfold jX;rw[a];go_enter func299,ntmps299;go_wp2_with fail
 refine mE (uA p.1 q.1 c b.o _) ?_;go_wp2;go_ret;exact⟨rfl,0,_,by rw[Sort.alloc_eq_grow,Sort.alloc_eq_grow,Sort.grow_grow];rfl⟩
def adV (base b n cap:Nat) (xs:List Pr) (w:Wd) (c:w.ownsRow base 69 2 (bR b n cap) n (xs.flatMap cW)) (g:b<w) (f:n<=cap/\cap<= "") (h:n<=32) (d: ∀x y,x∈xs->y∈xs->jX x y=0->x=y):
 Calls prog 298 #[bR b n cap,.func (.func 299) #[] #[]] w λe w'=>e= .returned (tuple #[])/\aA cW 2 w' w' (some (b 0)) n cap (dM jX xs)/\w.grownBy w' (some b):=
 DG Ns 2 isAgg69 sizeOf69 cW jF (λx v a=>by simp[cW]at a;obtain rfl|rfl:=a<;>rfl) jX KY 299 #[] base 69 b n cap xs w (enters_of func299 ry rfl)
  (λm os i _ x y=>(adK x y _)) c g oy f dy d
namespace aa
def Mu {F4:Type} {f:F4->Bool} {l:List F4} {k:Nat} {p:F4} (b:l[k]?=some p) (a:f p=false):l.all f=false:=by rw[all_eq_false];exact⟨p,cz b,by rw[a];decide⟩
def KV {F4:Type} {f:F4->Bool} {l:List F4} {k:Nat} {p:F4} (c:l[k]?=some p) (a:(l.take k).all f) (b:f p):(l.take (k+1)).all f:=by rw[gK,c,all_append,a];simp[b]
def XI {l:List Pr} {k:Nat} {p:Pr} (e:l[k]?=some p) (g:((l.take k).map (·.1)).Nodup) (d:p.1∉ (l.take k).map (·.1)):((l.take (k+1)).map (·.1)).Nodup:=by rw[gK,e,ir];simp only[Option.toList_some,map_cons,map_nil];rw[nodup_append];refine⟨g,iy,λa f b c=>?_⟩;rw[fS]at c;subst c;rintro rfl;exact d f
def ZP {l:List Pr} {k:Nat} {p:Pr} (d:l[k]?=some p) (b:p.1∈(l.take k).map (·.1)):distinct l=false:=by
 unfold distinct;rw[decide_eq_false_iff_not];intro c;have:(l.take (k+1)).map (·.1)=(l.take k).map (·.1)++[p.1]:=by rw[gK,d,ir];rfl
 have a:((l.take (k+1)).map (·.1)).Nodup:=(Sublist.map _ (take_sublist _ _)).nodup c;rw[this,nodup_append]at a;exact a.2.2 p.1 b p.1 iy rfl
def seen (l:List Pr):List (au×Bool):=l.map λp=>(p.1,true)
def adX {l:List Pr} {n:au}:Om.get n (seen l)=if(l.any λp=>decide (p.1=n))=true then some true else none:=by induction l with|nil=>rfl|cons p l ih=>(unfold seen at ih⊢;rw[map_cons,Om.get,ih,any_cons];by_cases a:p.1=n;{rw[aK a,aK (by rw[bG a];rfl)]};rw[aG a,bj a,Bool.false_or])
def Mi {l:List Pr} {n:au}:(l.any λp=>decide (p.1=n))=true↔n∈l.map (·.1):=by rw[any_eq_true,fx];exact⟨λ⟨p,a,e⟩=>⟨p,a,mT e⟩,λ⟨p,a,e⟩=>⟨p,a,bG e⟩⟩
def adn {l:List Pr} {k:Nat} {p:Pr} (d:l[k]?=some p) (c:p.1∉ (l.take k).map (·.1)):Om.put p.1 true (seen (l.take k))=seen (l.take (k+1)):=by rw[yi];{unfold seen;rw[gK,d,ir];rfl};intro q a;unfold seen at a;obtain⟨r,b,rfl⟩:=fx.1 a;rintro e;exact c (by rw[<-e];exact fx.2 ⟨r,b,rfl⟩)
def ZZ {l:List Pr} (e:distinct l): ∀x y,x∈l->y∈l->jX x y=0->x=y:=by intro x y g hy h;unfold distinct at e;have d:=mT e;have f:=(qJ _ _).1 h;rw[nodup_iff_pairwise_ne,pairwise_map]at d;obtain⟨i,b⟩:=fF g;obtain⟨j,a⟩:=fF hy;obtain c|rfl|c:=Nat.lt_trichotomy i j;{have:=pairwise_iff_getElem.1 d i j (bZ.1 b).1 (bZ.1 a).1 c;rw[(bZ.1 b).2,(bZ.1 a).2]at this;exact absurd f this};{rw[b]at a;exact Option.some.inj a};have:=pairwise_iff_getElem.1 d j i (bZ.1 a).1 (bZ.1 b).1 c;rw[(bZ.1 b).2,(bZ.1 a).2]at this;exact absurd f.symm this
def kj (a:name s):s.size<=64:=by unfold name at a;simp only[cm,dP]at a;exact a.1.2
end aa
def yl (w:Wd) (r:List Pr×Int) (e:Ending) (w':Wd):Prop:=
 ∃a n c,e= .returned (tuple #[slice a n c,r.2])/\aH w' w' a n c r.1/\az w w'/\ ∀p:ak,a=some p->w<=p.block
abbrev ahU (w:Wd) (b:Nat) (l:List (au×Bool)):Prop:=OM prog 9 Value.string Value.bool w b l
def Da (U:ah ak) (n c:Nat) (xs:List Pr) (r:List Pr×Int) (d6:aa.make xs=r) (w:Wd) (m:aH w w U n c xs):
 Calls prog 266 #[slice U n c] w (yl w r):=by have c0:=m.len;have e':=m.cap;obtain⟨F,z⟩:=aq m c0;subst d6;clear m c0;by_cases b2:16<n;{have C:decide ((16:Int)<n):=bG oy;have o:=hJ (show aa.make xs=([],4)by unfold aa.make;rw[aK (by rw[z.o];exact b2)]);go_enter func266,ntmps266;go_wp2;go_ret2;exact⟨none,0,0,by rw[o.o];rfl,by rw[o.o];exact aH.none_ _ _,aN,λp e=>by cases e⟩};refine sS λC=>?_;have b4:=hJ (show aa.make xs=if(xs.all λp=>decide (p.2.size<=64))=false then([],4)else if(xs.all λp=>aa.name p.1)=false then([],7)else if aa.distinct xs=false then([],6)else(dM jX xs,0)by unfold aa.make;rw[aG (by rw[z.o];exact b2)]);have f2:= @run_makeMap prog;go_enter func266,ntmps266;go_wp2;go_loopw[17] (λi wr=> ∃k:Nat,k<=n/\i=k/\(xs.take k).all (λp=>decide (p.2.size<=64))/\az w wr) (λi _=>n- (intOf i).toNat);(case atStart=>exact⟨0,oy,rfl,rfl,aN⟩);case round=>obtain⟨k,f0,rfl,H,d⟩:=hrel;have A:=hJ H;clear H;have a4:=d.size;by_cases u:k<n;{obtain⟨b,b3,rfl,a6,l⟩:=F.at_ u;refine zv λp a E D=>?_;have e6:=(F.2 p (cz a)).2;have v:=hJ a;clear l a;by_cases a9:64<p.2.size;{have d8:decide ((64:Int)<p.2.size):=bG oy;have o:=hJ (show aa.make xs=([],4)by rw[b4.o,aK (Mu v.o (bj oy))]);clear a9;exact Tm};have d8:decide ((64:Int)<p.2.size)=false:=bj oy;have Y:=hJ (KV (f:=λp:Pr=>decide (p.2.size<=64)) v A (bG oy));clear a9;go_wp2;go_roundw;(case rel=>exact⟨k+1,oy,bh,Y,ly⟩);case measure=>exact cn};obtain rfl:k=n:=oy;have c1:=bj oy;(have a5:=hJ (show aa.make xs=if(xs.all λp=>aa.name p.1)=false then([],7)else if aa.distinct xs=false then([],6)else(dM jX xs,0)by have:=A.o;rw[dE jZ]at this;rw[b4.o,aG (by rw[this];decide)]));have c8:=hJ d;clear d A;go_wp2;go_loopw[28] (λi wr=> ∃t:Nat,t<=k/\i=t/\(xs.take t).all (λp=>aa.name p.1)/\az w wr) (λi _=>k- (intOf i).toNat);(case atStart=>exact⟨0,oy,rfl,rfl,c8⟩);case round=>obtain⟨t,e9,rfl,H,d⟩:=hrel;have A:=hJ H;clear H;have a4:=d.size;by_cases u:t<k;{obtain⟨b,b3,rfl,a6,l⟩:=F.at_ u;obtain⟨p,a⟩: ∃p,xs[t]?=some p:=⟨_,br iO⟩;have E:=bC d (l t p a).1;have D:=bC d (l t p a).2;have v:=hJ a;obtain⟨d1,a'⟩:=xR (aa.name p.1);have V:=hJ a';clear l a a';(go_wp2_with fail);refine mE (fB _ _ V _) ?_;obtain _|_:=d1;{have o:=hJ (show aa.make xs=([],7)by rw[a5.o,aK (Mu v.o V.o)]);exact Tm};have Y:=hJ (KV (f:=λp:Pr=>aa.name p.1) v A V);go_wp2;go_roundw;(case rel=>exact⟨t+1,oy,bh,Y,ly⟩);case measure=>exact cn};obtain rfl:t=k:=oy;have c1:=bj oy;(have d2:=hJ (show ∀p∈xs,aa.name p.1=true by have:=A.o;rw[dE jZ,all_eq_true]at this;exact this));(have c5:=hJ (show aa.make xs=if aa.distinct xs=false then([],6)else(dM jX xs,0)by have:=A.o;rw[dE jZ]at this;rw[a5.o,aG (by rw[this];decide)]));have X:=d.alloc d.size (.map #[] 0);have B:=OM.made wr prog 9 Value.string Value.bool;have c7:wr<(wr.alloc (.map #[] 0)).heap.size:=iy;have c6:=hJ a4;clear d A;(go_wp2_with fail);generalize wr.alloc (.map #[] 0)=f5 at X B c7⊢;obtain⟨e5,c4⟩:=aq X B;obtain⟨K,b8⟩:=xR wr;rw[b8]at c7 c4 c6⊢;clear X B b8;go_loopw[40] (λi wq=> ∃j:Nat,j<=t/\i=j/\((xs.take j).map (·.1)).Nodup/\ahU wq K (aa.seen (xs.take j))/\az w wq) (λi _=>t- (intOf i).toNat);(case atStart=>exact⟨0,oy,rfl,nodup_nil,c4,e5⟩);case round=>obtain⟨j,e8,rfl,b',B,d⟩:=hrel;obtain⟨a2,b1⟩:=aq b' B;have a4:=d.size;clear b' B;by_cases u:j<t;{obtain⟨b,b3,rfl,a6,l⟩:=F.at_ u;obtain⟨p,a⟩: ∃p,xs[j]?=some p:=⟨_,br iO⟩;have E:=bC d (l j p a).1;have D:=bC d (l j p a).2;obtain⟨v,N⟩:=aq a (Go.WideMaps.keyOf_string_mk (P:=prog) underlying9 (s:=p.1) (by have:=aa.kj (d2 p (cz a));unfold maxLen;omega));have L:=d.alloc d.size (.cells #[p.1,p.2] 69);obtain⟨R,a3⟩:=aq (b1.alloc (.cells #[p.1,p.2] 69)) L;obtain⟨c3,Z⟩:=xR ((xs.take j).any λq=>decide (q.1=p.1));obtain⟨a7,W⟩:=aq (show Om.get p.1 (aa.seen (xs.take j))=if c3=true then some true else none by rw[adX,Z]) Z;clear l a L Z;obtain _|_:=c3;{(have b6:p.1∉ (xs.take j).map (·.1):=λm=>by rw[Mi.2 m]at W;exact absurd W.o dy);have a8:=hJ b6;clear b6;have b9:=trivial;(go_wp2_with(first |(at_lookup;have f1:=b9;refine rF _ rfl _ _ 408 false rfl 9 4 (Maps.string_keyed underlying9) underlying408 false (zeroValue4 _) Value.string Value.bool tJ K (aa.seen (xs.take j)) rfl R p.1 rfl _ N ?_;rw[a7.o];clear b9) |(at_mapUpdate;refine rE _ rfl _ _ _ 408 rfl 9 4 (Maps.string_keyed underlying9) underlying408 Value.string Value.bool tJ K (aa.seen (xs.take j)) rfl R p.1 rfl _ N true rfl ?_;intro b0 S J d4)));rw[adn v.o a8.o]at S;have e0:=hJ S;have c':=a3.grown J a3.size (λk e=>by injection e with e;have:=c6.o;omega);clear S J d4;go_wp2;go_roundw;(case rel=>exact⟨j+1,oy,bh,XI v a2 a8,e0,c'⟩);case measure=>exact cn};have o:=hJ (show aa.make xs=([],6)by rw[c5.o,aK (ZP v.o (Mi.1 W.o))]);(go_wp2_with(at_lookup;refine rF _ rfl _ _ 408 false rfl 9 4 (Maps.string_keyed underlying9) underlying408 false (zeroValue4 _) Value.string Value.bool tJ K (aa.seen (xs.take j)) rfl R p.1 rfl _ N ?_;rw[a7.o]));go_ret2;exact⟨none,0,0,by rw[o.o];rfl,by rw[o.o];exact aH.none_ _ _,a3,λp e=>by cases e⟩};obtain rfl:j=t:=oy;have c1:=bj oy;(have M:aa.distinct xs:=by have:=a2.o;rw[dE jZ]at this;unfold aa.distinct;exact bG this);obtain⟨o,d5,I⟩:=aM (show aa.make xs=(dM jX xs,0)by rw[c5.o,aG (by rw[M];decide)]) (ZZ M) d;clear M d a2 b1;(go_wp2_with fail);refine(Yd U j c xs _ ((F.below I).more I.size) oy).mono ?_;rintro e b5 ⟨e7,rfl,a1,L⟩;have O:=bT I L;obtain⟨rfl,d3⟩|⟨g,cap,f3,rfl,f4,b7,e3,G,e2,e4⟩:=a1.2;{subst d3;have d0:=je z;subst d0;(go_wp2_with fail);refine(AnyF.slices_SortFunc_none Ns none 0 _ b5).mono ?_;rintro e b0 ⟨rfl,rfl⟩;go_wp2;go_ret2;exact⟨none,0,0,by rw[o.o];rfl,by rw[o.o];exact aH.none_ _ _,O,λp e=>by cases e⟩};have d':=(gm.1 b7).1;have e1:=hJ a1;have c9:=TS;clear b7 e2 e4 G a1;(go_wp2_with fail);refine mB (adV _ g j cap xs b5 e1 d' ⟨e3,c9⟩ oy d5) ?_;rintro b0 ⟨c2,J⟩;have d7:=O.grown J O.size (λq e=>by injection e with e;have:=I.size;omega);have d9:=hJ c2;clear c2 J;go_wp2;go_ret2;refine⟨some (g 0),j,cap,by rw[o.o];rfl,by rw[o.o];exact⟨d9,λp a=>F.2 p ((jf jX xs).mem_iff.1 a)⟩,d7,λp e=>by injection e with e;subst e;have:=I.size;simp only;omega⟩
def aa.Ch {F4:Type} (f:F4->Bool) {l:List F4} {k:Nat} {p:F4} (a:l[k]?=some p):(l.take (k+1)).filter f=(l.take k).filter f++(if f p=true then[p]else[]):=by rw[gK,a,filter_append];simp[filter_cons]
def Ii (A n c xs nm w) (H:aH w w A n c xs):
 Calls prog 244 #[slice A n c,string nm] w λe w'=> ∃v,e= .returned v/\w'.ownsRow w 69 2 v (lD xs nm).length ((lD xs nm).flatMap cW)/\az w w':=by
 let⟨J,W,V,X,a3⟩:=info_parts sK;have M:=hJ H;let⟨cs,E⟩:=xR (aa.aD xs);rw[show lD xs nm=cs.filter λp=>!(p.1.toList==nm.toList)by unfold lD;rw[E]];have B:=hJ E;go_enter func244,ntmps244;go_wp2_with fail
 refine(nZ A n c xs w M).mono ?_;rintro e o ⟨a6,d,c1,rfl,f,L⟩;rw[B.o]at f;have D:=f.len;have b0:=f.cap;have a5:d<=16:=by rw[<-D,<-B.o];exact aa.pr (aa.ek xs)
 let⟨a1,z,G⟩:=aM f D L;go_wp2;go_loopw[5,11] (λv i wr=> ∃k:Nat,k<=d/\i=int .i64 (k:Nat)/\wr.ownsRow o 69 2 v ((cs.take k).filter λp=>!(p.1.toList==nm.toList)).length (((cs.take k).filter λp=>!(p.1.toList==nm.toList)).flatMap cW)/\az o wr) (λ_ i _=>d- (intOf i).toNat);case atStart=>exact⟨0,oy,rfl,World.ownsRow_nil _ _ _ _,aN⟩
 case round=>obtain⟨k,b1,rfl,r,a⟩:=hrel;have a7:=a.size;by_cases u:k<d;{obtain⟨b,a',rfl,a4,F⟩:=a1.at_ u;obtain⟨p,s⟩: ∃p,cs[k]?=some p:=⟨_,br iO⟩;have f:=bC a (F k p s).1;have a8:=bC a (F k p s).2;have m:=Ch (λp:Pr=>!(p.1.toList==nm.toList)) s;let⟨ys,y⟩:=xR ((cs.take k).filter λp=>!(p.1.toList==nm.toList));rw[y]at m r;(have a9:ys.length<=16:=by rw[<-y];exact cK (length_filter_le _ _) (by rw[et];omega));let⟨l,q⟩:=aq (r.alloc (.cells #[p.1,p.2] 69)) (a.alloc a.size (.cells #[p.1,p.2] 69));cases x:(p.1.toList==nm.toList);{have t:(!(p.1.toList==nm.toList)):=vXm;rw[aK t]at m;have C:=hJ m;(go_wp2_with(at_builtin;refine wpList_append_own _ rfl _ _ 47 rfl o 69 J _ 2 32 underlying47 W V X a3 rfl dy _ _ _ bq (l.alloc _) (an (wr+1) 0) 1 1 [p.1,p.2] bq bq po jc my oy jB ?_;intro S a2 T Y _));(have U:a2.ownsRow o 69 2 S (ys++[p]).length ((ys++[p]).flatMap cW):=by rw[eX,bu];exact T);have Q:=(q.alloc q.size (.cells #[p.1,p.2] 69)).grown Y uy Ay;let⟨a0,Z⟩:=aq U Q;exact Ph};(have t: ¬(!(p.1.toList==nm.toList))=true:=by rw[x];decide);rw[aG t,na]at m;have C:=hJ m;go_wp2;go_roundw;(case rel=>exact⟨k+1,oy,bh,by rw[C.o];exact l,q⟩);case measure=>exact cn};obtain rfl:k=d:=oy;have l:=hJ r;go_wp2;go_ret;have:=l.o;rw[dE jZ]at this;refine⟨_,rfl,⟨this.1,?_⟩,bU G a⟩;obtain K|⟨g,cap,N,R,O,I⟩:=this.2;{exact .inl K};exact .inr ⟨g,cap,N,R,cK G.size O,I⟩
def CO {k size:Nat} (a:W.ownsRow base e size v n xs) (i:k<=base):W.ownsRow k e size v n xs:=by refine⟨a.1,?_⟩;obtain c|⟨g,cap,d,h,f,b⟩:=a.2;{exact .inl c};exact .inr ⟨g,cap,d,h,cK i f,b⟩
def aa.Bc {l:List Pr} {f:Pr->Bool} (a:aa.ar l):(l.filter f).length<=16/\ ∀p∈l.filter f,p.1.size<= ""/\p.2.size<= "":=by refine⟨cK (length_filter_le _ _) (aa.pr a),λp b=>?_⟩;have b:=(mem_filter.1 b).1;unfold aa.ar at a;rw[cm]at a;let⟨i,c⟩:=fF b;have:=fa.1 a.2 i (bZ.1 c).1;unfold aa.bN at this;rw[c]at this;simp only[cm,dP]at this;have d:=aa.kj this.1.1;have:=this.1.2;omega
def Mb (A n c xs nm v) (E:nm.size<=9223372036854775807) (T:v.size<=9223372036854775807) (r) (O:qS xs nm v=r) (w) (t:aH w w A n c xs):
 Calls prog 245 #[slice A n c,string nm,string v] w (yl w r):=by
 let⟨B,J,I,K,S⟩:=info_parts sK;let⟨D,C⟩:=aq t (show aa.make (lD xs nm++[(nm,v)])=r from O);have g:=Bc (f:=λp=>!(p.1.toList==nm.toList)) (aa.ek xs);let⟨ys,d⟩:=xR (lD xs nm);have W:ys.length<=16:=by rw[<-d];exact g.1
 let⟨y,o⟩:=aq (show ∀p∈ys,p.1.size<= ""/\p.2.size<= "" by rw[<-d];exact g.2) d;go_enter func245,ntmps245;go_wp2_with fail
 refine(Ii A n c xs nm w D).mono ?_;rintro e Q ⟨a3,rfl,m,b⟩;rw[o.o]at m;have l:=hJ m;have V:=b.size;go_wp2_with(at_builtin;refine wpList_append_own _ rfl _ _ 47 rfl w 69 B _ 2 32 underlying47 J I K S rfl dy _ _ _ bq (l.alloc _) (an Q 0) 1 1 [(nm,v).1,(nm,v).2] bq bq po jc my oy jB ?_;intro F q G L _)
 have H:q.ownsRow w.heap.size 69 2 F (ys++[(nm,v)]).length ((ys++[(nm,v)]).flatMap cW):=by rw[eX,bu];exact G
 have i:=(b.alloc b.size (.cells #[string nm,string v] 69)).grown L (by have:=b.size;simp;omega) Ay;obtain⟨R,c2,rfl,M⟩:=Dd H (by intro p a;obtain a|a:=eQ.1 a;{exact y p a};rw[fS.1 a];exact⟨E,T⟩);have x:=hJ M;go_wp2_with fail
 refine(Da R _ c2 _ r (by rw[<-C.o,o.o]) q x).mono ?_;rintro e X ⟨U,N,c3,rfl,u,z,s⟩;go_wp2;go_ret2;exact⟨U,N,c3,rfl,u,bU i z,λp e=>cK i.size (s p e)⟩
def Lg (A n c xs B m d ys r) (c':aa.merge xs ys=r) (w) (e2:aH w w A n c xs) (g:aH w w B m d ys):
 Calls prog 243 #[slice A n c,slice B m d] w (yl w r):=by
 let⟨a7,b4,a9,a2,b5⟩:=info_parts sK;let⟨e5,e4⟩:=aq e2 g;let⟨cs,Q⟩:=xR (aa.aD xs);let⟨ds,a8⟩:=xR (aa.aD ys);let⟨c7,b0,a3⟩:=aM (show aa.make (cs.filter (λp=>(aa.get ds p.1).isNone)++ds)=r by rw[<-c',<-Q,<-a8];rfl) Q a8;have d4:=Bc (f:=λp:Pr=>(aa.get ds p.1).isNone) (show aa.ar cs=true by rw[<-Q];exact aa.ek xs);have d':=hJ d4.2;go_enter func243,ntmps243;go_wp2_with fail
 refine(nZ B m d ys w e4).mono ?_;rintro e d0 ⟨a',m1,a4,rfl,Y,a1⟩;rw[a3.o]at Y;have e9:m1<=16:=by rw[<-Y.len,<-a3.o];exact aa.pr (aa.ek ys)
 have b6:=hJ Y;go_wp2_with fail
 refine(nZ A n c xs d0 (e5.later a1)).mono ?_;rintro e s ⟨e',F,c1,rfl,y,a6⟩;rw[b0.o]at y;have f1:F<=16:=by rw[<-y.len,<-b0.o];exact aa.pr (aa.ek xs)
 have d7:=y.len;have f4:=y.cap;let⟨N,I,d1,z⟩:=bJ (bU a1 a6) (b6.later a6) y d7;go_wp2;go_loopw[6,16] (λv i wr=> ∃k:Nat,k<=F/\i=int .i64 (k:Nat)/\wr.ownsRow s 69 2 v ((cs.take k).filter λp=>(aa.get ds p.1).isNone).length (((cs.take k).filter λp=>(aa.get ds p.1).isNone).flatMap cW)/\az s wr) (λ_ i _=>F- (intOf i).toNat);case atStart=>exact⟨0,oy,rfl,World.ownsRow_nil _ _ _ _,aN⟩
 case round=>obtain⟨k,f5,rfl,R,q⟩:=hrel;have f6:=q.size;by_cases u:k<F;{obtain⟨b,f3,rfl,e8,b1⟩:=d1.at_ u;obtain⟨p,o⟩: ∃p,cs[k]?=some p:=⟨_,br iO⟩;have y:=bC q (b1 k p o).1;have S:=bC q (b1 k p o).2;have D:=Ch (λp:Pr=>(aa.get ds p.1).isNone) o;let⟨a,t⟩:=xR ((cs.take k).filter λp=>(aa.get ds p.1).isNone);rw[t]at D R;(have f2:a.length<=16:=by rw[<-t];exact cK (length_filter_le _ _) (by rw[et];omega));have l:=hJ (R.alloc (.cells #[p.1,p.2] 69));have M:=q.alloc q.size (.cells #[p.1,p.2] 69);have b3:=hJ ((I.below M).more (by simp;omega:s<=(wr.alloc (.cells #[p.1,p.2] 69)).heap.size));have b2:wr<(wr.alloc (.cells #[p.1,p.2] 69)).heap.size:=iy;obtain⟨x,b7⟩:=xR (aa.get ds p.1);have O:=hJ b7;(go_wp2_with fail);generalize b8:World.alloc _ _=d3 at l M b3 b2⊢;have b9:=nQ b8;have e6:=hJ M;refine mB (pH a' m1 a4 ds p.1 x O d3 b3) λc4 K=>?_;let⟨X,E⟩:=aq (eU l K) (bU e6 K);have d9:=b9.below K b2;let⟨y,S⟩:=bE d9.a;have f0:=E.size;unfold nE;obtain _|x:=x;{(have V:(aa.get ds p.1).isNone:=by rw[O.o];rfl);rw[aK V]at D;have C:=hJ D;(go_wp2_with(at_builtin;refine wpList_append_own _ rfl _ _ 47 rfl s 69 a7 _ 2 32 underlying47 b4 a9 a2 b5 rfl dy _ _ _ bq (X.alloc _) (an c4 0) 1 1 [p.1,p.2] bq bq po jc my oy jB ?_;intro W H J U _));(have L:H.ownsRow s 69 2 W (a++[p]).length ((a++[p]).flatMap cW):=by rw[eX,bu];exact J);have G:=(E.alloc E.size (.cells #[p.1,p.2] 69)).grown U (by have:=E.size;simp;omega) (λk e=>(X.lt k e).1);let⟨a0,Z⟩:=aq L G;exact Ph};(have V: ¬(aa.get ds p.1).isNone=true:=by rw[O.o];simp);rw[aG V,na]at D;have C:=hJ D;go_wp2;go_roundw;(case rel=>exact⟨k+1,oy,bh,by rw[C.o];exact X,E⟩);case measure=>exact cn};obtain rfl:k=F:=oy;have T:=R;rw[dE jZ]at T;let⟨a,t⟩:=xR (cs.filter λp=>(aa.get ds p.1).isNone);rw[t]at T;(have f7:a.length<=16:=by rw[<-t];exact cK (length_filter_le _ _) jZ);let⟨e3,d2,l⟩:=aM (show ∀p∈a,p.1.size<= ""/\p.2.size<= "" by rw[<-t];exact d') (show aa.make (a++ds)=r by rw[<-t];exact c7) T;have d6:=aA.reads jF dy ((I.below q).more q.size).1;let⟨d8,e0,a5⟩:=aM d6 (MV ds) q;(go_wp2_with(at_builtin;refine nd _ rfl (.tmp 34) (.tmp 35) 47 rfl s 69 a7 _ 2 32 underlying47 b4 a9 a2 b5 rfl dy _ a.length (a.flatMap cW) rfl l _ a' m1 a4 _ rfl d8 e0 my oy oy ?_;intro W H J U _));have G:=a5.grown U a5.size Ay;have c9:=I.len;(have L:H.ownsRow s 69 2 W (a++ds).length ((a++ds).flatMap cW):=by rw[eX,bu,c9];exact J);have c8:=hJ I.2;(obtain⟨b',c2,rfl,S⟩:=Dd L (by intro p o;obtain o|o:=eQ.1 o;{exact e3 p o};exact c8 p o));have d5:=hJ S;refine cM (Da b' _ c2 _ r d2 H d5) ?_;rintro e f8 ⟨c0,e7,c3,rfl,c5,c6,e1⟩;go_wp2;go_ret2;exact⟨c0,e7,c3,rfl,c5,N.trans ((bU G c6).mono N.size),λp e=>cK (bU N G).size (e1 p e)⟩
namespace ae
structure Ar where
 LA:ah ak
 Ln:Nat
 Lc:Nat
 al:Al
instance:Inhabited Ar:=⟨⟨none,0,0,⟨[],bm.zero,0,0⟩⟩⟩
end ae
def gx (a:Ar):List ai:=[slice a.LA a.Ln a.Lc,a.al.h.on,a.al.h.since,a.al.h.hit,a.al.h.cB,a.al.st,a.al.v]
abbrev kL (r:Ar):Array ai:= #[slice r.LA r.Ln r.Lc,r.al.h.on,r.al.h.since,r.al.h.hit,r.al.h.cB,r.al.st,r.al.v]
abbrev TR (r:Ar):List ai:=[slice r.LA r.Ln r.Lc,r.al.h.on,r.al.h.since,r.al.h.hit,r.al.h.cB,r.al.st,r.al.v]
def AU (a):(gx a).length=7:=rfl
def eE (W:Wd) (b:Nat) (a:Ar):Prop:=aH W b a.LA a.Ln a.Lc a.al.l
def bp (W:Wd) (b:Nat) (A:ah ak) (n c:Nat) (ys:List Ar):Prop:=aA gx 7 W b A n c ys/\ ∀a∈ys,eE W b a
section
variable{W W':Wd} {B B' n c:Nat} {A:ah ak} {ys:List Ar}
def bp.len (a:bp W B A n c ys):ys.length=n:=a.1.1
theorem bp.cap (a:bp W B A n c ys):n<=c/\c<= "":=⟨a.1.2.1,a.1.2.2.1⟩
def bp.below (b:bp W B A n c ys) (a:Below B W W'):bp W' B A n c ys:=⟨b.1.below a,λx d=>(b.2 x d).below a⟩
def bp.more (b:bp W B A n c ys) (a:B<=B'):bp W B' A n c ys:=⟨b.1.more a,λx d=>(b.2 x d).more a⟩
def bp.later (b:bp W W A n c ys) (a:az W W'):bp W' W' A n c ys:=(b.below a).more a.size
def bp.none_ (W B):bp W B none 0 0 []:=⟨aA.none_ _ _,λx a=>absurd a iy⟩
def bp.at_ (g:bp W B A n c ys) {k:Nat} (i:k<n): ∃b d a,A=some (b d)/\b<B/\ys[k]?=some a/\eE W B a/\W.cell? (b (d+k*7))=some (slice a.LA a.Ln a.Lc)/\W.cell? (b (d+k*7+1))=(a.al.h.on:ai)/\W.cell? (b (d+k*7+2))=(a.al.h.since:ai)/\W.cell? (b (d+k*7+3))=(a.al.h.hit:ai)/\W.cell? (b (d+k*7+4))=(a.al.h.cB:ai)/\W.cell? (b (d+k*7+5))=(a.al.st:ai)/\W.cell? (b (d+k*7+6))=(a.al.v:ai):=by let⟨b,d,e,j,h⟩:=g.1.at_ oy;have f:ys[k]?=some (ys[k]' vX):=br _;exact⟨b,d,_,e,j,f,g.2 _ (cz f),h k _ f 0 _ rfl,h k _ f 1 _ rfl,h k _ f 2 _ rfl,h k _ f 3 _ rfl,h k _ f 4 _ rfl,h k _ f 5 _ rfl,h k _ f 6 _ rfl⟩
end
def ae.kp {x:Tb} {k:Nat} (a:k<x.a.length) (b:ae.bN x.a k=false):ae.ar x=false:=by unfold ae.ar;rw[kM a b,Bool.and_false]
def BF (A n c ys full b) (d:ae.ar ⟨ys.map (·.al),full⟩=b) (w) (g:bp w w A n c ys):
 Calls prog 57 #[agg #[slice A n c,int .i64 full]] w (bO w (bool b)):=by
 subst d;have d1:=g.len;have i5:=g.cap;have d6:=hJ g;let⟨es,O⟩:=xR (ys.map (·.al));have d0:es.length=n:=by rw[<-O,cC];exact d1
 rw[O];let⟨d4,a8⟩:=aq O d0;clear g d1 O d0;by_cases i1:16<n;{have C:decide ((16:Int)<n):=bG oy;have m:=hJ (show ae.ar ⟨es,full⟩=false by unfold ae.ar;rw[a8.o,bj (by omega: ¬n<=16)];rfl);go_enter func57,ntmps57;(go_wp2_with fail);exact nz};refine sS λC=>?_;by_cases h7:full<0;{have m:=hJ (show ae.ar ⟨es,full⟩=false by unfold ae.ar;simp only;rw[bj (by omega: ¬0<=full)];simp);go_enter func57,ntmps57;exact nz};by_cases h5:()<full;{have m:=hJ (show ae.ar ⟨es,full⟩=false by unfold ae.ar ae.cj;simp only;rw[bj (by omega: ¬full<=())];simp);go_enter func57,ntmps57;exact nz};obtain⟨f3,J⟩:=aq (show ae.ar ⟨es,full⟩=cI (ae.bN es) n by unfold ae.ar ae.cj;simp only;rw[a8.o,bG (oy:n<=16),bG (oy:0<=full),bG (oy:full<=())];rfl) (show ∀k,k<n->ae.bN es k=false->ae.ar ⟨es,full⟩=false from λk d3 g=>ae.kp (by rw[a8.o];exact d3) g);go_enter func57,ntmps57;(go_wp2_with fail);go_wp2;refine yB λe3 f0 g6 f8=>?_;go_loopw[22] (λi wr=> ∃k:Nat,k<=n/\i=k/\cI (ae.bN es) k/\az e3 wr) (λi _=>n- (intOf i).toNat);(case atStart=>exact⟨0,oy,rfl,rfl,aN⟩);case round=>obtain⟨k,d3,rfl,c4,X⟩:=hrel;have V:=hJ c4;have d:=bU g6 X;clear c4;by_cases u:k<n;{obtain⟨E,o⟩:=xS (k+1);refine pP λz=>?_;let⟨e2,f5,a,f4,d',b',c7,d8,d5,b5,c2,b8,c0,b6⟩:=d6.at_ u;(have a2:es[k]?=some a.al:=by rw[<-d4.o,dw,b'];rfl);have b0:=ae.gY a2;have e4:=bC d d8;have g7:=bC d d5;have g2:=bC d b5;have f6:=bC d c2;have f':=bC d b8;have h1:=bC d c0;have g9:=bC d b6;have H:Below wr wr (wr.alloc (.cells #[slice a.LA a.Ln a.Lc,a.al.h.on,a.al.h.since,a.al.h.hit,a.al.h.cB,a.al.st,a.al.v] 73)):=aN.alloc ny _;have a5:wr<(wr.alloc (.cells #[slice a.LA a.Ln a.Lc,a.al.h.on,a.al.h.since,a.al.h.hit,a.al.h.cB,a.al.st,a.al.v] 73)).heap.size:=iy;have a6:=hJ (((show eE _ _ a from c7.below d):aH _ _ _ _ _ _).below (H.mono d.size)|>.more (cK d.size H.size));have b7:=d.trans (H.mono d.size);have a7:=hJ o;obtain⟨a',S⟩:=xR (aa.ar a.al.l);obtain⟨a1,a3⟩:=xR (bm.ar a.al.h);obtain⟨I,e6,e',t,h6⟩:=de (show gi a.al=(a'&&a1&&decide (0<=a.al.st)&&decide (a.al.st<=2))by unfold gi;rw[S,a3]) S a3 b0 a2;have c1:=X.trans (H.mono X.size);subst f4;clear o d8 d5 b5 c2 b8 c0 b6 c7 b' S a3 b0 a2;(go_wp2_with fail);generalize e8:World.alloc _ _=f9 at H a5 a6 b7 c1⊢;have d2:=nQ e8;have g0:=hJ d2;clear e4 g7 g2 f6 f' h1 g9 d2;refine mB (ng a.LA a.Ln a.Lc a.al.l a' e6 f9 a6) λe9 G=>?_;have D:=bU b7 G;have g4:=bU c1 G;have Y:=g0.below G a5;let⟨f7,g5⟩:=aq Y (a6.later G);have b3:=dS a5 G.size;let⟨e0,g8,e1,g3,e7,c8⟩:=gW6 Y.a;clear Y;cases a';{have f:=hJ (J k u (by rw[t.o,I.o];rfl));exact pR};(go_wp2_with fail);refine mB (Hy a.al.h a1 e' e9) λi0 F=>?_;have j:=bU D F;have b1:=bU g4 F;have a9:=f7.below F b3;let⟨g1,g'⟩:=aq a9 (g5.later F);have i6:=dS b3 F.size;clear e0 g8 e1 g3 e7 c8;have c8:=jd a9;clear a9;cases a1;{have f:=hJ (J k u (by rw[t.o,I.o];rfl));exact vE};by_cases h3:a.al.st<0;{have f:=hJ (J k u (by rw[t.o,I.o,bj (by omega: ¬0<=a.al.st)];rfl));exact vE};have h':decide (a.al.st<0)=false:=bj h3;by_cases f2:2<a.al.st;{have f:=hJ (J k u (by rw[t.o,I.o,bj (by omega: ¬a.al.st<=2)];simp));exact vE};have i4:decide (2<a.al.st)=false:=decide_eq_false f2;let⟨b9,d7⟩:=aq (show gi a.al=true by rw[I.o,bG (oy:0<=a.al.st),bG (oy:a.al.st<=2)];rfl) (f0.below b1 f8);have i7:=d7.lt;go_wp2;by_cases Z:k=0;{have q:decide (0<k)=false:=bj oy;have c9:=hJ (ig V (show ae.bN es k=true by rw[t.o,b9.o,Z];rfl));clear Z;refine yq λhH=>?_;refine qY ?_;refine cw 13 ?_;refine te [14] ?_;exact PX};refine ES λq l p M v=>?_;let⟨e5,h0,e,x,h8,c',b2,c6,_⟩:=d6.at_ v;obtain⟨rfl,rfl⟩:e2=e5/\f5=h0:=Fv;(have b4:es[l]?=some e.al:=by rw[<-d4.o,dw,c'];rfl);have R:=ae.nW (a:=a.al) b4;rw[<-p]at R;let⟨r,a4⟩:=xR (aa.cmpL (aa.aD e.al.l) (aa.aD a.al.l));rw[show ju e.al a.al=r from a4]at R;have d9:=hJ (bC j c6);have i3:=dS d' j.size;let⟨h2,f1,c5⟩:=aM ((show aH _ _ _ _ _ _ from b2).below j|>.more j.size) a4 R;have h9:(0:Int)<=l:=oy;have i2:l<(n:Int):=oy;clear Z p x c' c6 b2 b4 a4 R;refine cO λhH=>?_;refine tg [0,1,2,3,4,5,6,7,8,9,10,11] (λ_ s=>lx (bC s (bD d7)) (bC s d9) (bC s (bD g1))) ?_;refine aV 12 λK N=>?_;go_simp;refine mB (oj e.LA e.Ln e.Lc e.al.l a.LA a.Ln a.Lc a.al.l r f1 _ (h2.later hH) (g'.later hH)) λh4 L=>?_;refine zF λhH=>?_;refine te [13,14] ?_;by_cases c3:r<0;{have c9:=hJ (ig V (show ae.bN es k=true by rw[t.o,b9.o,c5.o,bG c3];rfl));exact PX};have f:=hJ (J k u (by rw[t.o,c5.o,bj c3,Bool.and_false]));exact Qc};obtain rfl:k=n:=oy;have U:=hJ (show ae.ar ⟨es,full⟩=true by rw[f3.o,V.o]);exact Fb
def AK (d:ah ak) (n c:Nat) (ys:List Ar) (a:Int) (w:Wd) (r:bp w w d n c ys):
 Calls prog 136 #[agg #[slice d n c,int .i64 a]] w λe w'=> ∃A' n' c' m o,e= .returned (agg #[slice A' n' c',int .i64 o])/\((A'=d/\n'=n/\c'=c/\m=ys)\/(A'=none/\n'=0/\c'=0/\m=[]))/\(⟨m.map (·.al),o⟩:Tb)=ae.aD ⟨ys.map (·.al),a⟩/\az w w':=by
 obtain⟨b,p⟩:=xR (ae.ar ⟨ys.map (·.al),a⟩);obtain⟨q,y,s⟩:=aM (show ae.aD ⟨ys.map (·.al),a⟩=if b=true then⟨ys.map (·.al),a⟩else ae.zero by unfold ae.aD;rw[p]) p r;go_enter func136,ntmps136;go_wp2_with fail
 refine gh λH G u C=>?_;refine zM λL a3 a4 U R=>?_;refine mB (BF d n c ys a b y u (s.later L)) λx j=>?_;have D:=bU L j;obtain⟨f,z⟩:=aq (R.below j a4) (U.below j a3);obtain⟨F,E⟩:=bE f.f;obtain⟨A,B⟩:=bE f.a;obtain⟨I,a1⟩:=bE z.a;obtain _|_:=b;{go_wp2;have l:=(f.ay 0 ()).ay 1 "";obtain⟨g,i⟩:=bE l.a;refine bodyPost_ret (v:=agg #[slice none 0 0,int .i64 0]) (by simp[results,results136,go_sem,g,i]) rfl ⟨none,0,0,[],0,rfl,.inr ⟨rfl,rfl,rfl,rfl⟩,by rw[q.o];rfl,ly⟩};go_wp2;have l:=(f.ay 0 (slice d n c)).ay 1 a;have t:az w (x (an (w+1) 0) (slice d n c) (an (w+1) 1) a):=ly;obtain⟨g,i⟩:=bE l.a;refine bodyPost_ret (v:=agg #[slice d n c,a]) (by simp[results,results136,go_sem,g,i]) rfl ⟨d,n,c,ys,a,rfl,.inl ⟨rfl,rfl,rfl,rfl⟩,by rw[q.o];rfl,t⟩
def UD (f:ah ak) (n c:Nat) (ys:List Ar) (d:Int) (w:Wd) (g:bp w w f n c ys):
 Calls prog 136 #[agg #[slice f n c,int .i64 d]] w λe w'=> ∃A' n' c' b a,e= .returned (agg #[slice A' n' c',int .i64 a])/\bp w' w'.heap.size A' n' c' b/\(⟨b.map (·.al),a⟩:Tb)=ae.aD ⟨ys.map (·.al),d⟩/\az w w':=by refine(AK f n c ys d w g).mono ?_;rintro e w' ⟨A',n',c',b,a,j,i,k,h⟩;refine⟨A',n',c',b,a,j,?_,k,h⟩;obtain⟨rfl,rfl,rfl,rfl⟩|⟨rfl,rfl,rfl,rfl⟩:=i;{exact g.later h};exact bp.none_ _ _
def yb:(prog.info? 73).map (λi=>(i.zero,i.size,i.bytes))=some (some (agg #[(),false,"",false,"","",""]),7,72):=ry
def LU {ys:List Ar} (f:W.ownsRow base 73 7 v n (ys.flatMap gx)) (e: ∀a∈ys,eE W W a): ∃b c,v=slice b n c/\bp W W b n c ys:=by obtain⟨b,c,rfl,d⟩:=aA.dV AU dy f;exact⟨b,c,rfl,d,e⟩
def aio (w:Wd) (ls:List Al) (e:Ending) (w':Wd):Prop:= ∃a n c ys,e= .returned (slice a n c)/\bp w' w' a n c ys/\ys.map (·.al)=ls/\az w w'
def abE (p:ah ak) (n c:Nat) (ys:List Ar) (m:Int) (w:Wd) (g:bp w w p n c ys):
 Calls prog 83 #[agg #[slice p n c,m]] w (aio w (gr ⟨ys.map (·.al),m⟩)):=by
 obtain⟨R,W,V,X,Y⟩:=info_parts yb;refine NQ λB q G D H x=>?_;clear q g;go_enter func83,ntmps83;go_wp2_with fail
 refine yC λL a1 F a3=>?_;refine(UD p n c ys m L (x.later F)).mono ?_;rintro e f ⟨J,d,c1,o,S,rfl,A,s,E⟩;refine Qr λs u t O K C y I z=>?_;clear A s u t E;have N:(Instr.field 56 (agg #[slice J d c1,S]) 0).run prog f= .ok (slice J d c1) f:=ry;go_wp2;clear N;go_loopw[3,10] (λv i wr=> ∃k:Nat,k<=d/\i=k/\wr.ownsRow f 73 7 v ((o.take k).filter λa=>decide (a.al.st≠0)).length (((o.take k).filter λa=>decide (a.al.st≠0)).flatMap gx)/\az f wr) (λ_ i _=>d- (intOf i).toNat);case atStart=>exact⟨0,oy,rfl,World.ownsRow_nil _ _ _ _,aN⟩
 case round=>obtain⟨k,a4,rfl,r,b⟩:=hrel;have a2:=b.size;by_cases U:k<d;{exact RC};obtain rfl:k=d:=oy;have l:=hJ r;clear r;go_wp2;go_ret;have:=l.o;rw[dE jZ]at this;obtain⟨A',c',rfl,Z⟩:=LU this (λa M=>(show aH _ _ _ _ _ _ from C.2 a (mem_filter.1 M).1).later b);refine⟨A',_,c',_,rfl,Z,?_,bU y b⟩;exact QK
def aeB (a b:Ar) (w:Wd) (f:eE w w a) (k:eE w w b):Calls prog 240 #[agg (gx a).toArray,agg (gx b).toArray] w λe w'=>e= .returned (int .i64 (ju a.al b.al))/\DD.Below w w w':=by
 obtain⟨r,d⟩:=xR (aa.cmpL (aa.aD a.al.l) (aa.aD b.al.l));obtain⟨i,j,h⟩:=aM d f k;rw[show ju a.al b.al=r from d];unfold gx;go_enter func240,ntmps240;go_wp2_with fail
 have c:DD.Below w w ((w.alloc (.cells (kL a) 73)).alloc (.cells (kL b) 73)):=((DD.Below.refl _ _).alloc ny _).alloc iy _;refine mB (DD.oj a.LA a.Ln a.Lc a.al.l b.LA b.Ln b.Lc b.al.l r i _ (j.later c.jz) (h.later c.jz)) λl g=>?_;go_wp2;go_ret;exact⟨rfl,c.trans (g.mono c.size)⟩
def ug {W':Wd} {size R:Nat} (a:W.ownsRow base e size v n xs) (h:W.grownBy W' (some R)) (k:R<base):W'.ownsRow base e size v n xs:=by refine⟨a.1,?_⟩;obtain d|⟨g,cap,f,j,i,b,c⟩:=a.2;{exact .inl d};exact .inr ⟨g,cap,f,j,i,(h.block g (Array.getElem?_eq_some_iff.1 b).1 (λe=>by injection e with e;omega)).trans b,c⟩
def fu (a b:Ar):Int:=ju a.al b.al
def uo:cu.gV fu:=CD.pY (λa:Ar=>a.al)
def acN (base b n cap d:Nat) (ys:List Ar) (w:Wd) (r: ∀a∈ys,eE w d a) (T:d<=b) (J:w.ownsRow base 73 7 (slice (some (b 0)) n cap) n (ys.flatMap gx)) (I:b<w) (N:n<=cap/\cap<= "") (S:n<=32) (B: ∀x y,x∈ys->y∈ys->fu x y=0->x=y):
 Calls prog 239 #[slice (some (b 0)) n cap,.func (.func 240) #[] #[]] w λe w'=>e= .returned (tuple #[])/\aA gx 7 w' w' (some (b 0)) n cap (dM fu ys)/\w.grownBy w' (some b):=by
 have s:eE w d default:=aH.none_ _ _;letI:Inhabited {a:Ar//eE w d a}:=⟨⟨default,s⟩⟩;have l:(ys.attachWith (eE w d) r).map (·.1)=ys:=attachWith_map_subtype_val _;have D:(ys.attachWith (eE w d) r).flatMap (λx=>gx x.1)=ys.flatMap gx:=by (conv=>rhs;rw[<-l]);rw[flatMap_map]
 have:=DG NI 7 isAgg73 sizeOf73 (λx:{a:Ar//eE w d a}=>gx x.1) (λx=>AU x.1) (λx v l=>by simp[gx]at l;obtain rfl|rfl|rfl|rfl|rfl|rfl|rfl:=l<;>rfl) (λx y=>fu x.1 y.1) (uo.pY (λx:{a:Ar//eE w d a}=>x.1)) 240 #[] base 73 b n cap (ys.attachWith (eE w d) r) w (enters_of func240 ry rfl) (λm os A _ x y=>by have g:=Bp (λx:{a:Ar//eE w d a}=>gx x.1) 7 w b 0 m A os;have t:Below d w (Go.Proofs.sortWorldK (λx:{a:Ar//eE w d a}=>gx x.1) 7 w b 0 m A os):=⟨g.os,g.tape,g.output,g.size,λk U=>g.block k oy (λe=>by injection e with e;omega)⟩;refine mB (aeB x.1 y.1 _ ((show aH _ _ _ _ _ _ from x.2).below t|>.more (aR g.size)) ((show aH _ _ _ _ _ _ from y.2).below t|>.more (aR g.size))) λw' s=>?_;exact⟨rfl,s.grow⟩) (by rw[D];exact J) I oy N dy (λx y L hy o=>Subtype.ext (B x.1 y.1 (by rw[<-l];exact mem_map.2 ⟨x,L,rfl⟩) (by rw[<-l];exact mem_map.2 ⟨y,hy,rfl⟩) o));refine mB this ?_;rintro w' ⟨R,g⟩;refine⟨rfl,?_,g⟩;have G:(dM (λx y:{a:Ar//eE w d a}=>fu x.1 y.1) (ys.attachWith (eE w d) r)).map (·.1)=dM fu ys:=by rw[rQ (c:=fu) (λx:{a:Ar//eE w d a}=>x.1) (λ_ _=>rfl),l]
 rw[<-G];obtain⟨O,K,C,Q⟩:=R;refine⟨by rw[length_map];exact O,K,C,λF=>?_⟩;obtain⟨E,M,e,H,o⟩:=Q F;refine⟨E,M,e,H,λj x f i u z=>?_⟩;rw[getElem?_map]at f;rcases p:(dM (λx y:{a:Ar//eE w d a}=>fu x.1 y.1) (ys.attachWith (eE w d) r))[j]? with _|q;{rw[p]at f;cases f};exact Pp
abbrev kH (a:Ar):ai:=agg #[slice a.LA a.Ln a.Lc,a.al.h.on,a.al.h.since,a.al.h.hit,a.al.h.cB,a.al.st,a.al.v]
abbrev vY (w:Wd) (a:Nat) (l:List (au×Ar)):Prop:=OM prog 9 Value.string kH w a l
abbrev aii (w:Wd) (a R:Nat) (l left:List (au×Ar)):Prop:=nc prog 9 Value.string kH w a R l left
def aaq (M l w) (D:vY w M l) (Y: ∀p∈l,eE w w p.2) (e1:l.length<=16) (Z: ∀x y,x∈l.map (·.2)->y∈l.map (·.2)->fu x y=0->x=y):
 Calls prog 209 #[.map (some M)] w λe w'=> ∃z n c a3,e= .returned (slice z n c)/\bp w' w' z n c a3/\a3=dM fu (l.map (·.2))/\Below w w w'/\ ∀p:ak,z=some p->w<=p.block:=by
 let⟨c0,d7,c2,b5,e0⟩:=info_parts yb;let⟨d0,Q,T⟩:=aM D Y Z;have f0:=D.lt;clear D Y Z;go_enter func209,ntmps209;go_wp2_with(at_range;refine Uj _ rfl _ 301 rfl 9 73 underlying301 Value.string kH M l rfl d0 ?_;intro m J b0 e4)
 have a8:=aN.grown b0 ny Ag;let⟨R,s⟩:=xR w.heap.size;have b3:R<m.heap.size:=by omega
 rw[s]at J;let⟨A,f,b7⟩:=aM J s a8;simp only[s];clear J b0 s a8;go_loopg[3] l.length (λd9 v wr=> ∃left b:List _,aii wr M R l left/\wr.ownsRow m 73 7 v b.length ((b:List Ar).flatMap gx)/\(b++left.map (·.2)).Perm (l.map (·.2))/\d9=left.length/\Below R w wr/\m<=wr.heap.size);case atStart=>exact⟨l,[],A,World.ownsRow_nil _ _ _ _,Perm.refl _,rfl,by rw[<-f.o];exact b7,ny⟩
 case round=>let⟨left,b,V,U,F,e7,a1,e5⟩:=hrel;let⟨A,I,b1⟩:=aM V U F;(have e9:b.length+left.length<=16:=by have:=F.length_eq;simp at this;omega);have r:=hJ a1;clear V U F a1;(go_wp2_with(at_next;refine Un _ rfl _ rfl 9 Value.string kH M R l left rfl A ?_ ?_));{intro c6;subst c6;have d:=b1.o;simp only[map_nil,na]at d;have i:=hJ d;clear d;obtain⟨rfl,b'⟩|⟨g,cap,e',rfl,f1,a0,d5,G,d2,d6⟩:=I.2;{have d':b=[]:=je b';subst d';(go_wp2_with fail);refine(AnyF.slices_SortFunc_none NI none 0 _ wr).mono ?_;rintro e b9 ⟨rfl,rfl⟩;go_wp2;go_ret;have d8:=nil_perm.1 i;exact⟨none,0,0,[],rfl,bp.none_ _ _,by rw[d8];rfl,by rw[f.o];exact r.o,λp e=>by cases e⟩};have c7:=(gm.1 a0).1;have b4:cap<= "":=TS;(have S: ∀a∈b,eE wr R a:=λa H=>by obtain⟨p,d,rfl⟩:=fx.1 (i.mem_iff.1 H);have:=Q p d;rw[f.o]at this;exact(show aH _ _ _ _ _ _ from this).below r.o);have W: ∀x y,x∈b->y∈b->fu x y=0->x=y:=λx y b6 hy=>T x y (i.mem_iff.1 b6) (i.mem_iff.1 hy);let⟨c8,c'⟩:=aq S W;clear a0 d2 d6 G S W;(go_wp2_with fail);refine mB (acN _ g b.length cap R b wr c8.o oy I.o c7 ⟨d5,b4⟩ oy c'.o) ?_;rintro b9 ⟨a',E⟩;have a6:=r.o.grown E oy TD;have c9:=hJ a';have e2:=E.size;clear a' E;go_wp2;go_ret;refine⟨some ⟨g,0,none⟩,b.length,cap,dM fu b,rfl,⟨c9.o,λa H=>?_⟩,?_,by rw[f.o];exact a6,λp e=>by injection e with e;subst e;have:=f.o;simp only;omega⟩;{obtain⟨p,d,rfl⟩:=fx.1 (i.mem_iff.1 ((jf fu b).mem_iff.1 H));have:=Q p d;rw[f.o]at this;exact(show aH _ _ _ _ _ _ from this).below a6|>.more oy};exact IS uo ((jf fu b).trans i) (rH uo b) T};intro o key a u c4 C a4 t c1 e6;have c5:=hJ a4;have a9:=ug I t b3;have O:=r.o.grown t oy TD;let⟨d3,a5⟩:=aq O (a9.alloc (.cells #[slice a.LA a.Ln a.Lc,a.al.h.on,a.al.h.since,a.al.h.hit,a.al.h.cB,a.al.st,a.al.v] 73));have e8:=t.size;(have a7:left.length=o.length+u.length+1:=by rw[C];simp;omega);(have X:((b++[a])++(o++u).map (·.2)).Perm (l.map (·.2)):=by refine Perm.trans ?_ b1;rw[C,ed,ir,ir,map_cons];refine Perm.append_left b ?_;rw[singleton_append];exact perm_middle.symm);let⟨b8,d1⟩:=aq X a7;clear C a4 a9 O t c1 X a7;(go_wp2_with(at_builtin;refine wpList_append_own _ rfl _ _ 42 rfl m 73 c0 _ 7 72 underlying42 d7 c2 b5 e0 rfl dy _ _ _ bq (a5.alloc _) (an (c4+1) 0) 1 1 [slice a.LA a.Ln a.Lc,a.al.h.on,a.al.h.since,a.al.h.hit,a.al.h.cB,a.al.st,a.al.v] bq bq FG jc my oy jB ?_;intro d4 c3 L a2 _));(have N:c3.ownsRow m 73 7 d4 (b++[a]).length ((b++[a]).flatMap gx):=by rw[eX,bu];exact L);have B:=((aN.alloc oy (.cells #[slice a.LA a.Ln a.Lc,a.al.h.on,a.al.h.since,a.al.h.hit,a.al.h.cB,a.al.st,a.al.v] 73)).alloc uy (.cells #[slice a.LA a.Ln a.Lc,a.al.h.on,a.al.h.since,a.al.h.hit,a.al.h.cB,a.al.st,a.al.v] 73)).grown a2 uy (λk e=>(a5.o.lt k e).1);let⟨K,b2⟩:=aq B N;have e3:=B.size;clear L N a2 B;go_wp2;go_roundg (o++u).length;(case rel=>exact⟨o++u,b++[a],c5.below K oy oy,b2,b8,rfl,d3.trans (K.mono oy),oy⟩);case measure=>have:=d1.o;simp;omega
namespace iu
def Is.below {w':Wd} (a:Is B b bs w) (e:az w w'):Is B b bs w':=by
 have key: ∀p,Lib.BuilderAt 341 5 B b p bs w->Lib.BuilderAt 341 5 B b p bs w':=by intro p a;have k:=Lib.BuilderAt.lt a;let⟨h,v,f,c,n⟩:=a;refine⟨h,v,(e.block b k).trans f,⟨c.1,?_⟩,n⟩;obtain i|⟨g,cap,j,m,l,d,rest⟩:=c.2;{exact .inl i};exact .inr ⟨g,cap,j,m,l,(e.block g (gm.1 d).1).trans d,rest⟩
 exact a.elim (λa=> .inl (key _ a)) (λa=> .inr (key _ a))
def Is.lt (a:Is B b bs w):b<w:=a.elim Lib.BuilderAt.lt Lib.BuilderAt.lt
end iu
def ae.xG (s:au) (b:s.size<=64):(ib s).length<=90:=by unfold ib;have:=pu s.size oy;have a:s.data.toList.length=s.size:=kI;simp only[bu,cH,a];omega
def ae.Ms (acc s):((acc++Lib.decDigits s.size)++[32])++s.data.toList=acc++ib s:=by unfold ib;simp[ed]
def Dq (A n c xs) (b6:aa.ar xs) (k) (b9:ae.key xs=k) (w) (hG:dW w) (v:aH w w A n c xs):
 Calls prog 206 #[slice A n c] w (bO w (string k)):=by
 have X:=jG b6;have Y:=v.len;have c':=v.cap;have c2:n<=16:=by rw[<-Y];exact X.1
 let⟨b5,a8,z,b7,a4⟩:=de X.2 v Y b9 hG;go_enter func206,ntmps206;go_wp2;go_loopw[10] (λi wr=> ∃ (k:Nat) (a:List aU),k<=n/\i=k/\a=pO (xs.take k)/\a.length<=k*180/\Is w w (Lib.byteCells a) wr/\az w wr) (λi _=>n- (intOf i).toNat);case atStart=>exact⟨0,[],dR _,rfl,rfl,iy,Lib.fresh_isBuilder _ _ _,aN.alloc ny _⟩
 case round=>obtain⟨f,a,c3,rfl,a1,c1,T,r⟩:=hrel;let⟨a5,a2⟩:=aq a1 T;have Z:=r.size;clear a1 T;by_cases u:f<n;{obtain⟨b,c9,rfl,c0,a0⟩:=a8.at_ u;obtain⟨p,t⟩: ∃p,xs[f]?=some p:=⟨_,br iO⟩;have d0:=bC r (a0 f p t).1;have c8:=bC r (a0 f p t).2;have a3:=b5 p (cz t);have c6:=xG p.1 a3.1;have c4:=xG p.2 a3.2;(have b3:=hJ (show pO (xs.take (f+1))=a++ib p.1++ib p.2 by rw[a5.o];unfold pO;rw[gK,t,eX];simp[ed]));have a7:=Is.below (w':=wr.alloc (.cells #[p.1,p.2] 69)) a2 (aN.alloc ny _);have b4:=r.alloc Z (.cells #[p.1,p.2] 69);let⟨W,V⟩:=aq a7 b4;(go_wp2_with fail);go_wp2;generalize World.alloc _ _=d2 at W V⊢;have c5: ∀w,(Instr.index 342 (agg #[p.1,p.2]) "").run prog w= .ok p.1 w:=λ_=>ry;have c7: ∀w,(Instr.index 342 (agg #[p.1,p.2]) "1").run prog w= .ok p.2 w:=λ_=>ry;go_loopw[19] (λi U=> ∃ (j:Nat) (d:List aU),i=j/\((j=0/\d=a)\/(j=1/\d=a++ib p.1)\/(j=2/\d=a++ib p.1++ib p.2))/\Is w w (Lib.byteCells d) U/\az w U) (λi _=>2- (intOf i).toNat);(case atStart=>exact⟨0,a,rfl,.inl ⟨rfl,rfl⟩,W,V⟩);case round=>obtain⟨j,d,rfl,b0,b8,b1⟩:=hrel;let⟨G,m⟩:=aq b8 b1;obtain⟨rfl,rfl⟩|⟨rfl,rfl⟩|⟨rfl,rfl⟩:=b0;{(go_wp2_with fail);refine mB (uz (p.1).size oy _ (a4.below m)) λb2 l=>?_;have R:=Is.below G l;have H:=hJ R;have o:=bU m l;have a9:=pu (p.1).size oy;have E:(⟨(Lib.decDigits (p.1).size).toArray⟩:au).size=(Lib.decDigits (p.1).size).length:=sh _;(go_wp2_with fail);refine(wE w w (Lib.byteCells (d)) ⟨(Lib.decDigits (p.1).size).toArray⟩ _ H (by rw[rP,E];first|omega|(simp only[bu];omega)) o.size).mono ?_;rintro e x ⟨rfl,J,B,-⟩;have s:=o.trans B;have O:Is w w (Lib.byteCells ((d)++Lib.decDigits (p.1).size)) x:= .inr (by rw[show Lib.byteCells ((d)++Lib.decDigits (p.1).size)=Lib.byteCells (d)++Lib.strCells ⟨(Lib.decDigits (p.1).size).toArray⟩by simp[Lib.byteCells,Lib.strCells]];exact J);have K:=hJ O;(go_wp2_with fail);refine(Gc w w (Lib.byteCells ((d)++Lib.decDigits (p.1).size)) 32 _ K (by rw[rP];first|omega|(simp only[bu];omega)) s.size).mono ?_;rintro e F ⟨rfl,M,C,-⟩;have q:=s.trans C;have L:Is w w (Lib.byteCells (((d)++Lib.decDigits (p.1).size)++[32])) F:= .inr (by rw[fP.tZ];exact M);have N:=hJ L;(go_wp2_with fail);refine(wE w w (Lib.byteCells (((d)++Lib.decDigits (p.1).size)++[32])) (p.1) _ N (by rw[rP];simp only[bu,cH,fQ];omega) q.size).mono ?_;rintro e Q ⟨rfl,S,y,-⟩;have I:=q.trans y;have g:Is w w (Lib.byteCells ((((d)++Lib.decDigits (p.1).size)++[32])++(p.1).data.toList)) Q:= .inr (by rw[show Lib.byteCells ((((d)++Lib.decDigits (p.1).size)++[32])++(p.1).data.toList)=Lib.byteCells (((d)++Lib.decDigits (p.1).size)++[32])++Lib.strCells (p.1)by simp[Lib.byteCells,Lib.strCells]];exact S);rw[Ms]at g;have D:=hJ g;go_wp2;go_roundw;(case rel=>exact⟨1,_,rfl,.inr (.inl ⟨rfl,rfl⟩),D,I⟩);case measure=>simp[intOf]};{(go_wp2_with fail);refine mB (uz (p.2).size oy _ (a4.below m)) λb2 l=>?_;have R:=Is.below G l;have H:=hJ R;have o:=bU m l;have a9:=pu (p.2).size oy;have E:(⟨(Lib.decDigits (p.2).size).toArray⟩:au).size=(Lib.decDigits (p.2).size).length:=sh _;(go_wp2_with fail);refine(wE w w (Lib.byteCells (a++ib p.1)) ⟨(Lib.decDigits (p.2).size).toArray⟩ _ H (by rw[rP,E];first|omega|(simp only[bu];omega)) o.size).mono ?_;rintro e x ⟨rfl,J,B,-⟩;have s:=o.trans B;have O:Is w w (Lib.byteCells ((a++ib p.1)++Lib.decDigits (p.2).size)) x:= .inr (by rw[show Lib.byteCells ((a++ib p.1)++Lib.decDigits (p.2).size)=Lib.byteCells (a++ib p.1)++Lib.strCells ⟨(Lib.decDigits (p.2).size).toArray⟩by simp[Lib.byteCells,Lib.strCells]];exact J);have K:=hJ O;(go_wp2_with fail);refine(Gc w w (Lib.byteCells ((a++ib p.1)++Lib.decDigits (p.2).size)) 32 _ K (by rw[rP];first|omega|(simp only[bu];omega)) s.size).mono ?_;rintro e F ⟨rfl,M,C,-⟩;have q:=s.trans C;have L:Is w w (Lib.byteCells (((a++ib p.1)++Lib.decDigits (p.2).size)++[32])) F:= .inr (by rw[fP.tZ];exact M);have N:=hJ L;(go_wp2_with fail);refine(wE w w (Lib.byteCells (((a++ib p.1)++Lib.decDigits (p.2).size)++[32])) (p.2) _ N (by rw[rP];simp only[bu,cH,fQ];omega) q.size).mono ?_;rintro e Q ⟨rfl,S,y,-⟩;have I:=q.trans y;have g:Is w w (Lib.byteCells ((((a++ib p.1)++Lib.decDigits (p.2).size)++[32])++(p.2).data.toList)) Q:= .inr (by rw[show Lib.byteCells ((((a++ib p.1)++Lib.decDigits (p.2).size)++[32])++(p.2).data.toList)=Lib.byteCells (((a++ib p.1)++Lib.decDigits (p.2).size)++[32])++Lib.strCells (p.2)by simp[Lib.byteCells,Lib.strCells]];exact S);rw[Ms]at g;have D:=hJ g;go_wp2;go_roundw;(case rel=>exact⟨2,_,rfl,.inr (.inr ⟨rfl,rfl⟩),D,I⟩);case measure=>simp[intOf]};go_wp2;go_roundw;(case rel=>exact⟨f+1,_,oy,bh,b3.symm,by simp only[bu];omega,G,m⟩);case measure=>exact cn};obtain rfl:f=n:=oy;(have b':=hJ (show k=⟨a.toArray⟩by rw[<-b7.o,a5.o,dE jZ];rfl));(go_wp2_with fail);refine mB (Tryz.Builder_String_any w w a _ a2 Z) λd1 a6=>?_;have a':=r.trans a6;go_wp2;go_ret;exact⟨by rw[b'.o];rfl,a'⟩
namespace Om
variable{κ α β:Type} [DecidableEq κ]
def mp (g:α->β) (l:List (κ×α)):List (κ×β):=l.map λp=>(p.1,g p.2)
def uT (g:α->β) (k:κ): ∀l:List (κ×α),get k (mp g l)=(get k l).map g
 |[]=>rfl
 |p::l=>by
  show get k ((p.1,g p.2)::mp g l)=_;rw[get,get];split;{rfl};exact uT g k l
def uS (g:α->β) (k:κ) (v:α): ∀l:List (κ×α),put k (g v) (mp g l)=mp g (put k v l)
 |[]=>rfl
 |p::l=>by
  show put k (g v) ((p.1,g p.2)::mp g l)=_;rw[put,put];split;{rfl};rw[uS g k v l];rfl
def Nh (g:α->β) (k:κ): ∀l:List (κ×α),del k (mp g l)=mp g (del k l)
 |[]=>rfl
 |p::l=>by
  show del k ((p.1,g p.2)::mp g l)=_;rw[del,del];split;{rfl};rw[Nh g k l];rfl
def agU (g:α->β) (l:List (κ×α)):(mp g l).length=l.length:=cC ..
end Om
namespace ae
def jM (s:List Fo×List (au×Fo)) (f:Fo):List Fo×List (au×Fo):=
 if aa.ar f.ls=false then s else if(Om.get (key f.ls) s.2).isSome=true then s else(s.1++[f],Om.put (key f.ls) f s.2)
def qQ (s:List Fo×List (au×Fo)):List ap.F×List (au×ap.F):=(s.1.map Fo.val,Om.mp Fo.val s.2)
def XP (s f):nw (qQ s) f.val=qQ (jM s f):=by unfold nw jM;show(if aa.ar f.ls=false then _ else _)=_;split;{rfl};(have:(Om.get (key f.val.1) (qQ s).2).isSome=(Om.get (key f.ls) s.2).isSome:=by show(Om.get (key f.ls) (Om.mp Fo.val s.2)).isSome=_;rw[uT];cases Om.get (key f.ls) s.2<;>rfl);rw[this];split;{rfl};unfold qQ;simp only;rw[ir,<-uS];rfl
def gu (b:List Fo):List Fo×List (au×Fo):=b.foldl jM ([],[])
def Js (b):gF (b.map Fo.val)=qQ (gu b):=by
 unfold gF gu;have: ∀ (b:List Fo) (s:List Fo×List (au×Fo)),(b.map Fo.val).foldl nw (qQ s)=qQ (b.foldl jM s):=by intro b;induction b with|nil=>(intro s;rfl)|cons f b ih=>(intro s;rw[map_cons,foldl_cons,foldl_cons,XP,ih])
 exact this b ([],[])
def rR {α β:Type} (g:β->α->β) (z:β) {l:List α} {k:Nat} {x:α} (b:l[k]?=some x):(l.take (k+1)).foldl g z=g ((l.take k).foldl g z) x:=by rw[gK,b,foldl_append];rfl
def Cx {l:List Pr} (f:aa.ar l):(key l).size<=10000:=by
 have b:=jG f;have: ∀l:List Pr,(∀p∈l,p.1.size<=64/\p.2.size<=64)->(pO l).length<=l.length*180:=by intro l;induction l with|nil=>(intro _;simp[pO])|cons p l ih=>(intro d;have c:=d p (gl ..);have i:=xG p.1 c.1;have j:=xG p.2 c.2;have g:=ih (λq h=>d q (gW _ h));unfold pO at g⊢;rw[gX,bu,bu,cH];omega)
 have k:=this l b.2;have e:(key l).size=(pO l).length:=by unfold key;exact sh _
 rw[e];have:=b.1;omega
def Jy (b):(gu b).1.length<=b.length:=by
 have: ∀ (b:List Fo) (s:List Fo×List (au×Fo)),(b.foldl jM s).1.length<=s.1.length+b.length:=by intro b;induction b with|nil=>(intro s;simp)|cons f b ih=>(intro s;have:=ih (jM s f);(have c:(jM s f).1.length<=s.1.length+1:=by unfold jM;split;{omega};split;{omega};simp);rw[foldl_cons,cH];omega)
 have:=this b ([],[]);exact Pz
def Cc (fs):(∀f∈(gu fs).1,f∈fs)/\ ∀p∈(gu fs).2,p.2∈fs:=by
 have: ∀ (gs:List Fo) (s:List Fo×List (au×Fo)),(∀f∈gs,f∈fs)->((∀f∈s.1,f∈fs)/\ ∀p∈s.2,p.2∈fs)->((∀f∈(gs.foldl jM s).1,f∈fs)/\ ∀p∈(gs.foldl jM s).2,p.2∈fs):=by intro gs;induction gs with|nil=>(intro s _ b;exact b)|cons f gs ih=>(intro s d b;refine ih _ (λg c=>d g (gW _ c)) ?_;unfold jM;split;{exact b};split;{exact b};refine⟨λg c=>?_,λp c=>?_⟩;{obtain c|c:=eQ.1 c;{exact b.1 g c};rw[fS.1 c];exact d f (gl ..)};obtain rfl|c:=lE c;{exact d f (gl ..)};exact b.2 p c)
 exact this fs ([],[]) (λf b=>b) ⟨λf b=>absurd b iy,λp b=>absurd b iy⟩
end ae
section
variable{κ α:Type} [DecidableEq κ] {P:Program} (w:Wd) {ops:Array Oper} {rest:List Oper} {o:Oper} {a:Act} {Q:Exit->Act->Wd->Prop}
def wC (r:o.guard=none) (m x t) (u:o.op=Op.lookup t m x true) (k e) (K:Maps.Keyed P k) (n:P.underlying t=some (.map k e)) (z) (d:(zeroValue e).run P w= .ok z w)
 (f:κ->ai) (g:α->ai) (v: ∀x y,f x=f y->x=y) (b:Nat) (l:List (κ×α)) (s:a.eval m= .map (some b)) (h:OM P k f g w b l) (key:κ) (q:a.eval x=f key) (c:Lit) (p:keyOf P k (f key)=some c) (i:Om.get key l=none)
 (j:wpList P ops Q rest (a.put o.dst (tuple #[z,false])) w):wpList P ops Q (o::rest) a w:=
 rF w r m x t true u k e K n z d f g v b l s h key q c p (by rw[i];exact j)
def AG (r:o.guard=none) (m x t) (u:o.op=Op.lookup t m x true) (k e) (K:Maps.Keyed P k) (n:P.underlying t=some (.map k e)) (z) (d:(zeroValue e).run P w= .ok z w)
 (f:κ->ai) (g:α->ai) (A: ∀x y,f x=f y->x=y) (b:Nat) (l:List (κ×α)) (s:a.eval m= .map (some b)) (h:OM P k f g w b l) (key:κ) (q:a.eval x=f key) (c:Lit) (p:keyOf P k (f key)=some c) (v:α) (i:Om.get key l=some v)
 (j:wpList P ops Q rest (a.put o.dst (tuple #[g v,true])) w):wpList P ops Q (o::rest) a w:=
 rF w r m x t true u k e K n z d f g A b l s h key q c p (by rw[i];exact j)
end
abbrev rn (f:Fo):ai:=agg #[slice f.LA f.Ln f.Lc,f.x.1,f.x.2]
abbrev TG (w:Wd) (b:Nat) (l:List (au×Fo)):Prop:=OM prog 9 Value.string rn w b l
def gH.at_ {J3:List Fo} (g:gH W B F0 n c J3) {k:Nat} (l:k<n): ∃b d f,F0=some (b d)/\b<B/\J3[k]?=some f/\tD W B f/\W.cell? (b (d+k*3))=some (slice f.LA f.Ln f.Lc)/\W.cell? (b (d+k*3+1))=(f.x.1:ai)/\W.cell? (b (d+k*3+2))=(f.x.2:ai):=by let⟨b,d,e,m,j⟩:=g.1.at_ oy;have h:J3[k]?=some (J3[k]' FE):=br _;exact RF
def VS (A n c fs) (g7:n<=64) (w) (hG:dW w) (m:gH w w A n c fs):
 Calls prog 205 #[slice A n c] w λe w'=> ∃A' c',e= .returned (tuple #[slice A' (gu fs).1.length c',.map (some w)])/\gH w' w' A' (gu fs).1.length c' (gu fs).1/\TG w' w (gu fs).2/\az w w'/\ ∀p:ak,A'=some p->w.heap.size<=p.block:=by
 let⟨d8,g0,d',c7,c3⟩:=info_parts Dk;have h8:= @run_makeMap prog;have h5:n<=c/\c<= "":=⟨m.1.2.1,m.1.2.2.1⟩;have e7:=m.1.1;let⟨b0,z,f3⟩:=aM m e7 hG;go_enter func205,ntmps205;go_wp2;have g:=OM.made w prog 9 Value.string rn;have I:w<(w.alloc (.map #[] 0)).heap.size:=iy;generalize c2:World.alloc _ _=G at g I⊢;have f2:=bQ (Below.refl w.heap.size w) c2;have a9:=hJ g;let⟨t,T⟩:=xR w.heap.size;rw[T]at I a9;have r:=hJ T;simp only[T];go_loopw[4,14] (λv i wr=> ∃k:Nat,k<=n/\i=k/\wr.ownsRow G 304 3 v (gu (fs.take k)).1.length ((gu (fs.take k)).1.flatMap oh)/\TG wr t (gu (fs.take k)).2/\az w wr/\G<=wr.heap.size) (λ_ i _=>n- (intOf i).toNat);case atStart=>exact⟨0,oy,rfl,World.ownsRow_nil _ _ _ _,a9,f2,ny⟩
 case round=>obtain⟨k,h6,rfl,F,g,H,h3⟩:=hrel;have O:=hJ H;by_cases e9:k<n;{let⟨g6,h2,f,d9,g4,d4,e1,g2,f6,c6⟩:=b0.at_ e9;have g8:=bC H g2;have h9:=bC H f6;have h4:=bC H c6;have a4:gu (fs.take (k+1))=jM (gu (fs.take k)) f:=rR _ _ d4;have a0:=Jy (fs.take k);rw[et]at a0;let⟨st,f9⟩:=xR (gu (fs.take k));rw[f9]at a4 F g a0;have h':st.1.length<=64:=oy;have R:=hJ a4;have a5:az wr (wr.alloc (.cells (mU f) 304)):=aN.alloc ny _;have a2:wr<(wr.alloc (.cells (mU f) 304)).heap.size:=iy;have X:=g.alloc (.cells (mU f) 304);have a8:=F.alloc (.cells (mU f) 304);have g':=g.lt;subst d9;let⟨b3,c0⟩:=xR (aa.ar f.ls);let⟨l,d5⟩:=aq c0 e1;(go_wp2_with fail);generalize d0:World.alloc _ _=e3 at a5 a2 X a8⊢;have d1:=nQ d0;have K:=bU O a5;have a6:=hJ ((show aH _ _ _ _ _ _ from d5).below K|>.more K.size);refine mB (ng f.LA f.Ln f.Lc f.ls b3 l e3 a6) λd3 u=>?_;have f1:=bU K u;have V:=d1.below u a2;have c9:=X.below u X.lt;have f0:=eU a8 u;have c1:=bD V;let⟨b7,W,b2,U⟩:=bJ V c9 f0 f1;have b':=V.lt;cases b3;{have d:=hJ (show gu (fs.take (k+1))=st by rw[R.o];unfold jM;rw[aK l.o]);go_wp2;go_roundw;(case rel=>exact⟨k+1,oy,bh,by rw[d.o];exact b2,by rw[d.o];exact W,U,oy⟩);case measure=>exact cn};let⟨key,a1⟩:=xR (ae.key f.ls);have b6:=Cx l;rw[a1]at b6;let⟨Y,J⟩:=aq a1 (Go.WideMaps.keyOf_string_mk (P:=prog) underlying9 (s:=key) my);let⟨x,c8⟩:=xR (Om.get key st.2);have E:=hJ c8;(go_wp2_with fail);refine mB (Dq f.LA f.Ln f.Lc f.ls l key Y d3 (f3.below U) (a6.later u)) λh1 C=>?_;have e4:=bU U C;have N:=b7.below C b';let⟨e6,D,Z,B⟩:=bJ N (W.below C W.lt) (eU b2 C) e4;have h7:=N.lt;let⟨c1,i0,g5⟩:=bi N.a;obtain _|d7:=x;{have d:=hJ (show gu (fs.take (k+1))=(st.1++[f],Om.put key f st.2)by rw[R.o];unfold jM;rw[aG (by rw[l.o];decide),Y.o,aG (by rw[E.o];simp)]);(have e8:wr.heap.size≠t:=by omega);(go_wp2_with(first |(at_lookup;refine wC _ rfl _ _ 298 rfl 9 304 (Maps.string_keyed underlying9) underlying298 (agg #[(),"",""]) (zeroValue304 _) Value.string rn tJ t st.2 rfl D key rfl _ J E ?_) |(at_mapUpdate;refine rE _ rfl _ _ _ 298 rfl 9 304 (Maps.string_keyed underlying9) underlying298 Value.string rn tJ t st.2 rfl (D.alloc _) key rfl _ J f rfl ?_;intro b4 f7 L a';have a3:=ug (Z.alloc (.cells #[(),"",""] 304)) L I;have M:=(e6.alloc (.cells #[(),"",""] 304)).grown L (by simp;exact e8);have e0:=M.cell 0;have d2:=M.cell 1;have g1:=M.cell 2;simp only[gC]at e0 d2 g1;have f5:=Nat.le_of_eq a'.symm;clear a';simp at f5) |(at_builtin;refine wpList_append_own _ rfl _ _ 258 rfl G 304 d8 _ 3 40 underlying258 g0 d' c7 c3 rfl dy _ _ _ bq (a3.alloc _) (an b4 0) 1 1 (foL f) bq bq (by intro j g9 b;match j,b with|0,b=>(simp at b;subst b;simp[Addr.add])|1,b=>(simp at b;subst b;simp[Addr.add])|2,b=>(simp at b;subst b;simp[Addr.add])) jc my oy jB ?_;intro f' e2 c4 e' _)));(have c5:e2.ownsRow G.heap.size 304 3 f' (st.1++[f]).length ((st.1++[f]).flatMap oh):=by rw[eX,bu];exact c4);have b8:=(B.o.alloc B.o.size (.cells #[slice none 0 0,int .i64 0,int .i64 0] 304)).grown L (by have:=B.o.size;simp;omega) vzk;have S:=(aN.alloc oy (.cells (mU f) 304)).grown e' uy (λk e=>(a3.lt k e).1);let⟨e5,d6,b9⟩:=aM (f7.below S I) (b8.trans (S.mono (by have:=r.o;omega))) c5;have h0:=S.size;go_wp2;go_roundw;(case rel=>exact⟨k+1,oy,bh,by rw[d.o];exact b9,by rw[d.o];exact e5,d6,oy⟩);case measure=>exact cn};have d:=hJ (show gu (fs.take (k+1))=st by rw[R.o];unfold jM;rw[aG (by rw[l.o];decide),Y.o,aK (by rw[E.o];rfl)]);(go_wp2_with(at_lookup;refine AG _ rfl _ _ 298 rfl 9 304 (Maps.string_keyed underlying9) underlying298 (agg #[(),"",""]) (zeroValue304 _) Value.string rn tJ t st.2 rfl D key rfl _ J d7 E ?_));go_roundw;(case rel=>exact⟨k+1,oy,bh,by rw[d.o];exact Z.alloc _,by rw[d.o];exact D.alloc _,B.alloc B.size _,by simp;omega⟩);case measure=>exact cn};obtain rfl:k=n:=oy;rw[dE jZ]at F g;let⟨b1,b5⟩:=aq F g;go_wp2;go_ret2;let⟨A',c',a7,g3⟩:=aA.dV wN dy b1;refine⟨A',c',by rw[r.o,<-a7];rfl,⟨g3,λf f8=>?_⟩,by rw[r.o];exact b5,O,λp f4=>?_⟩;{exact(show aH _ _ _ _ _ _ from b0.2 f ((Cc fs).1 f f8)).later O};subst f4;have:=(b1.lt p.block (by rw[a7];rfl)).1;have:=r.o;omega
namespace ae
abbrev ML:=List (au×Ar)
abbrev TL:=List (au×Fo)
def fU (l:ML):List (au×Al):=Om.mp (λa:Ar=>a.al) l
def pk (l:TL):List (au×ap.F):=Om.mp Fo.val l
def mM (there:TL) (t wait keep:Int) (a:Ar):Ar:=⟨a.LA,a.Ln,a.Lc,lR (pk there) t wait keep a.al⟩
def jP (there:TL) (t wait keep:Int) (b:ML) (a:Ar):ML:=
 if bm.gone (mM there t wait keep a).al.h t keep=true then Om.del (key a.al.l) (Om.put (key a.al.l) (mM there t wait keep a) b)else Om.put (key a.al.l) (mM there t wait keep a) b
def DF (t wait keep:Int) (f:Fo):Ar:=⟨f.LA,f.Ln,f.Lc,tE t wait keep f.val⟩
def jo (t wait keep:Int) (s:ML×Int) (f:Fo):ML×Int:=
 if(Om.get (key f.ls) s.1).isSome=true then s else if 16<=s.1.length then(s.1,min (s.2+1) cj)else(Om.put (key f.ls) (DF t wait keep f) s.1,s.2)
def abP (there:TL) (t wait keep:Int) (b:ML) (a:Ar):jW (pk there) t wait keep (fU b) a.al=fU (jP there t wait keep b a):=by unfold jW jP;show(if bm.gone (mM there t wait keep a).al.h t keep=true then _ else _)=_;split;{show Om.del _ (Om.put _ (mM there t wait keep a).al (fU b))=_;unfold fU;rw[uS (λa:Ar=>a.al),Nh]};show Om.put _ (mM there t wait keep a).al (fU b)=_;unfold fU;rw[uS (λa:Ar=>a.al)]
def acd (t wait keep:Int) (s:ML×Int) (f:Fo):lU t wait keep (fU s.1,s.2) f.val=(fU (jo t wait keep s f).1,(jo t wait keep s f).2):=by
 unfold lU jo;have b:(Om.get (key f.val.1) (fU s.1)).isSome=(Om.get (key f.ls) s.1).isSome:=by unfold fU;show(Om.get (key f.ls) _).isSome=_;rw[uT];cases Om.get (key f.ls) s.1<;>rfl
 simp only;rw[b];split;{rfl};have c:(fU s.1).length=s.1.length:=length_map ..;rw[c];split;{rfl};show(Om.put _ (DF t wait keep f).al (fU s.1),s.2)=_;unfold fU;rw[uS (λa:Ar=>a.al)];rfl
def vh (there:TL) (t wait keep:Int) (ys:List Ar):ML:=ys.foldl (jP there t wait keep) []
def vm (t wait keep:Int) (a:List Fo) (s:ML×Int):ML×Int:=a.foldl (jo t wait keep) s
def ZU (there:TL) (t wait keep:Int) (ys:List Ar):(ys.map (·.al)).foldl (jW (pk there) t wait keep) []=fU (vh there t wait keep ys):=by
 have: ∀ (ys:List Ar) (b:ML),(ys.map (·.al)).foldl (jW (pk there) t wait keep) (fU b)=fU (ys.foldl (jP there t wait keep) b):=by intro ys;induction ys with|nil=>(intro b;rfl)|cons a ys ih=>(intro b;rw[map_cons,foldl_cons,foldl_cons,abP,ih])
 exact this ys []
def abv (t wait keep:Int) (a:List Fo) (s:ML×Int):(a.map Fo.val).foldl (lU t wait keep) (fU s.1,s.2)=(fU (vm t wait keep a s).1,(vm t wait keep a s).2):=by induction a generalizing s with|nil=>rfl|cons f a ih=>(rw[map_cons,foldl_cons,acd];exact ih (jo t wait keep s f))
def stepG (ys:List Ar) (b:Int) (a:List Fo) (t wait keep:Int):ML×Int:=vm t wait keep (gu a).1 (vh (gu a).2 t wait keep ys,b)
def ZY (ys:List Ar) (b:Int) (a:List Fo) (t wait keep:Int):news ⟨ys.map (·.al),b⟩ (a.map Fo.val) t wait keep=(fU (stepG ys b a t wait keep).1,(stepG ys b a t wait keep).2):=by unfold news kE stepG;rw[Js];show((gu a).1.map Fo.val).foldl (lU t wait keep) ((ys.map (·.al)).foldl (jW (pk (gu a).2) t wait keep) [],b)=_;rw[ZU];exact abv t wait keep _ (vh (gu a).2 t wait keep ys,b)
def pU (ys:List Ar) (b:List Fo) (a:Ar):Prop:=(∃y∈ys,a.LA=y.LA/\a.Ln=y.Ln/\a.Lc=y.Lc/\a.al.l=y.al.l)\/ ∃f∈b,a.LA=f.LA/\a.Ln=f.Ln/\a.Lc=f.Lc/\a.al.l=f.ls
def Za {ys:List Ar} {J3:List Fo} {there:TL} {keep:Int} {J4:ML} (c: ∀p∈J4,pU ys J3 p.2) {a:Ar} (d:a∈ys): ∀p∈jP there t wait keep J4 a,pU ys J3 p.2:=by
 have b: ∀p∈Om.put (key a.al.l) (mM there t wait keep a) J4,pU ys J3 p.2:=by intro p b;obtain rfl|b:=lE b;{exact .inl ⟨a,d,rfl,rfl,rfl,rfl⟩};exact c p b
 unfold jP;split;{exact λp e=>b p (qH e)};exact b
def YJ {ys:List Ar} {J3:List Fo} {keep:Int} {s:ML×Int} (b: ∀p∈s.1,pU ys J3 p.2) {f:Fo} (c:f∈J3): ∀p∈(jo t wait keep s f).1,pU ys J3 p.2:=by unfold jo;split;{exact b};split;{exact b};intro p a;obtain rfl|a:=lE a;{exact .inr ⟨f,c,rfl,rfl,rfl,rfl⟩};exact b p a
def aaT {l:ML} (b:Good (fU l)): ∀x y,x∈l.map (·.2)->y∈l.map (·.2)->fu x y=0->x=y:=by
 intro x y n hy d;obtain⟨p,g,rfl⟩:=mem_map.1 n;obtain⟨q,h,rfl⟩:=mem_map.1 hy;have f:(p.1,p.2.al)∈fU l:=mem_map.2 ⟨p,g,rfl⟩;have e:(q.1,q.2.al)∈fU l:=mem_map.2 ⟨q,h,rfl⟩;unfold fu ju at d;rw[aa.cmpL_eq,aa.fp (kR (b.ok _ f)).1,aa.fp (kR (b.ok _ e)).1]at d;have r:p.1=q.1:=by have a:=b.key _ f;have c:=b.key _ e;simp only at a c;rw[a,c,d]
 have k:jt l:=by have:=b.gF;unfold jt fU Om.mp at this;rw[pairwise_map]at this;exact this
 obtain⟨i,m⟩:=getElem?_of_mem g;obtain⟨j,o⟩:=getElem?_of_mem h;have a:=Om.get_at k m;have c:=Om.get_at k o;rw[r,c]at a;exact(Option.some.inj a).symm
def Wg {l:ML}:(dM fu (l.map (·.2))).map (·.al)=uV (fU l):=by unfold uV;rw[rQ (c:=ju) (d:=fu) (λa:Ar=>a.al) (λ_ _=>rfl)];unfold fU Om.mp;rw[map_map,map_map];rfl
end ae
end Go.Proofs.YteagjoghhfngoaaGreatDoor
