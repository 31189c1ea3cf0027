/- The compiler's promise on fuel, SystemFuel, proved; part 1. -/
import Derived.ProofKit
import Derived.OpenShut
import Derived.ShutString
import Derived.ChangeOld
import Derived.Lib.SmallJoins
import Derived.Lib.ItoaMem
import Derived.Lib.Strings
import Derived.Test.YtoenedcfojlooaaGreatDoorz00
namespace Go.Proofs.YtoenedcfojlooaaGreatDoor
open Go.RowKit Go.Proofs.Tryz
set_option maxRecDepth 100000
set_option maxHeartbeats 0
set_option linter.all false
section
def bv(a:UInt8):UY:=.int .u8 a.toNat
def wv(a:UT):UY:=a
def kN(w:U0)(cs E):∀a b,cs.toList[a]?=some b->(Uq w<|.cells cs E) ((w:Addr).add a)=some b:=by intro a b d;have:(w:Addr).add a=⟨w,a,Um⟩:=ZV;rw[this,World.cell?_alloc_mark];simpa using d
def kQ{w W b B row}(e:(Uq w b).grownBy W row)(d:B<=w.heap.size)(f:∀a,row=some a->B<=a):UB B w W:=((Zo B w).alloc d b).grown e Z3 f
theorem fA{d ops rest e a o w cs E}(y:e.guard=none)(j k t)(G:e.op=.call {callee:=.builtin .append,args:=#[j,k],argTypes:=#[t,t]})(B l size bytes)(K:d.underlying t=some (.slice E))(C:(d.info? E).map (λi=>(i.zero,i.size,i.bytes))=some (some l,size,bytes))(P:l.cells=size)(J:0<size)(v n xs)(I:a.eval j=v)(q:w.ownsRow B E size v n xs)(m)(L:a.eval k=.slice w m m)(D:cs.toList.length=m*size)(s:∀R∈cs.toList,R.oneCell'=true)(x:(n+m)*bytes<=140737488355328)(S:n+m<=140737488355328)(u:B<=w.heap.size)(r:∀f w',w'.ownsRow B E size f (n+m) (xs++cs.toList)->UB B w w'->(∀b,b<w.heap.size->some b≠v.ownBlock->w'.heap[b]?=w.heap[b]?)->wpList d ops o rest (a.put e.dst f) w'):wpList d ops o (e::rest) a<|Uq w<|.cells cs E:=by obtain⟨Q,z,M,N,O⟩:=info_parts C;refine wpList_append_own _ y j k t G B E Q l size bytes K z M N O P J v n xs I (q.alloc _) w m m cs.toList L D (kN w cs E) s ZX x Z3 ?_;intro f w' H p _;refine r f w' H (kQ p u<|λb h=>(q.lt b h).1) (λb h F=>?_);rw[p.block b Z3 F];exact Xy w _ b h
def jI{e ops d a l r s W w cs E}(C:W=Uq w (.cells cs E))(F:d.guard=none)(i j t)(K:d.op=.call {callee:=.builtin .append,args:=#[i,j],argTypes:=#[t,t]})(B k size bytes)(N:e.underlying t=some (.slice E))(H:(e.info? E).map (λh=>(h.zero,h.size,h.bytes))=some (some k,size,bytes))(S:k.cells=size)(M:0<size)(v n xs)(L:a.eval i=v)(p:w.ownsRow B E size v n xs)(m)(O:a.eval j=.slice w m m)(I:cs.toList.length=m*size)(y:∀U∈cs.toList,U.oneCell'=true)(D:(n+m)*bytes<=140737488355328)(X:n+m<=140737488355328)(z:B<=w.heap.size)(Y:0<m)(x:∀g c w',w'.ownsRow B E size (Uz (some ⟨g,0,Um⟩) (n+m) c) (n+m) (xs++cs.toList)->UB B w w'->(∀b,b<w.heap.size->some b≠v.ownBlock->w'.heap[b]?=w.heap[b]?)->l (a.put d.dst<|Uz g (n+m) c) w'):if Region.wanted d (yielded ops a.tmps)=true then Oper.wp e d a W l r else s:=by subst C;obtain⟨T,G,P,Q,R⟩:=info_parts H;rw[if_pos (by simp[Region.wanted,F])];refine wp_append_own _ i j t K B E T k size bytes N G P Q R S M v n xs L (p.alloc _) w m m cs.toList O I (kN w cs E) y ZX D Z3 ?_;intro Z w' q o _;obtain⟨_,V⟩|⟨g,u,cur,rfl,_⟩:=q.2;{omega};refine x g u w' q (kQ o z<|λb f=>(p.lt b f).1) (λb f J=>?_);rw[o.block b Z3 J];exact Xy w _ b f
def gJ{e ops b a f j k W}(p:b.guard=none)(i args h)(r:(execOp a.eval b).run e W=.ok (.enter i args) W)(o:Calls e i args W h)(l:∀d w',h d w'->∃v,d=Uv v/\f (a.put b.dst v) w'):if Region.wanted b (yielded ops a.tmps)=true then Oper.wp e b a W f j else k:=by rw[if_pos (by simp[Region.wanted,p])];unfold Oper.wp;rw[r,Oper.upon_enter];refine o.mono ?_;intro d w' m;obtain⟨v,rfl,q⟩:=l d w' m;exact q
def ij{b w}{B E:Nat}{v n}(a:UL)(src d)(h:b.underlying src=some (.slice E))(f:b.underlying E=some (.int .u8))(hd:b.underlying d=some .string)(e:w.ownsRow B E 1 v n<|a.map bv):(convert src d v).run b w=.ok (.string ⟨a.toArray⟩) w:=by have m:a=n:=by{have:=e.1;simpa using this};subst m;obtain⟨rfl,j⟩|⟨g,i,cur,rfl,_⟩:=e.2;{obtain rfl:a=[]:=XR j;exact run_convert_bytes_nil w src E h f 0 0 d hd};{have k:=e.cells (g:=g) rfl;exact run_convert_bytes_back w src d E g i a h f hd<|λo l=>k o _ (by simp[Zh,Zp l,bv])}
def bN{w w'}{B E k n:Nat}{v xs}(a:w.ownsRow B E k v n xs){B'}(f:B'=w.heap.size)(h:UB B' w w'):w'.ownsRow B E k v n xs:=by subst f;refine⟨a.1,?_⟩;obtain e|⟨g,d,cur,j,i,b,l⟩:=a.2;{exact .inl e};{exact .inr ⟨g,d,cur,j,i,(h.block g (YW.1 b).1).trans b,l⟩}
def cI{w:U0}{B E k n:Nat}{v xs}(b:w.ownsRow B E k v n xs)(j:0<n):∃g c,v=Uz (some ⟨g,0,Um⟩) n c/\B<=g/\g<w/\n<=c:=by obtain⟨_,i⟩|⟨g,a,cur,f,d,e,h,_⟩:=b.2;{omega};{exact⟨g,a,f,d,(YW.1 e).1,h⟩}
section
variable{w:World}{B E g n c:Nat}{xs:List Value}
def Gr(b:w.ownsRow B E 1 (Uz g n c) n xs){k v}(d:xs[k]?=some v):w ⟨g,k,Um⟩=some v:=by have:=b.cells (g:=g) rfl k v d;have a:(g:Addr).add k=⟨g,k,Um⟩:=ZV;rwa[a]at this
end
def Sl(w:U0)(B:Nat)(A:UR)(n:Nat)(xs:UN):Prop:=xs=n/\(0<n->∃b off,A=some ⟨b,off,Um⟩/\b<B/\∀a d,xs[a]?=some d->w ⟨b,off+a,Um⟩=some d)
section
variable{w w':World}{B B' n:Nat}{A:Option Addr}{xs:List Value}
def Sl.aa(a:Sl w B A n xs)(h:UB B w w'):Sl w' B A n xs:=⟨a.1,λj=>by obtain⟨b,off,f,d,i⟩:=a.2 j;exact⟨b,off,f,d,λe l k=>(h.cell (p:=⟨b,off+e,Um⟩) d).trans<|i e l k⟩⟩
def Sl.aA(a:Sl w B A n xs)(h:B<=B'):Sl w B' A n xs:=⟨a.1,λf=>by obtain⟨b,off,d,i,e⟩:=a.2 f;exact⟨b,off,d,Z9,e⟩⟩
def Sl.at_(a:Sl w B A n xs){k}(j:k<n):∃b off e,A=some ⟨b,off,Um⟩/\b<B/\xs[k]?=some e/\w ⟨b,off+k,Um⟩=e:=by obtain⟨b,off,f,i,h⟩:=a.2 Z9;have d:k<xs:=by{have:=a.1;omega};exact⟨b,off,xs[k],f,i,Zp d,h k _<|Zp d⟩
end
def Sl.vi{w}{B E:Nat}{v n xs}(a:w.ownsRow B E 1 v n xs):∃A c,v=Uz A n c/\n<=c/\c<=maxLen/\Sl w w A n xs:=by have d:xs=n:=by{have:=a.1;omega};obtain⟨rfl,rfl⟩|⟨g,k,cur,rfl,l,m,f,h,_⟩:=a.2;{exact⟨none,0,rfl,Zq _,ZX,d,λa=>absurd a Z9⟩};{refine⟨_,_,rfl,f,h,d,λo=>⟨g,0,rfl,(a.lt g rfl).2,λb j i=>?_⟩⟩;have:=a.cells (g:=g) rfl b j i;have e:(g:Addr).add b=⟨g,0+b,Um⟩:=ZV;rwa[e]at this}
def vx{d a b}(e:a=b):Ending.returned (.int d a)=Uv (.int d b):=by rw[e]
def ao{a b}(d:a=b):Ending.returned (.bool a)=Uv b:=by rw[d]
def cV{f h a b d e}(i:a=b)(j:d=e):Ending.returned (Ut #[.int f a,.int h d])=Uv (Ut #[.int f b,.int h e]):=by rw[i,j]
def re{w:U0}{B B' E k n:Nat}{v xs}(a:w.ownsRow B E k v n xs)(d:B'<=B):w.ownsRow B' E k v n xs:=by refine⟨a.1,?_⟩;obtain f|⟨g,b,cur,h,e,rest⟩:=a.2;{exact .inl f};{exact .inr ⟨g,b,cur,h,Zb d e,rest⟩}
def ag(w:U0)(g:Nat)(t:UF)(cs:UP):Prop:=w.heap[g]?=some (.cells cs t (0,0))
section
variable{w w':World}{g:Nat}{t:TypeId}{cs:Array Value}
def ag.lt(a:ag w g t cs):g<w:=(YW.1 a).1
def ag.cell(b:ag w g t cs)(a):w ⟨g,a,Um⟩=cs[a]?:=by simp[World.cell?,show w.heap[g]?=_ from b]
def ag.af(a:ag w g t cs)(b):w.frozen? ⟨g,b,Um⟩=false:=by simp[World.frozen?,show w.heap[g]?=_ from a]
def ag.aM(w:U0)(t cs):ag (Uq w<|.cells cs t) w t cs:=heap_alloc_new w _
def ag.drew(a:ag w g t cs):ag w.drew g t cs:=a
def ag.alloc(a:ag w g t cs)(b):ag (Uq w b) g t cs:=(Xy w b g a.lt).trans a
theorem ag.set(a:ag w g t cs)(b d):ag (Uo w ⟨g,b,Um⟩ d) g t<|cs.setIfInBounds b d:=by unfold ag at a⊢;simp[World.setCell,Wp,a]
def ag.bV(b:ag w g t cs){p}(d:g≠p.block)(a):ag (Uo w p a) g t cs:=(Zk w p a g d).trans b
def ag.aa{B}(a:ag w g t cs)(b:UB B w w')(d:g<B):ag w' g t cs:=(b.block g d).trans a
def ag.bC{v}(a:ag w g t cs)(f:∀d,d<w.heap.size->some d≠v.ownBlock->w'.heap[d]?=w.heap[d]?){B E k n:Nat}{xs}(i:w.ownsRow B E k v n xs)(h:t≠E):ag w' g t cs:=by refine(f g a.lt<|λb=>?_).trans a;obtain⟨rfl,_⟩|⟨l,j,cur,rfl,_,e,_⟩:=i.2;{cases b};{cases b;unfold ag at a;rw[e]at a;injection a with a;injection a with _ a _;exact h a.symm}
end
def ir{s:UW}{a}(b:s.data.toList=a):s=⟨a.toArray⟩:=by cases s with|mk d=>subst b;simp
def kM{w w' a}(b:UB (Uq w a) (Uq w a) w'):UB w.heap.size w w':=((Zo _ w).alloc (Zq _) a).trans<|b.mono Z5
end
section
open Go.ChangeShapes Go.WideShapes Go.ChangeAt Go.RowKit
open Go.ChangeMaps(open_string shut_string)
section
variable{H:Type}{enc:TypeId×Value->H}{P:Program}{w:World}{r:Reach}{b0:Nat}{t:TypeId}{v:Value}{d:DataW H}{ps:List MemPlace}{base:Nat}{spare:Nat->Bool}{held:Bool}
def D3{a}(b:(Lit.int .u32 a).wf=true):∃c:UT,a=c:=by have e:=bounds_u32 b;refine⟨UInt32.ofNat a.toNat,?_⟩;rw[Yc];omega
def Hq{a}(b:(Lit.int .u8 a).wf=true):∃c:UInt8,a=c:=by have e:=bounds_u8 b;refine⟨UInt8.ofNat a.toNat,?_⟩;rw[V8];omega
def Of(c:P.underlying t=some (.int .u8))(e:Value.okWide P w r b0 t v)(b:DataW.Trod enc P w base spare held t v d ps):∃a:UInt8,v=.int .u8 a:=by obtain⟨g,rfl,_,_,f⟩:=open_int c e b;obtain⟨a,rfl⟩:=Hq f;exact⟨a,rfl⟩
def MD(c:P.underlying t=some .string)(e:Value.okWide P w r b0 t v)(b:DataW.Trod enc P w base spare held t v d ps):∃a,v=.string a/\a<=maxLen:=by obtain⟨g,rfl,_,_,f⟩:=open_string c e b;exact⟨g,rfl,f⟩
end
end
def iw(c:Int)(a b:UT):UInt32×Int:=if b.toNat=0 then(0,14)else if c=7 then(a/b,0)else(a%b,0)
def As(c:Int)(a b:UT):UT:=if 31<b.toNat then 0 else if c=12 then UInt32.ofNat (a*2^b.toNat)else UInt32.ofNat (a/2^b.toNat)
def jU(c:Int)(a b:UT):UT:=if c=14 then(if a<b.toNat then 1 else 0)else if c=15 then(if a=b.toNat then 1 else 0)else 0
def Nz(c:Int)(a b:UT):UT:=if c=9 then a&&&b else if c=10 then a|||b else a^^^b
def bJ(c:Int)(a b:UT):UInt32×Int:=if c=4 then(a+b,0)else if c=5 then(a-b,0)else if c=6 then(a*b,0)else if c=7\/c=8 then iw c a b else if c=9\/c=10\/c=11 then(Nz c a b,0)else if c=12\/c=13 then(As c a b,0)else if c=14\/c=15 then(jU c a b,0)else(0,1)
def Ot(a b:UT):((a+b).toNat)=((a:Int)+b)%4294967296:=by rw[WJ];omega
def OB(a b:UT):((a-b).toNat)=((a:Int)-b)%4294967296:=by have c:=a.toNat_lt;have d:=b.toNat_lt;rw[UInt32.toNat_sub];omega
def Ox(a b:UT):((a*b).toNat)=((a:Int)*b)%4294967296:=by rw[UInt32.toNat_mul,<-VD];omega
def Hr(a b:UT):bits .and .u32 a b=((a&&&b)):=by rw[u32_and_nat _ _ a.toNat_lt b.toNat_lt,VU]
def Oy(a b:UT):bits .or .u32 a b=((a|||b)):=by rw[u32_or_nat _ _ a.toNat_lt b.toNat_lt,UInt32.toNat_or]
def OC(a b:UT):bits .xor .u32 a b=((a^^^b)):=by rw[u32_xor_nat _ _ a.toNat_lt b.toNat_lt,UInt32.toNat_xor]
def Ou(a b:UT):((a/b).toNat)=(a:Int)/b:=by rw[UInt32.toNat_div];omega
def MY(a b:UT):((a/b).toNat)=(a:Int)/b%4294967296:=by have c:=(a/b).toNat_lt;rw[<-Ou];omega
def Ov(a b:UT):((a%b).toNat)=(a:Int)%b:=by rw[UInt32.toNat_mod];omega
def Oz(a:UT)(b:Nat):((UInt32.ofNat<|a*2^b))=(a:Int)*2^b%4294967296:=by rw[Yc];show((a*2^b%4294967296:Nat):Int)=_;rw[Int.natCast_emod,VD,Int.natCast_pow];rfl
def OA(a:UT)(b:Nat):((UInt32.ofNat<|a/2^b))=(a:Int)/2^b:=by have c:=a.toNat_lt;have d:a/2^b<=a.toNat:=Nat.div_le_self _ _;rw[Yc,XM Z9,Int.natCast_ediv,Int.natCast_pow];rfl
section
inductive Ef(α:Type)where|nil:Ef α|cons(d:α)(kids rest:Ef α):Ef α
inductive Sf(α β:Type)where|nil:Sf α β|cons(d:β)(e:Ef α)(thn CM rest:Sf α β):Sf α β
namespace Ef
variable{α β:Type}
def len:Ef α->Nat|nil=>0|cons _ _ a=>a.len+1
def size:Ef α->Nat|nil=>0|cons _ a b=>a.size+b.size+1
def map(a:α->β):Ef α->Ef β|nil=>nil|cons b c d=>cons (a b) (c.map a)<|d.map a
theorem cu(a:α->β):∀c:Ef α,(c.map a).len=c.len|nil=>rfl|cons _ _ b=>by show(b.map a).len+1=b.len+1;rw[cu a b]
theorem size_map(a:α->β):∀d:Ef α,(d.map a).size=d.size|nil=>rfl|cons _ b c=>by show(b.map a).size+(c.map a).size+1=b.size+c.size+1;rw[size_map a b,size_map a c]
theorem b6:∀b:Ef α,b.len<=b.size|nil=>Zq _|cons _ c a=>by have:=b6 a;show a.len+1<=c.size+a.size+1;omega
def jP{e:Ef α}(a:e.len=0):e=nil:=by cases e with|nil=>rfl|cons c d b=>exact absurd a (by show b.len+1≠0;omega)
def mI{e:Ef α}(c:e.len=1):∃a b,e=cons a b nil:=by cases e with|nil=>simp[len]at c|cons a b d=>exact⟨a,b,by rw[jP (e:=d) (by have:d.len+1=1:=c;omega)]⟩
def xn{c:Ef α}(f:c.len=2):∃a d b e,c=cons a d (cons b e nil):=by cases c with|nil=>simp[len]at f|cons a d g=>obtain⟨b,e,rfl⟩:=mI (e:=g) (by have:g.len+1=2:=f;omega);exact⟨a,d,b,e,rfl⟩
end Ef
namespace Sf
variable{α β γ δ:Type}
def len:Sf α β->Nat|nil=>0|cons _ _ _ _ a=>a.len+1
def size:Sf α β->Nat|nil=>0|cons _ a d b c=>a.size+d.size+b.size+c.size+1
def map(a:α->γ)(b:β->δ):Sf α β->Sf γ δ|nil=>nil|cons c e t d f=>cons (b c) (e.map a) (t.map a b) (d.map a b)<|f.map a b
theorem size_map(a:α->γ)(b:β->δ):∀g:Sf α β,(g.map a b).size=g.size|nil=>rfl|cons _ f e c d=>by show(f.map a).size+(e.map a b).size+(c.map a b).size+(d.map a b).size+1=f.size+e.size+c.size+d.size+1;rw[Ef.size_map,size_map a b e,size_map a b c,size_map a b d]
end Sf
structure Rd where
 kind:Int
 op:Int
 num:UInt32
 loc:Bool
 n:Nat
structure Rs where
 kind:Int
 loc:Bool
 n:Nat
abbrev Re:=Ef Rd
abbrev Rb:=Sf Rd Rs
structure Mm where
 aq:List UInt32
 aj:List (List UInt32)
 rd:Nat
 out:List UInt8
 tk:Nat
inductive Rv(α:Type)where|ok(a:α)(s:Mm):Rv α|stop(e:Nat)(s:Mm):Rv α
def Rv.bind{α β}(e:Option<|Rv α)(d:α->Mm->Option (Rv β)):Option<|Rv β:=match e with|none=>none|some (.stop c b)=>some (.stop c b)|some (.ok a b)=>d a b
structure Rf where
 words:Nat
 body:Rb
structure Rc where
 fs:List Rf
 aE:List UInt8
 fuel:Nat
structure Mf where
 val:List UInt32->Rd->Re->Mm->Option (Rv UInt32)
 call:Nat->Re->List UInt32->Mm->Option (Rv UInt32)
 eG:Rb->List UInt32->Mm->Option (Rv<|List UInt32×Option UInt32)
 ej:Rs->Re->Rb->Rb->List UInt32->Mm->Option (Rv<|List UInt32×Option UInt32)
 nF:Re->Rb->List UInt32->Mm->Option (Rv<|List UInt32×Option UInt32)
def dG(b:Rc)(a:Mm):Rv Unit:=if a.tk<b.fuel then .ok () {a with tk:=a.tk+1}else .stop 5 a
def getM(b:Rc)(a:Mm):Rv UInt32:=match b.aE[a.rd]? with|none=>.ok 256 a|some c=>.ok (UInt32.ofNat c.toNat) {a with rd:=a.rd+1}
def lx(v:UT)(a:Mm):Rv Unit:=if a.out.length<65536 then .ok () {a with out:=a.out++[UInt8.ofNat v.toNat]}else .stop 4 a
def atM(a:Nat)(c:UT)(b:Mm):Option<|Rv UInt32:=match b.aj[a]? with|none=>none|some d=>match d[c.toNat]? with|none=>some (.stop 3 b)|some e=>some<|.ok e b
def DM(a:Nat)(c v:UT)(b:Mm):Mm:={b with aj:=b.aj.modify a λd=>d.set c.toNat v}
def argsM(b:Mf)(own:List UInt32):Re->Mm->Option (Rv<|List UInt32)|.nil,a=>some (.ok [] a)|.cons c d f,a=>Rv.bind (b.val own c d a) λv g=>Rv.bind (argsM b own f g) λe h=>some<|.ok (v::e) h
def doM(c:Mf):Rb->List UInt32->Mm->Option (Rv<|List UInt32×Option UInt32)|.nil,own,b=>some (.ok (own,none) b)|.cons e f j g i,own,b=>Rv.bind (c.ej e f j g own b) λh d=>match h with|(a,some v)=>some (.ok (a,some v) d)|(a,none)=>doM c i a d
def valM(l:Rc)(f:Mf)(own:UJ)(c:Rd)(kids:Re)(d:Mm):Option<|Rv UInt32:=if c.kind=1 then some (.ok c.num d)else if c.kind=2 then(if c.loc then own[c.n]?.map (.ok · d)else d.aq[c.n]?.map (.ok · d))else if c.kind=3 then(match kids with|.nil=>none|.cons a g _=>Rv.bind (f.val own a g d) λm e=>atM c.n m e)else if c.kind=4 then f.call c.n kids own d else if c.kind=5 then some (getM l d)else if c.kind=6 then(match kids with|.cons a g (.cons b i _)=>Rv.bind (f.val own a g d) λh e=>Rv.bind (f.val own b i e) λj k=>if(bJ c.op h j).2=0 then some (.ok (bJ c.op h j).1 k)else some (.stop 2 k)|_=>none)else if c.kind=7 then(match kids with|.nil=>none|.cons a g _=>Rv.bind (f.val own a g d) λv e=>some<|.ok (if v=0 then 1 else 0) e)else(match kids with|.cons a g (.cons b i _)=>Rv.bind (f.val own a g d) λh e=>if(decide<|h=0)=decide (c.kind=8)then some (.ok h e)else f.val own b i e|_=>none)
def callM(b:Rc)(c:Mf)(e:Nat)(args:Re)(own:UJ)(g:Mm):Option<|Rv UInt32:=match b.fs[e]? with|none=>none|some a=>if a.words<args.len then none else Rv.bind (argsM c own args g) λd h=>Rv.bind (some<|dG b h) λ_ i=>Rv.bind (c.eG a.body (d++List.replicate (a.words-d.length) 0) i) λf j=>some<|.ok (f.2.getD 0) j
def eB(e:Mf)(c:Rs)(h:Re)(k m:Rb)(own:UJ)(g:Mm):Option<|Rv<|List UInt32×Option UInt32:=if c.kind=1 then(match h with|.nil=>none|.cons a f _=>Rv.bind (e.val own a f g) λv d=>if c.loc then(if c.n<own.length then some (.ok (own.set c.n v,none) d)else none)else(if c.n<d.aq.length then some (.ok (own,none) {d with aq:=d.aq.set c.n v})else none))else if c.kind=2 then(match h with|.cons a f (.cons b l _)=>Rv.bind (e.val own a f g) λj d=>Rv.bind (e.val own b l d) λv i=>Rv.bind (atM c.n j i) λ_ n=>some (.ok (own,none)<|DM c.n j v n)|_=>none)else if c.kind=3 then(match h with|.nil=>none|.cons a f _=>Rv.bind (e.val own a f g) λv d=>Rv.bind (some<|lx v d) λ_ i=>some<|.ok (own,none) i)else if c.kind=4 then(match h with|.nil=>none|.cons a f _=>Rv.bind (e.val own a f g) λv d=>if v=0 then e.eG m own d else e.eG k own d)else if c.kind=5 then e.nF h k own g else if c.kind=6 then Rv.bind (e.call c.n h own g) λ_ d=>some (.ok (own,none) d)else if c.kind=7 then(match h with|.nil=>some (.ok (own,some 0) g)|.cons a f _=>Rv.bind (e.val own a f g) λv d=>some<|.ok (own,some v) d)else some (.ok (own,none) g)
def jD(h:Rc)(b:Mf)(d:Re)(g:Rb)(own:UJ)(k:Mm):Option<|Rv<|List UInt32×Option UInt32:=match d with|.nil=>none|.cons a i _=>Rv.bind (some<|dG h k) λ_ l=>Rv.bind (b.val own a i l) λv e=>if v=0 then some (.ok (own,none) e)else Rv.bind (b.eG g own e) λj f=>match j with|(c,some v)=>some (.ok (c,some v) f)|(c,none)=>b.nF d g c f
def Mf.up(b:Rc)(a:Mf):Mf:=⟨valM b a,callM b a,doM a,eB a,jD b a⟩
def Mf.zero:Mf:=⟨λ_ _ _ _=>none,λ_ _ _ _=>none,λ_ _ _=>none,λ_ _ _ _ _ _=>none,λ_ _ _ _=>none⟩
def mfn(a:Rc):Nat->Mf|0=>.zero|n+1=>(mfn a n).up a
def m0(b:Nat)(c:List Nat):Mm:=⟨List.replicate b 0,c.map λa=>List.replicate a 0,0,[],0⟩
def Wv:=@Ef.b6
def We:=@Sf.size_map
def VB:=@Ef.mI
def Vn:=@Ef.jP
def Vm:=@Ef.cu
def Vb:=@Ef.xn
end
section
def cM{α:Type}(cs:α->List Value)(w:World)(P:Nat->Prop):Ef α->Nat->Nat->Prop|.nil,_,_=>True|.cons c d j,b,off=>(∀f h,(cs c)[f]?=some h->w.cell? ⟨b,off+f,none⟩=some h)/\(∃e i,w.cell? ⟨b,off+(cs c).length,none⟩=some (.slice e d.len i)/\(0<d.len->∃a g,e=some ⟨a,g,none⟩/\P a/\cM cs w P d a g))/\cM cs w P j b (off+((cs c).length+1))
def bg{α}(cs:α->List Value)(w:U0)(P:UH)(d:UR)(a:Ef α):Prop:=0<a.len->∃b c,d=some ⟨b,c,Um⟩/\P b/\cM cs w P a b c
def cR{α β:Type}(cs:α->List Value)(ds:β->List Value)(w:World)(P:Nat->Prop):Sf α β->Nat->Nat->Prop|.nil,_,_=>True|.cons e i h g l,b,off=>(∀j k,(ds e)[j]?=some k->w.cell? ⟨b,off+j,none⟩=some k)/\(∃a d,w.cell? ⟨b,off+(ds e).length,none⟩=some (.slice a i.len d)/\bg cs w P a i)/\(∃a d,w.cell? ⟨b,off+((ds e).length+1),none⟩=some (.slice a h.len d)/\(0<h.len->∃c f,a=some ⟨c,f,none⟩/\P c/\cR cs ds w P h c f))/\(∃a d,w.cell? ⟨b,off+((ds e).length+2),none⟩=some (.slice a g.len d)/\(0<g.len->∃c f,a=some ⟨c,f,none⟩/\P c/\cR cs ds w P g c f))/\cR cs ds w P l b (off+((ds e).length+3))
def a9{α β}(cs:α->List Value)(ds:β->List Value)(w:U0)(P:UH)(d:UR)(a:Sf α β):Prop:=0<a.len->∃b c,d=some ⟨b,c,Um⟩/\P b/\cR cs ds w P a b c
section
variable{α β:Type}{cs:α->List Value}{ds:β->List Value}{w w':World}{P Q:Nat->Prop}
theorem cM.ay(d:∀b,P b->w'.heap[b]?=w.heap[b]?)(e:∀b,P b->Q b):∀(f)(b off),P b->cM cs w P f b off->cM cs w' Q f b off|.nil,_,_,_,_=>trivial|.cons y u v,b,off,g,⟨n,⟨k,l,o,p⟩,q⟩=>by have i:∀a,w' ⟨b,a,Um⟩=w ⟨b,a,Um⟩:=λa=>by{unfold World.cell?;rw[d b g]};refine⟨λa x t=>(i _).trans<|n a x t,⟨k,l,(i _).trans o,λs=>?_⟩,cM.ay d e v b _ g q⟩;obtain⟨c,j,m,h,r⟩:=p s;exact⟨c,j,m,e c h,cM.ay d e u c j h r⟩
def bg.ay{A a}(hF:bg cs w P A a)(g:∀b,P b->w'.heap[b]?=w.heap[b]?)(c:∀b,P b->Q b):bg cs w' Q A a:=λi=>by obtain⟨b,e,f,d,h⟩:=hF i;exact⟨b,e,f,c b d,cM.ay g c a b e d h⟩
theorem cR.ay(d:∀b,P b->w'.heap[b]?=w.heap[b]?)(c:∀b,P b->Q b):∀(l)(b off),P b->cR cs ds w P l b off->cR cs ds w' Q l b off|.nil,_,_,_,_=>trivial|.cons G h E C D,b,off,m,⟨s,⟨n,q,t,u⟩,⟨o,c2,v,x⟩,⟨p,r,y,z⟩,A⟩=>by have i:∀f,w' ⟨b,f,Um⟩=w ⟨b,f,Um⟩:=λf=>by{unfold World.cell?;rw[d b m]};refine⟨λf F B=>(i _).trans<|s f F B,⟨n,q,(i _).trans t,u.ay d c⟩,⟨o,c2,(i _).trans v,λk=>?_⟩,⟨p,r,(i _).trans y,λk=>?_⟩,cR.ay d c D b _ m A⟩;{obtain⟨a,g,h,e,j⟩:=x k;exact⟨a,g,h,c a e,cR.ay d c E a g e j⟩};{obtain⟨a,g,h,e,j⟩:=z k;exact⟨a,g,h,c a e,cR.ay d c C a g e j⟩}
def a9.ay{A a}(hF:a9 cs ds w P A a)(g:∀b,P b->w'.heap[b]?=w.heap[b]?)(c:∀b,P b->Q b):a9 cs ds w' Q A a:=λi=>by obtain⟨b,e,f,d,h⟩:=hF i;exact⟨b,e,f,c b d,cR.ay g c a b e d h⟩
def bg.nil{A}:bg cs w P A .nil:=λa=>absurd a<|Yf 0
def a9.nil{A}:a9 cs ds w P A .nil:=λa=>absurd a<|Yf 0
def bg.aa{n A c}(hF:bg cs w (·<n) A c)(d:UB n w w'):bg cs w' (·<n) A c:=hF.ay (λb a=>d.block b a)<|λ_ a=>a
def a9.aa{n A c}(hF:a9 cs ds w (·<n) A c)(d:UB n w w'):a9 cs ds w' (·<n) A c:=hF.ay (λb a=>d.block b a)<|λ_ a=>a
def cM.aa{n c b k}(hF:cM cs w (·<n) c b k)(a:b<n)(d:UB n w w'):cM cs w' (·<n) c b k:=cM.ay (λb a=>d.block b a) (λ_ a=>a) c b k a hF
def cR.aa{n c b k}(hF:cR cs ds w (·<n) c b k)(a:b<n)(d:UB n w w'):cR cs ds w' (·<n) c b k:=cR.ay (λb a=>d.block b a) (λ_ a=>a) c b k a hF
def bg.aA{n k A a}(hF:bg cs w (·<n) A a)(b:n<=k):bg cs w (·<k) A a:=hF.ay (λ_ _=>rfl)<|λ_ c=>Zj c b
def a9.aA{n k A a}(hF:a9 cs ds w (·<n) A a)(b:n<=k):a9 cs ds w (·<k) A a:=hF.ay (λ_ _=>rfl)<|λ_ c=>Zj c b
end
structure Ed where
 kind:Int
 op:Int
 num:UInt32
 name:ByteArray
structure Sd where
 kind:Int
 name:ByteArray
abbrev Ee:=Ef Ed
abbrev Es:=Sf Ed Sd
def cy(a:Ed):UN:=[a.kind,a.op,a.num,a.name]
def gd(a:Sd):UN:=[a.kind,a.name]
def jn(a:Ed)(b:UR)(d c:Nat):UY:=.agg #[a.kind,a.op,a.num,a.name,Uz b d c]
def DK(a:Sd)(b:UR)(g e:Nat)(c:UR)(h c2:Nat)(d:UR)(i f:Nat):UY:=.agg #[a.kind,a.name,Uz b g e,Uz c h c2,Uz d i f]
section
variable{w:World}{P:Nat->Prop}
def Ee.cells{c}{d f:Ee}{b off}(a:cM cy w P (.cons c d f) b off):w ⟨b,off,Um⟩=c.kind/\w ⟨b,off+1,Um⟩=c.op/\w ⟨b,off+2,Um⟩=c.num/\w ⟨b,off+3,Um⟩=c.name/\(∃e h,w ⟨b,off+4,Um⟩=some (Uz e d.len h)/\bg cy w P e d)/\cM cy w P f b (off+5):=⟨a.1 0 _ rfl,a.1 1 _ rfl,a.1 2 _ rfl,a.1 3 _ rfl,a.2.1,a.2.2⟩
def Es.cells{e}{f:Ee}{i h j:Es}{b off}(c:cR cy gd w P (.cons e f i h j) b off):w ⟨b,off,Um⟩=e.kind/\w ⟨b,off+1,Um⟩=e.name/\(∃a d,w ⟨b,off+2,Um⟩=some (Uz a f.len d)/\bg cy w P a f)/\(∃a d,w ⟨b,off+3,Um⟩=some (Uz a i.len d)/\a9 cy gd w P a i)/\(∃a d,w ⟨b,off+4,Um⟩=some (Uz a h.len d)/\a9 cy gd w P a h)/\cR cy gd w P j b (off+5):=⟨c.1 0 _ rfl,c.1 1 _ rfl,c.2.1,c.2.2.1,c.2.2.2.1,c.2.2.2.2⟩
end
def D':List<|List UInt8:=[[118,97,114],[97,114,114,97,121],[102,117,110,99],[119,111,114,100],[105,102],[101,108,115,101],[119,104,105,108,101],[114,101,116,117,114,110],[112,117,116],[103,101,116]]
def jq(a:UInt8):Bool:=decide<|(97<=a.toNat/\a.toNat<=122)\/(65<=a.toNat/\a.toNat<=90)
def jm(a:UInt8):Bool:=decide (48<=a.toNat/\a.toNat<=57)
def oW(a:UInt8):Bool:=jq a||jm a||decide (a.toNat=95)
def C9(b:UL):Bool:=D'.any λa=>decide<|a=b
def bL(a:UL):Bool:=decide (a≠[])&&decide (a.length<=20)&&(a.head?.any jq)&&a.all oW&& !C9 a
def VT:=@Ee.cells
def VS:=@Es.cells
end
def IY:(prog.info? 5).map (λa=>(a.zero,a.size,a.bytes))=some (some<|.int .u8 0,1,1):=Z7
def mF:(prog.info? 69).map (λa=>(a.zero,a.size,a.bytes))=some (some<|.int .u32 0,1,4):=Z7
def jB(a b):UD 198 #[.int .u8 a.toNat] b λc d=>c=Uv (jq a)/\b=d:=by have i:=a.toNat_lt;by_cases e:97<=a.toNat;{by_cases f:(a.toNat:Int)<=122;{go_enter func198,ntmps198;go_wp2;go_returns;exact⟨ao (by unfold jq;exact(decide_eq_true Z9).symm),rfl⟩};{have j:decide ((a:Int)<=90)=false:=decide_eq_false Z9;go_enter func198,ntmps198;go_wp2;go_returns;exact⟨ao (by unfold jq;exact(decide_eq_false Z9).symm),rfl⟩}};{by_cases g:(65:Int)<=a.toNat;{by_cases h:(a.toNat:Int)<=90;{go_enter func198,ntmps198;go_wp2;go_returns;exact⟨ao (by unfold jq;exact(decide_eq_true Z9).symm),rfl⟩};{go_enter func198,ntmps198;go_wp2;go_returns;exact⟨ao (by unfold jq;exact(decide_eq_false Z9).symm),rfl⟩}};{go_enter func198,ntmps198;go_wp2;go_returns;exact⟨ao (by unfold jq;exact(decide_eq_false Z9).symm),rfl⟩}}
def kJ(a b):UD 195 #[.int .u8 a.toNat] b λc d=>c=Uv (jm a)/\b=d:=by have g:=a.toNat_lt;by_cases e:48<=a.toNat;{by_cases f:(a:Int)<=57;{go_enter func195,ntmps195;go_wp2;go_returns;exact⟨ao (by unfold jm;exact(decide_eq_true Z9).symm),rfl⟩};{go_enter func195,ntmps195;go_wp2;go_returns;exact⟨ao (by unfold jm;exact(decide_eq_false Z9).symm),rfl⟩}};{go_enter func195,ntmps195;go_wp2;go_returns;exact⟨ao (by unfold jm;exact(decide_eq_false Z9).symm),rfl⟩}
def nC(a h):UD 200 #[.int .u8 a.toNat] h λb e=>b=Uv (oW a)/\h=e:=by have k:=a.toNat_lt;unfold oW;obtain⟨j,d⟩:=Z'<|jq a;obtain⟨i,c⟩:=Z'<|jm a;have g:=Zs<|jB a;have f:=Zs<|kJ a;rw[d]at g;rw[c]at f;rw[d,c];clear d c;cases j<;>cases i;all_goals go_enter func200,ntmps200;go_wp2_with(first|(go_at_call 198;refine(g.out _).mono ?_;rintro b e⟨rfl,rfl⟩)|(go_at_call 195;refine(f.out _).mono ?_;rintro b e⟨rfl,rfl⟩));(all_goals go_returns);all_goals exact⟨ao (by first|rfl|(rw[XU];simp;omega)),rfl⟩
def Lg(a:Nat):UW:=⟨(D'.getD a []).toArray⟩
def iM(b:U0):Prop:=1<b.heap.size/\∀a,a<10->b ⟨1,a,Um⟩=(Lg a)
def iM.aa{w w'}(a:iM w)(b:UB w w w'):iM w':=⟨by have:=b.size;have:=a.1;omega,λc d=>(b.cell (p:=⟨1,c,Um⟩) a.1).trans<|a.2 c d⟩
def LY(c a)(e:a<10):(D'.drop a).any (λb=>decide<|b=c)=(decide ((Lg a)=c)||(D'.drop<|a+1).any (λb=>decide<|b=c)):=by have d:a<D':=e;rw[Yz d,Vp];congr 2;unfold Lg;rw[YS,Zp d];rfl
def jz(a b:UW):(a.toList==b.toList)=decide (a=b.data.toList):=by rw[Lib.toList_data,Lib.toList_data,XU,beq_iff_eq,decide_eq_true_iff]
def nD(b d)(j:iM d):UD 202 #[.string b] d λi l=>i=Uv (C9 b)/\d=l:=by go_enter func202,ntmps202;go_wp2;go_loop[4](λc=>∃a:Nat,a<=10/\c=a/\Hid (C9 b.data.toList=(D'.drop a).any (λk=>decide<|k=b.data.toList)))(λc=>10-(intOf c).toNat);(case atStart=>exact⟨0,Z9,rfl,Zs rfl⟩);case round=>obtain⟨a,p,rfl,h⟩:=hrel;by_cases g:a<10;{have o:=j.2 a g;have m:a<10:=Z9;have n:0<=a:=Z9;have f:=Zs<|h.out.trans<|LY b.data.toList a g;have e:=Zs<|jz (Lg a) b;cases hq:((Lg a).toList==b.toList)with|true=>go_wp2;go_returns;exact⟨ao (by rw[f.out,<-e.out,hq];rfl),rfl⟩|false=>go_wp2;go_round;(case rel=>exact⟨a+1,Z9,Z1,Zs (by rw[f.out,<-e.out,hq];rfl)⟩);case measure=>simp[intOf];omega};{obtain rfl:a=10:=Z9;go_wp2;go_returns;exact⟨ao h.out.symm,rfl⟩}
theorem iJ(c):∀(a:UL)b,(∀e,e<b->∀d,c a[e]=true)->b<=a.length->(∀d,c a[b]=false)->a.takeWhile c=a.take b|[],b,_,l,_=>by simp|x::a,0,_,_,g=>by have f:c x=false:=g<|Xm _;simp[f]|x::a,b+1,h,j,g=>by have i:=h 0 (Xm _)<|Xm _;have f:c x=true:=i;rw[Xb,if_pos f,WC,iJ c a b (λe k d=>h (e+1) (VR k)<|VR d) (Nat.le_of_succ_le_succ j) (λd=>g<|VR d)]
def iB(a)(i:Nat)(f)(hF:∀(r)d,UD i #[.int .u8 r.toNat] d λe h=>e=Uv (f r)/\d=h)(y:∀(args)d,(callFunc i args).run prog d=.ok (.enter i args) d)(d)(C:a.size<=1000000000000):UD 120 #[.string a,.func (.func i) #[] #[]] d λe h=>(∃u,e=Uv (.string u)/\Hid (u=a.data.toList.takeWhile f))/\d=h:=by have v:=Zs hF;clear hF;go_enter func120,ntmps120;go_wp2_with fail;go_loop[5](λn=>∃b:Nat,b<=a.size/\n=b/\Hid (∀c,c<b->∀g:c<a.data.toList.length,f a.data.toList[c]=true))(λn=>a.size-(intOf n).toNat);(case atStart=>exact⟨0,Z9,rfl,Zs<|λc s=>absurd s<|YK c⟩);case round=>obtain⟨b,B,rfl,m⟩:=hrel;by_cases k:b<a.size;{obtain⟨o,w⟩:=Z'<|a[b];have t:a.data.toList[b]'k=o:=w;have q:=Zs t;clear t;have z:b<a.size:=Z9;have A:0<=b:=Z9;have j:=Zs<|v.out o;obtain⟨x,l⟩:=Z'<|f o;have p:=Zs l;rw[l]at j;clear l;cases x with|true=>go_wp2_with fail;refine(j.out _).mono ?_;rintro e h⟨rfl,rfl⟩;go_wp2_with fail;go_round;(case rel=>refine⟨b+1,k,Z1,Zs λc s g=>?_⟩;by_cases e:c=b;{subst e;rw[q.out];exact p.out};{exact m.out c Z9 g});case measure=>simp[intOf];omega|false=>go_wp2_with fail;refine(j.out _).mono ?_;rintro e h⟨rfl,rfl⟩;go_wp2;go_returns;refine⟨⟨_,rfl,Zs ?_⟩,rfl⟩;rw[iJ f a.data.toList b m.out (YT k) (λg=>by rw[q.out];exact p.out),Lib.extract_data];simp};{obtain rfl:b=a.size:=Z9;go_wp2;go_returns;refine⟨⟨_,rfl,Zs ?_⟩,rfl⟩;rw[iJ f a.data.toList a.size m.out (Zq _) (λg=>absurd g<|Yf _)];exact(Y2<|Zq _).symm}
theorem lG(d):∀b:UL,b.takeWhile d=b↔b.all d=true|[]=>by simp|x::b=>by have e:=lG d b;rw[Xb,Wf,Y1,<-e];by_cases c:d x=true;{rw[if_pos c];exact⟨λa=>⟨c,(List.cons.inj a).2⟩,λa=>by rw[a.2]⟩};{rw[if_neg c];exact⟨λa=>(by cases a),λa=>absurd a.1 c⟩}
def AB(a r)(C:iM r):UD 126 #[.string a] r λd e=>d=Uv (bL a)/\r=e:=by by_cases c:a.data.toList=[];{have p:a.toList=[]:=by{rw[Lib.toList_data];exact c};have h:(!a.toList.isEmpty)=false:=by{rw[p];rfl};have b:Hid<|bL a.data.toList=false:=Zs (by rw[c];rfl);clear c p;go_enter func126,ntmps126;go_wp2;go_returns;exact⟨ao b.out.symm,rfl⟩};have p:(!a.toList.isEmpty)=true:=by{rw[Lib.toList_data];cases m:a.data.toList with|nil=>exact absurd m c|cons _ _=>rfl};by_cases x:20<a.data.toList.length;{have h:¬(a.size:Int)<=20:=by{have:a.size=a.data.toList.length:=rfl;omega};have I:decide ((a.size:Int)<=20)=false:=decide_eq_false h;have b:Hid<|bL a.data.toList=false:=Zs (by unfold bL;rw[decide_eq_false (show¬a.data.toList.length<=20 by omega)];simp);clear c x h;go_enter func126,ntmps126;go_wp2;go_returns;exact⟨ao b.out.symm,rfl⟩};have D:a.size=a.data.toList.length:=rfl;have z:a.size<=1000000000000:=Z9;have y:0<a.data.toList.length:=by{cases m:a.data.toList with|nil=>exact absurd m c|cons _ _=>exact Xm _};have h:a.size<=20:=Z9;have J:0<a.size:=Z9;have K:0<a.size:=Z9;obtain⟨s,E⟩:=Z'<|a[0];have o:a.data.toList.head?=s:=by{rw[VM,Zp y];exact congrArg some E};obtain⟨w,k⟩:=Z'<|jq s;have g:=Zs<|jB s;rw[k]at g;have b:Hid<|bL a.data.toList=(w&&(a.data.toList.all oW&& !C9 a.data.toList)):=Zs (by unfold bL;rw[decide_eq_true c,decide_eq_true (show a.data.toList.length<=20 by omega),o];simp[k,Yr]);have H:=Zs o;have G:=Zs c;clear k o c x D y;cases w with|false=>go_enter func126,ntmps126;go_wp2_with(go_at_call 198;refine(g.out _).mono ?_;rintro d e⟨rfl,rfl⟩);go_returns;exact⟨ao b.out.symm,rfl⟩|true=>have u:=Zs<|iB a 200 oW nC<|λ_ _=>Z7;have t:Hid<|(a.data.toList.takeWhile oW=a.data.toList)↔a.data.toList.all oW=true:=Zs<|lG oW a.data.toList;by_cases f:a.data.toList.all oW=true;{have v:=Zs<|nD a;obtain⟨A,l⟩:=Z'<|C9 a.data.toList;rw[l]at v;have j:Hid<|bL a.data.toList= !A:=Zs (by rw[b.out,f,l];rfl);have i:=Zs f;clear f l b;go_enter func126,ntmps126;go_wp2_with(go_at_call 198;refine(g.out _).mono ?_;rintro d e⟨rfl,rfl⟩);refine(u.out _ z).mono ?_;rintro d e⟨⟨q,rfl,n⟩,rfl⟩;have F:(q.toList==a.toList)=true:=by{rw[jz,n.out];exact decide_eq_true<|t.out.2 i.out};go_wp2_with(go_at_call 202;refine(v.out _ C).mono ?_;rintro d e⟨rfl,rfl⟩);go_returns;exact⟨ao j.out.symm,rfl⟩};{have j:Hid<|bL a.data.toList=false:=Zs (by rw[b.out,V0.2 f];simp);have i:=Zs f;clear f b;go_enter func126,ntmps126;go_wp2_with(go_at_call 198;refine(g.out _).mono ?_;rintro d e⟨rfl,rfl⟩);refine(u.out _ z).mono ?_;rintro d e⟨⟨q,rfl,n⟩,rfl⟩;have F:(q.toList==a.toList)=false:=by{rw[jz,n.out];exact decide_eq_false<|λB=>i.out<|t.out.1 B};go_wp2;go_returns;exact⟨ao j.out.symm,rfl⟩}
def uX(a):UD 74 #[.string ⟨#[118,97,114]⟩] a λb c=>b=.returned false/\a=c:=by go_enter func74,ntmps74;go_wp2;go_returns;exact⟨rfl,rfl⟩
def qM(a):UD 74 #[.string ⟨#[97,114,114,97,121]⟩] a λb c=>b=.returned false/\a=c:=by go_enter func74,ntmps74;go_wp2;go_returns;exact⟨rfl,rfl⟩
def sA(a):UD 74 #[.string ⟨#[102,117,110,99]⟩] a λb c=>b=.returned false/\a=c:=by go_enter func74,ntmps74;go_wp2;go_returns;exact⟨rfl,rfl⟩
def sB(a):UD 74 #[.string ⟨#[119,111,114,100]⟩] a λb c=>b=.returned false/\a=c:=by go_enter func74,ntmps74;go_wp2;go_returns;exact⟨rfl,rfl⟩
def xw(a):UD 74 #[.string ⟨#[105,102]⟩] a λb c=>b=.returned false/\a=c:=by go_enter func74,ntmps74;go_wp2;go_returns;exact⟨rfl,rfl⟩
def sx(a):UD 74 #[.string ⟨#[101,108,115,101]⟩] a λb c=>b=.returned false/\a=c:=by go_enter func74,ntmps74;go_wp2;go_returns;exact⟨rfl,rfl⟩
def qN(a):UD 74 #[.string ⟨#[119,104,105,108,101]⟩] a λb c=>b=.returned false/\a=c:=by go_enter func74,ntmps74;go_wp2;go_returns;exact⟨rfl,rfl⟩
def o7(a):UD 74 #[.string ⟨#[114,101,116,117,114,110]⟩] a λb c=>b=.returned false/\a=c:=by go_enter func74,ntmps74;go_wp2;go_returns;exact⟨rfl,rfl⟩
def uW(a):UD 74 #[.string ⟨#[112,117,116]⟩] a λb c=>b=.returned false/\a=c:=by go_enter func74,ntmps74;go_wp2;go_returns;exact⟨rfl,rfl⟩
def uV(a):UD 74 #[.string ⟨#[103,101,116]⟩] a λb c=>b=.returned false/\a=c:=by go_enter func74,ntmps74;go_wp2;go_returns;exact⟨rfl,rfl⟩
def gy(b c)(i:iM c):UD 74 #[.string b] c λe g=>e=.returned (bL b.data.toList)/\c=g:=by by_cases a:C9 b.data.toList=true;{have k:bL b.data.toList=false:=by{unfold bL;rw[a];simp};rw[k];unfold C9 D' at a;simp only[Vp,List.any_nil,Bool.or_false,VC,decide_eq_true_iff]at a;obtain a|a|a|a|a|a|a|a|a|a:=a;{rw[ir a.symm];exact uX c};{rw[ir a.symm];exact qM c};{rw[ir a.symm];exact sA c};{rw[ir a.symm];exact sB c};{rw[ir a.symm];exact xw c};{rw[ir a.symm];exact sx c};{rw[ir a.symm];exact qN c};{rw[ir a.symm];exact o7 c};{rw[ir a.symm];exact uW c};{rw[ir a.symm];exact uV c}};{have h:=Zs<|AB b c i;have d:∀f∈D',b.data.toList≠f:=λf j e=>a<|List.any_eq_true.2 ⟨f,j,decide_eq_true e.symm⟩;have l:(b.toList==([118,97,114]))=false:=by{rw[Lib.toList_data,beq_eq_false_iff_ne];exact d _ Z8};have m:(b.toList==([97,114,114,97,121]))=false:=by{rw[Lib.toList_data,beq_eq_false_iff_ne];exact d _ Z8};have n:(b.toList==([102,117,110,99]))=false:=by{rw[Lib.toList_data,beq_eq_false_iff_ne];exact d _ Z8};have o:(b.toList==([119,111,114,100]))=false:=by{rw[Lib.toList_data,beq_eq_false_iff_ne];exact d _ Z8};have p:(b.toList==([105,102]))=false:=by{rw[Lib.toList_data,beq_eq_false_iff_ne];exact d _ Z8};have q:(b.toList==([101,108,115,101]))=false:=by{rw[Lib.toList_data,beq_eq_false_iff_ne];exact d _ Z8};have r:(b.toList==([119,104,105,108,101]))=false:=by{rw[Lib.toList_data,beq_eq_false_iff_ne];exact d _ Z8};have s:(b.toList==([114,101,116,117,114,110]))=false:=by{rw[Lib.toList_data,beq_eq_false_iff_ne];exact d _ Z8};have t:(b.toList==([112,117,116]))=false:=by{rw[Lib.toList_data,beq_eq_false_iff_ne];exact d _ Z8};have u:(b.toList==([103,101,116]))=false:=by{rw[Lib.toList_data,beq_eq_false_iff_ne];exact d _ Z8};clear a d;go_enter func74,ntmps74;go_wp2_with(go_at_call 126;refine h.out.mono ?_;rintro e g⟨rfl,rfl⟩);go_returns;exact⟨rfl,rfl⟩}
def tv(a:UW):UY:=a
def ji(a:List ByteArray)(o r e)(t:iM e)(s:Sl e e o a.length<|a.map tv)(A:a.length<=1000000000000):UD 73 #[.slice o a.length r] e λi m=>i=.returned (a.all λd=>bL d.data.toList)/\e=m:=by go_enter func73,ntmps73;go_wp2_with fail;go_loop[7](λl=>∃c:Nat,c<=a.length/\l=c/\Hid ((a.all λd=>bL d.data.toList)=((a.drop c).all λd=>bL d.data.toList)))(λl=>a.length-(intOf l).toNat);(case atStart=>exact⟨0,Zc _,rfl,Zs rfl⟩);case round=>obtain⟨c,z,rfl,q⟩:=hrel;by_cases j:c<a.length;{obtain⟨b,off,x,rfl,y,f,u⟩:=s.at_ (k:=c) j;have v:x=a[c]:=by{rw[Zh,Zp j]at f;injection f with f;exact f.symm};subst v;obtain⟨n,k⟩:=Z'<|a[c];have g:Hid<|(a.all λd=>bL d.data.toList)=(bL n.data.toList&&((a.drop<|c+1).all λd=>bL d.data.toList)):=Zs (by rw[q.out,Yz j,Wf,k]);rw[k]at u;have h:=Zs<|gy n e t;obtain⟨w,p⟩:=Z'<|bL n.data.toList;rw[p]at h g;clear p k f;cases w with|true=>go_wp2_with(go_at_call 74;refine h.out.mono ?_;rintro i m⟨rfl,rfl⟩);go_round;(case rel=>exact⟨c+1,Z9,Z1,Zs (by rw[g.out];rfl)⟩);case measure=>simp[intOf];omega|false=>go_wp2_with(go_at_call 74;refine h.out.mono ?_;rintro i m⟨rfl,rfl⟩);go_returns;exact⟨ao (by rw[g.out];rfl),rfl⟩};{obtain rfl:c=a.length:=Z9;go_wp2;go_returns;exact⟨ao (by rw[q.out,XT];rfl),rfl⟩}
def Lm(named:Bool)(a:UL):Bool:=if named then bL a else decide (a=[])
def Hx(a:Int):Nat:=if a=3\/a=7 then 1 else if a=6\/a=8\/a=9 then 2 else 0
def Bi(a:Int):Nat:=if a=3\/a=7 then 1 else if a=6\/a=8\/a=9 then 2 else if a=4 then 6 else 0
def eY(kind a:Int)(num:UT)(name:UL)(b:Nat):Bool:=decide (1<=kind/\kind<=9)&&((if kind=6 then decide (4<=a/\a<=15)else decide (a=0))&&((decide (kind=1)||decide (num.toNat=0))&&(Lm (decide (2<=kind/\kind<=4)) name&&decide (Hx kind<=b/\b<=Bi kind))))
def H'(a:Int):Nat:=if a=6\/a=7 then 0 else if a=2 then 2 else 1
def G5(a:Int):Nat:=if a=6 then 6 else if a=2 then 2 else 1
def gn(kind:Int)(name:UL)(a m b:Nat):Bool:=decide (1<=kind/\kind<=7)&&(Lm (decide<|kind=1\/kind=2\/kind=6) name&&(decide (H' kind<=a)&&(decide (a<=G5 kind)&&((decide (kind=4\/kind=5)||decide (m=0))&&(decide (kind=4)||decide (b=0))))))
def mR(a named b)(g:iM b):UD 203 #[.string a,.bool named] b λc d=>c=Uv (Lm named a)/\b=d:=by cases named with|true=>have f:=Zs<|gy a b g;go_enter func203,ntmps203;go_wp2_with(go_at_call 74;refine f.out.mono ?_;rintro c d⟨rfl,rfl⟩);go_returns;exact⟨rfl,rfl⟩|false=>obtain⟨i,h⟩:=Z'<|a.toList.isEmpty;have e:Hid<|Lm false a=i:=Zs (by rw[<-h,Lib.toList_data];unfold Lm;cases a.data.toList<;>simp);go_enter func203,ntmps203;go_wp2;go_returns;exact⟨ao (by rw[e.out]),rfl⟩
def uH(a k i l c)(h:iM c):UD 204 #[jn a k i l] c λg j=>g=Uv (eY a.kind a.op a.num a.name i)/\UB c c j:=by obtain⟨kind,o,num,name⟩:=a;have f:=Zs λb m=>mR name b _<|h.aa<|(Zo _ c).alloc (Zq _) m;generalize name.data.toList=L at*;unfold jn;obtain⟨n,d⟩:=Z' num.toNat;have e:=Zs d;simp only[d];clear h d;go_enter func204,ntmps204;go_wp2_with(go_at_call 203;refine(f.out _ _).mono ?_;rintro g j⟨rfl,rfl⟩);(all_goals go_returns;refine⟨ao<|XU.2 ?_,(Zo _ c).alloc (Zq _) _⟩;unfold eY;rw[e.out];clear e f;simp_all[Hx,Bi]);all_goals omega
def vJ(c j k l g n m c2 h o a)(f:iM a):UD 127 #[DK c j g n k m c2 l h o] a λe i=>e=Uv (gn c.kind c.name g m h)/\UB a a i:=by obtain⟨kind,name⟩:=c;have d:=Zs λb p=>mR name b _<|f.aa<|(Zo _ a).alloc (Zq _) p;generalize name.data.toList=L at*;unfold DK;clear f;go_enter func127,ntmps127;go_wp2_with(go_at_call 203;refine(d.out _ _).mono ?_;rintro e i⟨rfl,rfl⟩);(all_goals go_returns;refine⟨ao<|XU.2 ?_,(Zo _ a).alloc (Zq _) _⟩;clear d;simp_all[gn,H',G5]);all_goals omega
section
variable{w:World}{rest:List Oper}{ops:Array Oper}{h:Program}{xs:List Value}{n:Nat}
variable{E t:TypeId}{P g:Program}{W W':World}{a b c f i k lo:Nat}{cs:Array Value}{e:Oper}{o x:Exit->Act->World->Prop}{p:Act->World->Prop}{v:Value}{y:Prop}
def ie(c base h l e d p size bytes)(u:P.underlying h=some (.slice e))(q:P.info? e=some d)(C:d.zero=some p)(i:d.size=size)(A:d.bytes=bytes)(R:p.cells.size=size)(Q:0<size)(v b xs)(s:c.ownsRow base e size v b xs)(a m j news)(k:news.length=m*size)(r:∀G x,news[G]?=some x->c (a.add G)=some x)(D:∀x∈news,x.oneCell'=true)(E:b+m<=maxLen)(B:(b+m)*bytes<=140737488355328)(K:base<=c.heap.size):∃n o,(Builtin.append_ #[h,h] l #[v,.slice (some a) m j]).run P c=.ok n o/\o.ownsRow base e size n (b+m) (xs++news)/\c.grownBy o v.ownBlock/\∀w,n.ownBlock=some w->v.ownBlock=w\/c<=w:=by obtain⟨n,o,t,H,I,J⟩:=run_append_own (P:=P) c base h l e d p size bytes u q C i A R Q v b xs s a m j news k r D E B K;refine⟨n,o,t,H,I,λw f=>?_⟩;have U:b+m<=9223372036854775807:=by{unfold maxLen at E;omega};obtain⟨rfl,rfl⟩|⟨z,y,cur,rfl,S,N,V,T,L,W⟩:=s.2;{by_cases O:m=0;{rw[J.2 ⟨rfl,O⟩]at f;cases f};{have g:=run_append_nil (P:=P) c h l e d p u q C a m j news (by rw[i];exact k) r Z9 Z9 (by rw[A];rw[Y5]at B;omega);rw[t]at g;injection g with e1 _;rw[e1]at f;exact YQ<|Ys<|Yp f}};{by_cases F:b+m<=y;{have M:b*d.size+news.length<=cur.size:=by{rw[k,L,i,<-WX];exact WM _ F};have g:=run_append_room (P:=P) c h l e d u q z b y cur N a m j news (by rw[i];exact k) r D F M;rw[t]at g;injection g with e1 _;rw[e1]at f;exact YA f};{have g:=run_append_grow (P:=P) c h l e d p u q C z b y xs (by rw[i];exact s.1) (s.cells (g:=z) rfl) a m j news (by rw[i];exact k) r Z9 Z9 (by rw[A];exact growslice_fits Z9 B);rw[t]at g;injection g with e1 _;rw[e1]at f;exact YQ<|Ys<|Yp f}}
theorem aX{h a}(E:h.guard=none)(u x i)(J:h.op=.call {callee:=.builtin .append,args:=#[u,x],argTypes:=#[i,i]})(f n size bytes)(N:g.underlying i=some (.slice t))(G:(g.info? t).map (λl=>(l.zero,l.size,l.bytes))=some (some n,size,bytes))(T:n.cells.size=size)(M:0<size)(v d xs)(L:a.eval u=v)(r:w.ownsRow f t size v d xs)(m)(P:a.eval x=.slice w m m)(H:cs.toList.length=m*size)(A:∀V∈cs.toList,V.oneCell'=true)(D:(d+m)*bytes<=140737488355328)(Y:d+m<=140737488355328)(B:f<=w)(Z:0<m)(z:∀c p e,e.ownsRow f t size (.slice c (d+m) p) (d+m) (xs++cs.toList)->UB f w e->(∀b,b<w.heap.size->some b≠v.ownBlock->e.heap[b]?=w.heap[b]?)->(v.ownBlock=some c\/w<=c)->wpList g ops o rest (a.put h.dst<|.slice c (d+m) p) e):wpList g ops o (h::rest) a<|w.alloc<|.cells cs t:=by obtain⟨U,F,Q,R,S⟩:=info_parts G;refine wpList_plain E λW C=>?_;obtain⟨v',e,K,s,q,O⟩:=ie (P:=g) (w.alloc<|.cells cs t) f i h.type t U n size bytes N F Q R S T M v d xs (r.alloc _) w m m cs.toList H (kN w cs t) A ZX D Z3;unfold Oper.wp execOp;simp only[J,resolve,invoke,builtin,WI,WH,Xp,WG,Yo,Xu,L,P,K];obtain⟨_,X⟩|⟨c,y,cur,rfl,_⟩:=s.2;{omega};refine C _ _<|z c y e s (kQ q B<|λb k=>(r.lt b k).1) (λb k I=>?_) ?_;{rw[q.block b Z3 I];exact Xy w _ b k};{obtain j|j:=O c rfl;{exact YA j};{exact YQ (by rw[Y9]at j;omega)}}
def bG{a}(D:W=w.alloc (.cells cs E))(G:e.guard=none)(t u j)(L:e.op=.call {callee:=.builtin .append,args:=#[t,u],argTypes:=#[j,j]})(g o size bytes)(P:h.underlying j=some (.slice E))(I:(h.info? E).map (λn=>(n.zero,n.size,n.bytes))=some (some o,size,bytes))(V:o.cells.size=size)(O:0<size)(v d xs)(N:a.eval t=v)(r:w.ownsRow g E size v d xs)(m b)(i:w.heap.size=b)(R:a.eval u=.slice b m m)(J:cs.toList.length=m*size)(B:∀Y∈cs.toList,Y.oneCell'=true)(F:(d+m)*bytes<=140737488355328)(a0:d+m<=140737488355328)(C:g<=w)(hm:0<m)(A:∀b q f,f.ownsRow g E size (.slice b (d+m) q) (d+m) (xs++cs.toList)->UB g w f->(∀c,c<w.heap.size->some c≠v.ownBlock->f.heap[c]?=w.heap[c]?)->(v.ownBlock=some b\/w<=b)->p (a.put e.dst<|.slice b (d+m) q) f):if Region.wanted e (yielded ops a.tmps)=true then Oper.wp h e a W p x else y:=by subst D i;obtain⟨X,H,S,T,U⟩:=info_parts I;rw[if_pos (by simp[Region.wanted,G])];obtain⟨v',f,M,s,i,Q⟩:=ie (P:=h) (w.alloc<|.cells cs E) g j e.type E X o size bytes P H S T U V O v d xs (r.alloc _) w m m cs.toList J (kN w cs E) B ZX F Z3;unfold Oper.wp execOp;simp only[L,resolve,invoke,builtin,WI,WH,Xp,WG,Yo,Xu,N,R,M];obtain⟨_,Z⟩|⟨b,z,cur,rfl,_⟩:=s.2;{omega};refine A b z f s (kQ i C<|λc l=>(r.lt c l).1) (λc l K=>?_) ?_;{rw[i.block c Z3 K];exact Xy w _ c l};{obtain k|k:=Q b rfl;{exact YA k};{exact YQ (by rw[Y9]at k;omega)}}
def aI(c:w.ownsRow n k a v b xs){p}(l:some p.block≠v.ownBlock)(m):(w.setCell p m).ownsRow n k a v b xs:=by refine⟨c.1,?_⟩;obtain j|⟨g,e,cur,d,h,i,rest⟩:=c.2;{exact .inl j};{refine .inr ⟨g,e,cur,d,h,?_,rest⟩;rw[Zk _ _ _ _ (λf=>l (by rw[d,<-f];rfl))];exact i}
theorem Gw(g:w.ownsRow n k a (.slice b i f) i xs)(d e):(w.setCell ⟨b,d,none⟩ e).ownsRow n k a (.slice b i f) i<|xs.set d e:=by refine⟨by simp[g.1],?_⟩;obtain⟨h,_⟩|⟨s,r,cur,c,m,o,p,j,l,q⟩:=g.2;{cases h};{injection c with c _ hc;injection c with c;injection c with c;subst c hc;refine .inr ⟨b,f,cur.setIfInBounds d e,rfl,m,?_,p,j,by simp[l],?_⟩;{simp[World.setCell,Wp,o]};{rw[<-q,V6,List.take_set]}}
def bO(e:w.ownsRow n k a (.slice b i f) i xs)(g:xs[c]?=v):w ⟨b,c,none⟩=v:=by have:=e.cells (g:=b) rfl c v g;have d:(b:Addr).add c=⟨b,c,none⟩:=ZV;rwa[d]at this
def xU(d:w.ownsRow n k a (.slice b i f) i xs)(h):w.frozen? ⟨b,h,none⟩=false:=by obtain⟨e,_⟩|⟨l,j,cur,c,m,g,_⟩:=d.2;{cases e};{injection c with c _ _;injection c with c;cases c;simp[World.frozen?,g]}
def bq(g:w.ownsRow n a b v i xs)(c:v.ownBlock=k):(∃cs,w.heap[k]?=some (.cells cs a))/\n<=k/\k<w:=by obtain⟨h,_⟩|⟨f,m,cur,l,j,d,rest⟩:=g.2;{rw[h]at c;cases c};{rw[l]at c;have e:f=k:=Yp c;subst e;exact⟨⟨cur,d⟩,j,(YW.1 d).1⟩}
def fD(lo:Nat)(a:U0)(v:UY)(b:Nat):Prop:=lo<=b/\b<a/\v.ownBlock≠some b
def fD.jR{v'}(g:w<=W.heap.size)(f:∀d,d<w.heap.size->some d≠v.ownBlock->W.heap[d]?=w.heap[d]?)(i:v.ownBlock=n\/w<=n)(h:v'.ownBlock=some n)(c:fD lo w v b):W.heap[b]?=w.heap[b]?/\fD lo W v' b:=by refine⟨f b c.2.1<|λa=>c.2.2 a.symm,c.1,Zj c.2.1 g,λa=>?_⟩;rw[h]at a;obtain e|e:=i;{exact c.2.2<|e.trans a};{have a:=Yp a;have:=c.2.1;omega}
def fD.aa(c:UB w w W')(a:fD lo w v b):W'.heap[b]?=w.heap[b]?/\fD lo W' v b:=⟨c.block b a.2.1,a.1,Zj a.2.1 c.size,a.2.2⟩
def fD.set{g o}(d)(e:g<lo)(a:fD lo W v b):(W.setCell ⟨g,o,none⟩ d).heap[b]?=W.heap[b]?/\fD lo (W.setCell ⟨g,o,none⟩ d) v b:=⟨Zk _ _ _ _ (λc=>by have c:b=g:=c;have:=a.1;omega),a.1,by have:=a.2.1;simpa using this,a.2.2⟩
def fD.nw(e:w.ownsRow n k i v f xs)(g:a<=b/\b<c)(h:w<=a)(j:lo<=a)(l:c<=W'):fD lo W' v b:=⟨Z9,Z9,λd=>by have:=(bq e d).2.2;omega⟩
end
end Go.Proofs.YtoenedcfojlooaaGreatDoor
