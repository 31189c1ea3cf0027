/- SystemFuel is proved: a program's image ends as the program does when given the fuel that the statement names. -/
import Derived.Test.YtoenedcfojlooaaGreatDoorTie
import Derived.Deep.DeepHandedRow
import Derived.Stop.LaidErr
import Derived.Test.YtoenedcfojlooaaGreatDoorz21
namespace Go.Proofs.YtoenedcfojlooaaGreatDoor.systemFuel
open Go.RowKit Go.Proofs.Tryz
set_option maxRecDepth 100000
set_option maxHeartbeats 0
set_option linter.all false

open Go.ChangeShapes Go.WideShapes Go.ChangeAt Go.RowKit
open Go.ChangeMaps(open_string shut_string)
theorem own:ownKnob prog.godebug=none:=Z7
theorem uP:laidOutB prog=true:=Z7
theorem Qs:Nu prog 258:=⟨_,_,_,_,_,underlying258,Z7,Z7,⟨rfl,rfl,rfl,rfl,rfl⟩,⟨Z7,Z7,Z7,Z7,Z7⟩,underlying3,underlying3,underlying69,underlying9,underlying206⟩
theorem Qw:OI prog 258 208:=⟨_,_,_,_,_,underlying208,Z7,Z7,⟨rfl,rfl,rfl,rfl,rfl⟩,⟨Z7,Z7,Z7,Z7,Z7⟩,underlying3,underlying9,underlying206,underlying53,underlying53⟩
theorem Qu:OH prog 9:=⟨underlying9,Z7,Z7⟩
theorem Qr:O6 prog 52:=⟨_,_,underlying52,Z7,Z7,⟨rfl,rfl⟩,⟨Z7,Z7⟩,underlying9,underlying3⟩
theorem Qt:O7 prog 258 208 9 55:=⟨_,_,_,_,_,underlying55,Z7,Z7,⟨rfl,rfl,rfl,rfl,rfl⟩,⟨Z7,Z7,Z7,Z7,Z7⟩,underlying9,underlying22,underlying22,underlying4,underlying53⟩
theorem Qv:PY prog 258 208 9 55 52 26:=⟨_,_,_,underlying26,Z7,⟨rfl,rfl,rfl⟩,⟨Z7,Z7,Z7⟩,underlying22,underlying23,underlying24⟩
theorem Ax{w:World}(b:laidMet prog Rows.systemFuelRow.laid w):iM w:=by have a:prog.globalNamed "seedcorn/token.words"=some 1:=Z7;exact Ht (nj (l:=D') a Z7 underlying334 underlying9 Z7 Z7 b)
theorem Aw{w:World}(b:laidMet prog Rows.systemFuelRow.laid w):D8 w:=by have a:prog.globalNamed "seedcorn/token.signs"=some 0:=Z7;exact G8 (nj (l:=DN) a Z7 underlying307 underlying9 Z7 Z7 (laidMet.tail b))
noncomputable def nU(c:Os):World:={World.holding prog c ⟨#[],#[],[]⟩with heap:=(((World.holding prog c ⟨#[],#[],[]⟩).heap.modify 1 λ|.cells _ b af=>.cells #[.string ⟨#[118,97,114]⟩,.string ⟨#[97,114,114,97,121]⟩,.string ⟨#[102,117,110,99]⟩,.string ⟨#[119,111,114,100]⟩,.string ⟨#[105,102]⟩,.string ⟨#[101,108,115,101]⟩,.string ⟨#[119,104,105,108,101]⟩,.string ⟨#[114,101,116,117,114,110]⟩,.string ⟨#[112,117,116]⟩,.string ⟨#[103,101,116]⟩] b af|a=>a).modify 0 λ|.cells _ b af=>.cells #[.string ⟨#[60,60]⟩,.string ⟨#[62,62]⟩,.string ⟨#[61,61]⟩,.string ⟨#[38,38]⟩,.string ⟨#[124,124]⟩,.string ⟨#[40]⟩,.string ⟨#[41]⟩,.string ⟨#[123]⟩,.string ⟨#[125]⟩,.string ⟨#[91]⟩,.string ⟨#[93]⟩,.string ⟨#[59]⟩,.string ⟨#[44]⟩,.string ⟨#[61]⟩,.string ⟨#[43]⟩,.string ⟨#[45]⟩,.string ⟨#[42]⟩,.string ⟨#[47]⟩,.string ⟨#[37]⟩,.string ⟨#[38]⟩,.string ⟨#[124]⟩,.string ⟨#[94]⟩,.string ⟨#[60]⟩,.string ⟨#[33]⟩] b af|a=>a)}
theorem FN(a:Os):laidMet prog Rows.systemFuelRow.laid ((nU a).forCall (λ_ _=>0) ⟨#[],#[.agg #[.slice none 0 0,.slice none 0 0,.slice none 0 0],.string ByteArray.empty,.int .u8 0],[]⟩).memory:=laidMet_of_run' 8 Z7 Z7
theorem Og(a:Os){α:Type}(enc:TypeId×Value->α):∃b,DataW.whole enc prog ((nU a).forCall (λ_ _=>0) ⟨#[],#[.agg #[.slice none 0 0,.slice none 0 0,.slice none 0 0],.string ByteArray.empty,.int .u8 0],[]⟩).memory f3.params.toList Rows.systemFuelSpec.vars false (#[.agg #[.slice none 0 0,.slice none 0 0,.slice none 0 0],.string ByteArray.empty,.int .u8 0]:Array Value).toList 8=some ([.agg [.nil,.nil,.nil],.lit (.string []),.lit (.int .u8 0)],[],b):=⟨[],Z7⟩
theorem EU(g:Type)(enc:TypeId×Value->g)(a:World)(base:Nat)(args:Array Value)(f j:List (DataW g))(before:List MemPlace)(s:∀(u:Nat)t v,f3.params[u]?=some t->args[u]?=some v->Value.okWide prog a .any base t v)(r:DataW.Whole enc prog f3.params.toList Rows.systemFuelSpec.vars false a args.toList f j before)(q:laidMetH prog Rows.systemFuelRow.laid a)(T:∀b∈DataW.weightsEach prog (f3.params.toList++(OpenSpec.ofChange Rows.systemFuelSpec).bare.plain.varTypes prog) (f++j),b<=reachBytes):Calls prog 3 args a λi h=>∃v,i=.returned v/\Rows.systemFuelSpec.post enc prog f3 false true false false a args v h:=by have N:iM a:=Ax q;have M:D8 a:=Aw q;have e:=s;have P:=r;obtain⟨W,a6,p,O,rfl,a4,a5⟩:=r;have o:DataW.TrodAll enc prog a 0 (λ_=>true) true f3.params.toList args.toList f W:=p;rw[params3]at o e;obtain⟨z,a7,I,a0,X,q0,a3,rfl,rfl,k,r0⟩:=trodAll_cons o;obtain⟨A,a',d1,a1,Y,q1,rfl,rfl,rfl,l,r1⟩:=trodAll_cons r0;obtain⟨B,b2,d2,a2,Z,q2,rfl,rfl,rfl,n,r2⟩:=trodAll_cons r1;obtain⟨rfl,rfl,rfl⟩:=trodAll_nil r2;obtain rfl:args=#[z,A,B]:=by{cases args;simp_all};obtain⟨rfl,rfl⟩:=trodVars_none O;have k0:=k;have y:∀d∈X,d.block<a.heap.size:=by{obtain⟨m,c⟩:=k0;exact Vl m _ _ _ c};have w:=l;have U:∀d∈Y,d.block<a.heap.size:=by{obtain⟨m,c⟩:=w;exact Vl m _ _ _ c};have x:=n;have V:∀d∈Z,d.block<a.heap.size:=by{obtain⟨m,c⟩:=x;exact Vl m _ _ _ c};have S:∀b∈I.weights prog 26,b<=reachBytes:=λb R=>T b (DataW.weights_mem_each (j:=0) (by rw[params3];rfl) rfl b R);obtain⟨x0,E,H,C,F,D,G,rfl,K,L⟩:=GV (enc:=enc) Qs Qw Qu Qt Qr Qv (e 0 26 z rfl rfl) k y S;obtain⟨x1,rfl,b1⟩:=MD (enc:=enc) underlying9 (e 1 9 A rfl rfl) l;obtain⟨x2,rfl⟩:=Of (enc:=enc) underlying5 (e 2 5 B rfl rfl) n;clear p s;refine(AN x0 E H C F D G x1 x2 a N M L K).mono λi h⟨Q,aw⟩=>?_;subst Q;exact⟨_,rfl,_,_,_,[],_,[],P,trodAll_mk1 (shut_bool underlying4 _),(trodAll_cons_mk (Below.trod uP Z7 (of_decide_eq_true Z7) k0 aw y) (trodAll_cons_mk (Below.trod uP Z7 (of_decide_eq_true Z7) w aw U) (trodAll_cons_mk (Below.trod uP Z7 (of_decide_eq_true Z7) x aw V) trodAll_mk0))),rfl,aw.frame _,λJ=>by cases J⟩
theorem LZ (a : Os) (started : a.Started) (b : Type) (enc : TypeId × Value -> b) (c : Stop.Interp) :
    ReturnsInHanded {} checked a 3 .any ((OpenSpec.ofChange Rows.systemFuelSpec).preRow enc prog f3 Rows.systemFuelRow.domain false Rows.systemFuelRow.laid) (((OpenSpec.ofChange Rows.systemFuelSpec).at c).post enc prog f3 false true false false) := by
  obtain ⟨p, m⟩ := Og a enc
  refine returnsInHanded_of_row (C := checked) (s := OpenSpec.ofChange Rows.systemFuelSpec) own started Z7 func3
    (witness_row_at (enc := enc) (C := checked) false (nU a) #[.agg #[.slice none 0 0, .slice none 0 0, .slice none 0 0], .string ByteArray.empty, .int .u8 0] rfl Z7 Z7 Z7
      (OpenSpec.preRow_of_cond 8 m Z7 (λo i => by cases i) Z7 (FN a))) ?_
  intro d base args e f before k h _ _ l g _ _
  exact EU b enc d base args e f before k h g (λn j => by simpa using YB.1 l n j)
theorem PJ:Rows.SystemFuelSaid:=OpenClaim.holds_of_cond 3 f3 rfl rfl rfl rfl rfl rfl rfl ⟨rfl,rfl,rfl,rfl,rfl⟩ rfl rfl rfl rfl rfl Z7 func3 Z7 (of_decide_eq_true Z7) (by unfold Func.isWrapper;first|(rw[if_pos Zv];kernel_rfl)|(rw[if_neg Zv];exact⟨rfl,rfl⟩)) (λc started b enc _ a=>by rw[OpenClaim.pre_eq_preRow];exact LZ c started b enc a)
theorem plain(a:FuncId)(fn:Func)(f:Tryz.pinned.checked.prog.funcNamed "seedcorn/seedcorntop.SystemFuel"=some a)(g:Tryz.pinned.checked.prog.funcs[a]?=some fn):true=Tryz.pinned.checked.prog.looks []∧∀(e:Nat)b,fn.params[e]?=some b→Tryz.pinned.checked.prog.wantsStandIn b=false:=by obtain rfl:a=3:=Yp ((show prog.funcNamed "seedcorn/seedcorntop.SystemFuel"=some 3 by kernel_rfl).symm.trans f)|>.symm;obtain rfl:fn=f3:=(Yp (func3.symm.trans g)).symm;refine⟨Z7,fun e b d=>?_⟩;rw[params3]at d;have c:=Array.mem_of_getElem? d;simp only[List.mem_toArray,YO,Yn,or_false]at c;rcases c with rfl|rfl|rfl;{exact(show prog.wantsStandIn 26=false by kernel_rfl)};{exact(show prog.wantsStandIn 9=false by kernel_rfl)};{exact(show prog.wantsStandIn 5=false by kernel_rfl)}
theorem card:Rows.SystemFuelCardSaid:=Claim7.holds_tied_plain_at .later [] _ _ _ _ PJ (λ_ a=>by cases a) Z7 (λ_ a=>by cases a) systemFuel_row_tie rfl ⟨rfl,rfl⟩ Z7 rfl plain Z7
#print axioms card
end Go.Proofs.YtoenedcfojlooaaGreatDoor.systemFuel
