/- SystemCompiled is proved: whatever source is compiled, its image, from its bytes, ends as the source means. -/
import Derived.Test.YtoenedcfojlooaaGreatDoorTie
import Derived.Deep.DeepHandedRow
import Derived.Stop.LaidErr
import Derived.Test.YtoenedcfojlooaaGreatDoory18
namespace Go.Proofs.YtoenedcfojlooaaGreatDoor.systemCompiled
open Go.RowKit Go.Proofs.Tryz
set_option maxRecDepth 100000
set_option maxHeartbeats 0
set_option linter.all false

open Go.ChangeShapes Go.WideShapes Go.ChangeAt Go.RowKit
open Go.ChangeMaps(open_string shut_string)
theorem own:ownKnob prog.godebug=none:=Z7
theorem uP:laidOutB prog=true:=Z7
theorem Ax{a:World}(c:laidMet prog Rows.systemCompiledRow.laid a):iM a:=by have b:prog.globalNamed "seedcorn/token.words"=some 1:=Z7;exact Ht (nj (l:=D') b Z7 underlying334 underlying9 Z7 Z7 c)
theorem Aw{a:World}(c:laidMet prog Rows.systemCompiledRow.laid a):D8 a:=by have b:prog.globalNamed "seedcorn/token.signs"=some 0:=Z7;exact G8 (nj (l:=DN) b Z7 underlying307 underlying9 Z7 Z7 (laidMet.tail c))
noncomputable def nU(c:Os):World:={World.holding prog c ⟨#[],#[],[]⟩with heap:=(((World.holding prog c ⟨#[],#[],[]⟩).heap.modify 1 λ|.cells _ b af=>.cells #[.string ⟨#[118,97,114]⟩,.string ⟨#[97,114,114,97,121]⟩,.string ⟨#[102,117,110,99]⟩,.string ⟨#[119,111,114,100]⟩,.string ⟨#[105,102]⟩,.string ⟨#[101,108,115,101]⟩,.string ⟨#[119,104,105,108,101]⟩,.string ⟨#[114,101,116,117,114,110]⟩,.string ⟨#[112,117,116]⟩,.string ⟨#[103,101,116]⟩] b af|a=>a).modify 0 λ|.cells _ b af=>.cells #[.string ⟨#[60,60]⟩,.string ⟨#[62,62]⟩,.string ⟨#[61,61]⟩,.string ⟨#[38,38]⟩,.string ⟨#[124,124]⟩,.string ⟨#[40]⟩,.string ⟨#[41]⟩,.string ⟨#[123]⟩,.string ⟨#[125]⟩,.string ⟨#[91]⟩,.string ⟨#[93]⟩,.string ⟨#[59]⟩,.string ⟨#[44]⟩,.string ⟨#[61]⟩,.string ⟨#[43]⟩,.string ⟨#[45]⟩,.string ⟨#[42]⟩,.string ⟨#[47]⟩,.string ⟨#[37]⟩,.string ⟨#[38]⟩,.string ⟨#[124]⟩,.string ⟨#[94]⟩,.string ⟨#[60]⟩,.string ⟨#[33]⟩] b af|a=>a)}
theorem FN(a:Os):laidMet prog Rows.systemCompiledRow.laid ((nU a).forCall (λ_ _=>0) ⟨#[],#[.string ByteArray.empty,.string ByteArray.empty],[]⟩).memory:=laidMet_of_run' 8 Z7 Z7
theorem Og(b:Os){a:Type}(enc:TypeId×Value->a):∃c,DataW.whole enc prog ((nU b).forCall (λ_ _=>0) ⟨#[],#[.string ByteArray.empty,.string ByteArray.empty],[]⟩).memory f4.params.toList Rows.systemCompiledSpec.vars false (#[.string ByteArray.empty,.string ByteArray.empty]:Array Value).toList 8=some ([.lit (.string []),.lit (.string [])],[],c):=⟨[],Z7⟩
theorem EU(h:Type)(enc:TypeId×Value->h)(a:World)(G:Nat)(b:Array Value)(c m:List (DataW h))(H:List MemPlace)(z:∀(A:Nat)t v,f4.params[A]?=some t->b[A]?=some v->Value.okWide prog a .any G t v)(y:DataW.Whole enc prog f4.params.toList Rows.systemCompiledSpec.vars false a b.toList c m H)(x:laidMetH prog Rows.systemCompiledRow.laid a)(a5:∀n∈DataW.weightsEach prog (f4.params.toList++(OpenSpec.ofChange Rows.systemCompiledSpec).bare.plain.varTypes prog) (c++m),n<=reachBytes):Calls prog 4 b a λj i=>∃v,j=.returned v/\Rows.systemCompiledSpec.post enc prog f4 false true false false a b v i:=by have K:iM a:=Ax x;have J:D8 a:=Aw x;have e:=z;have N:=y;obtain⟨p,a6,u,L,rfl,a3,a4⟩:=y;have r:DataW.TrodAll enc prog a 0 (λ_=>true) true f4.params.toList b.toList c p:=u;rw[params4]at r e;obtain⟨E,a7,d0,a0,S,q0,a2,rfl,rfl,o,U⟩:=trodAll_cons r;obtain⟨F,a',d1,a1,T,q1,rfl,rfl,rfl,q,W⟩:=trodAll_cons U;obtain⟨rfl,rfl,rfl⟩:=trodAll_nil W;obtain rfl:b=#[E,F]:=by{cases b;simp_all};obtain⟨rfl,rfl⟩:=trodVars_none L;have B:=o;have P:∀g∈S,g.block<a.heap.size:=by{obtain⟨f,d⟩:=B;exact Vl f _ _ _ d};have D:=q;have R:∀g∈T,g.block<a.heap.size:=by{obtain⟨f,d⟩:=D;exact Vl f _ _ _ d};obtain⟨X,rfl,Z⟩:=MD (enc:=enc) underlying9 (e 0 9 E rfl rfl) o;obtain⟨Y,rfl,b1⟩:=MD (enc:=enc) underlying9 (e 1 9 F rfl rfl) q;clear u z;refine(L' X Y a K J).mono λj i⟨O,aw⟩=>?_;subst O;exact⟨_,rfl,_,_,_,[],_,[],N,trodAll_mk1 (shut_bool underlying4 _),(trodAll_cons_mk (Below.trod uP Z7 (of_decide_eq_true Z7) B aw P) (trodAll_cons_mk (Below.trod uP Z7 (of_decide_eq_true Z7) D aw R) trodAll_mk0)),rfl,aw.frame _,λI=>by cases I⟩

theorem LZ (a : Os) (v : a.Started) (b : Type) (enc : TypeId × Value -> b) (c : Stop.Interp) :
    ReturnsInHanded {} checked a 4 .any ((OpenSpec.ofChange Rows.systemCompiledSpec).preRow enc prog f4 Rows.systemCompiledRow.domain false Rows.systemCompiledRow.laid) (((OpenSpec.ofChange Rows.systemCompiledSpec).at c).post enc prog f4 false true false false) := by
  obtain ⟨x, u⟩ := Og a enc
  refine returnsInHanded_of_row (C := checked) (s := OpenSpec.ofChange Rows.systemCompiledSpec) own v Z7 func4
    (witness_row_at (enc := enc) (C := checked) false (nU a) #[.string ByteArray.empty, .string ByteArray.empty] rfl Z7 Z7 Z7
      (OpenSpec.preRow_of_cond 8 u Z7 (λk o => by cases o) Z7 (FN a))) ?_
  intro d f e h i g r m _ _ t j _ _
  exact EU b enc d f e h i g r m j (λn q => by simpa using YB.1 t n q)
theorem PJ:Rows.SystemCompiledSaid:=OpenClaim.holds_of_cond 4 f4 rfl rfl rfl rfl rfl rfl rfl ⟨rfl,rfl,rfl,rfl,rfl⟩ rfl rfl rfl rfl rfl Z7 func4 Z7 (of_decide_eq_true Z7) (by unfold Func.isWrapper;first|(rw[if_pos Zv];kernel_rfl)|(rw[if_neg Zv];exact⟨rfl,rfl⟩)) (λd e b c _ a=>by rw[OpenClaim.pre_eq_preRow];exact LZ d e b c a)
theorem plain(a:FuncId)(b:Func)(g:Tryz.pinned.checked.prog.funcNamed "seedcorn/seedcorntop.SystemCompiled"=some a)(h:Tryz.pinned.checked.prog.funcs[a]?=some b):true=Tryz.pinned.checked.prog.looks []∧∀(f:Nat)c,b.params[f]?=some c→Tryz.pinned.checked.prog.wantsStandIn c=false:=by obtain rfl:a=4:=Yp ((show prog.funcNamed "seedcorn/seedcorntop.SystemCompiled"=some 4 by kernel_rfl).symm.trans g)|>.symm;obtain rfl:b=f4:=(Yp (func4.symm.trans h)).symm;refine⟨Z7,fun f c e=>?_⟩;rw[params4]at e;have d:=Array.mem_of_getElem? e;simp only[List.mem_toArray,YO,Yn,or_false]at d;rcases d with rfl|rfl;{exact(show prog.wantsStandIn 9=false by kernel_rfl)};{exact(show prog.wantsStandIn 9=false by kernel_rfl)}
theorem card:Rows.SystemCompiledCardSaid:=Claim7.holds_tied_plain_at .later [] _ _ _ _ PJ (λ_ a=>by cases a) Z7 (λ_ a=>by cases a) systemCompiled_row_tie rfl ⟨rfl,rfl⟩ Z7 rfl plain Z7
#print axioms card
end Go.Proofs.YtoenedcfojlooaaGreatDoor.systemCompiled
