import Derived.Test.YtoenedcfojlooaaGreatDoory04
namespace Go.Proofs.YtoenedcfojlooaaGreatDoor
open Go.RowKit Go.Proofs.Tryz
set_option maxRecDepth 100000
set_option maxHeartbeats 0
set_option linter.all false
structure Fv(w W t C):Prop where
 aw:UB w.heap.size w W
 aV:ag W w t C
def Fv.aM(a c b):Fv a (Uq a<|.cells b c) c b:=⟨(Zo _ a).alloc (Zq _) _,ag.aM a c b⟩
def Fv.step{w W W' t cs}(a:Fv w W t cs)(b:UB W W W'):Fv w W' t cs:=⟨a.aw.trans<|b.mono a.aw.size,a.aV.aa b a.aV.lt⟩
def uL(c)(b:List Int)(d:∀a∈b,c≠a):b.foldr (λa h=>((c==a)=false/\(c !=a)=true)/\h) True:=by induction b with|nil=>trivial|cons a b f=>exact⟨by simpa using d a Z5,f λg e=>d g (by simp[e])⟩
def sG(l o p q n s m c2 k t c A C B d)(E:0<=c)(h:c<=24->∀a,UB d.heap.size d a->UD 217 #[Uz o n s,.int .i64<|c+1] a λe g=>e=Uv (.bool A)/\UB a a g)(j:c<=24->∀a,UB d d a->UD 94 #[Uz p m c2,.int .i64<|c+1] a λe g=>e=Uv (.bool C)/\UB a a g)(i:c<=24->∀a,UB d d a->UD 94 #[Uz q k t,.int .i64<|c+1] a λe g=>e=Uv (.bool B)/\UB a a g):UD 149 #[DK l o n s p m c2 q k t,c] d λe g=>e=Uv (decide (c<=24)&&(gn l.kind l.name n m k&&(A&&(C&&B))))/\UB d d g:=by obtain⟨kind,name⟩:=l;have r:=Zs<|gY name;obtain⟨z,y⟩:=Z'<|name.toList.isEmpty;have w:Hid<|z=decide (name.data.toList=[])/\(z=true->bL name.data.toList=false):=Zs (by rw[<-y,Lib.toList_data];cases name.data.toList<;>simp<;>rfl);unfold DK;by_cases u:c<=24;rotate_left;{clear r y;have F:24<c:=Z9;clear h j i;go_enter func149,ntmps149;go_wp2;go_returns;exact⟨ao (by rw[decide_eq_false Z9,Xa]),(Zo _ d).alloc (Zq _) _⟩};replace h:=Zs<|h u;replace j:=Zs<|j u;replace i:=Zs<|i u;have b:=Zs<|Fv.aM d 208 #[.int .i64 kind,.string name,.slice o n s,.slice p m c2,.slice q k t];have v:kind=1\/kind=2\/kind=3\/kind=4\/kind=5\/kind=6\/kind=7\/(kind<1\/7<kind):=Z9;rcases V7 k with rfl|G<;>obtain rfl|hm:=V7 m;(all_goals have k0:=uL kind [1,2,3,4,5,6,7];obtain rfl|rfl|rfl|rfl|rfl|rfl|rfl|v:=v;all_goals(first|(replace k0:=k0 Z3;simp only[List.foldr]at k0;clear v)|clear k0));(all_goals go_enter func149,ntmps149;go_wp2_with(first|(go_at_call 93;with_reducible refine(r.out _).mono ?_;rintro e D⟨rfl,f⟩;replace b:=Zs<|b.out.step f;have x:=b.out.aV.cell;clear f)|(go_at_call 217;with_reducible refine(h.out _ b.out.aw).mono ?_;rintro e D⟨rfl,f⟩;replace b:=Zs<|b.out.step f;have x:=b.out.aV.cell;clear f)|(go_at_call 94;(first|with_reducible refine(j.out _ b.out.aw).mono ?_|with_reducible refine(i.out _ b.out.aw).mono ?_);rintro e D⟨rfl,f⟩;replace b:=Zs<|b.out.step f;have x:=b.out.aV.cell;clear f));all_goals go_returns;refine⟨ao<|XU.2 ?_,b.out.aw⟩;replace w:=w.out;clear r h j i;simp_all[gn,Lm,H',G5]);all_goals first|omega|(intros;exfalso;omega)|grind
end Go.Proofs.YtoenedcfojlooaaGreatDoor
