import Derived.WalkKit
import Derived.Handy
import Derived.WalkSpells
import Derived.WalkLawsBesides
import Derived.Lib.Hide
import Derived.Deep.Light
import Derived.Deep.QuietTactic
import Derived.BigQuiet
import Derived.Deep.RegionLaw
import Derived.Deep.RegionHeld3
import Derived.Test.YtoenedcfojlooaaGreatDoorChecked
import Derived.ProofKit
import Derived.OpenShut
import Derived.ShutString
import Derived.ChangeOld
import Derived.Lib.SmallJoins
import Derived.Lib.ItoaMem
import Derived.Lib.Strings
import Derived.Laws.MakeOwn
namespace Go.Proofs.YtoenedcfojlooaaGreatDoor
open Go.RowKit Go.Proofs.Tryz
set_option maxRecDepth 100000
set_option maxHeartbeats 0
set_option linter.all false
def Z'{α:Sort _}(x:α):∃y,x=y:=⟨x,rfl⟩
def Zs:=@Lib.hid
def Zr:=@And.intro
def Zq:=@Nat.le_refl
def Zp:=@List.getElem?_eq_getElem
def Zo:=@Below.refl
def Zn:=@List.length_append
def Zm:=@List.getElem?_eq_some_iff
def Zl:=@List.setIfInBounds_toArray
def Zk:=@Below.heap_setCell
def Zj:=@Nat.lt_of_lt_of_le
def Zi:=@List.length_map
def Zh:=@List.getElem?_map
def Zg:=@List.getElem_cons_zero
def Zf:=@List.getElem_cons_succ
def Ze:=@List.length_cons
def Zd:=@List.set_cons_zero
def Zc:=@Nat.zero_le
def Zb:=@Nat.le_trans
def Za:=@List.set_cons_succ
def Y':=@List.getElem_toArray
def Y9:=@World.size_alloc
def Y8:=@List.append_assoc
def Y7:=@AllReadyH.cons
def Y6:=@List.mem_of_getElem?
def Y5:=@Nat.zero_add
def Y4:=@List.mem_append_right
def Y3:=@List.getElem?_append_left
def Y2:=@List.take_of_length_le
def Y1:=@Bool.and_eq_true
def Y0:=@List.getElem?_append_right
def YZ:=@AllReadyH.nil
def YY:=@List.mem_singleton
def YX:=@List.length_nil
def YW:=@Array.getElem?_eq_some_iff
def YV:=@List.mem_cons_self
def YU:=@List.getElem_mem
def YT:=@Nat.le_of_lt
def YS:=@List.getD_eq_getElem?_getD
def YR:=@Array.getElem?_eq_getElem
def YQ:=@Or.inr
def YP:=@Nat.lt_succ_self
def YO:=@List.mem_cons
def YN:=@List.mem_append
def YM:=@Option.map_eq_some_iff
def YL:=@List.append_nil
def YK:=@Nat.not_lt_zero
def YJ:=@List.getElem?_toArray
def YI:=@List.mem_append_left
def YH:=@Nat.le_succ
def YF:=@List.take_succ_eq_append_getElem
def YE:=@Nat.zero_mul
def YD:=@List.mem_cons_of_mem
def YC:=@List.map_append
def YB:=@List.all_eq_true
def YA:=@Or.inl
def Yz:=@List.drop_eq_getElem_cons
def Yy:=@Nat.add_zero
def Yx:=@List.take_zero
def Yw:=@List.mem_iff_getElem?
def Yv:=@List.length_replicate
def Yu:=@Nat.le_of_ble_eq_true
def Yt:=@List.tail_drop
def Ys:=@Nat.le_of_eq
def Yr:=@Bool.and_assoc
def Yq:=@Nat.add_assoc
def Yp:=@Option.some.inj
def Yo:=@List.map_cons
def Yn:=@List.not_mem_nil
def Ym:=@World.ownsRow_nil
def Yl:=@List.getElem?_cons_succ
def Yk:=@List.length_take
def Yj:=@Nat.le_add_right
def Yi:=@List.getElem?_cons_zero
def Yh:=@List.getElem?_range
def Yg:=@Nat.sub_self
def Yf:=@Nat.lt_irrefl
def Ye:=@List.prefix_refl
def Yd:=@List.getElem?_replicate
def Yc:=@UInt32.toNat_ofNat'
def Yb:=@List.cons_append
def Ya:=@List.nil_append
def X':=@Bool.and_false
def X8:=@Int.toNat_natCast
def X7:=@List.drop_of_length_le
def X6:=@World.cell?_alloc_lt
def X5:=@Int.toNat_of_nonneg
def X4:=@List.map_congr_left
def X1:=@Bool.and_true
def X0:=@Array.getElem?_eq_none
def XZ:=@List.length_drop
def XY:=@List.size_toArray
def XX:=@List.length_range
def XW:=@Nat.add_sub_cancel_left
def XV:=@Array.getElem?_setIfInBounds_ne
def XU:=@Bool.eq_iff_iff
def XT:=@List.drop_length
def XS:=@List.getElem?_eq_none_iff
def XR:=@List.eq_nil_of_length_eq_zero
def XQ:=@List.getElem?_eq_none
def XP:=@Nat.min_eq_left
def XM:=@Nat.mod_eq_of_lt
def XL:=@Array.toArray_toList
def XK:=@IntKind.wrap_i64
def XJ:=@Array.replicate_succ
def XI:=@Array.replicate_zero
def XH:=@List.sum_cons
def XG:=@Option.some.injEq
def XF:=@List.mem_map
def XE:=@List.all_eq_false
def XD:=@List.reverse_append
def XC:=@List.append_toArray
def XB:=@Nat.one_mul
def XA:=@Int.natCast_add
def Xz:=@List.length_set
def Xy:=@Below.heap_alloc
def Xx:=@UInt32.toNat_inj
def Xw:=@Array.getElem?_setIfInBounds_self_of_lt
def Xv:=@Array.size_setIfInBounds
def Xu:=@List.map_nil
def Xs:=@List.drop_zero
def Xr:=@Nat.mul_one
def Xq:=@List.mem_range
def Xp:=@Result.andThen_ok
def Xo:=@List.getElem?_set
def Xn:=@List.push_toArray
def Xm:=@Nat.succ_pos
def Xk:=@Nat.ne_of_lt
def Xj:=@List.length_singleton
def Xi:=@DataW.trod_string
def Xh:=@Nat.add_comm
def Xf:=@Exists.intro
def Xe:=@Bool.true_and
def Xb:=@List.takeWhile_cons
def Xa:=@Bool.false_and
def WZ:=@List.getElem_map
def WY:=@Nat.and_two_pow_sub_one_eq_mod
def WX:=@Nat.add_mul
def WW:=@Bool.false_ne_true
def WV:=@Nat.lt_of_le_of_lt
def WU:=@Ne.symm
def WT:=@List.take_append_drop
def WR:=@List.take_add_one
def WO:=@List.isPrefixOf_iff_prefix
def WN:=@IntWalk.u32_in
def WM:=@Nat.mul_le_mul_right
def WL:=@List.getElem?_modify
def WK:=@NoPanic.normal
def WJ:=@UInt32.toNat_add
def WI:=@Sem.run_bind
def WH:=@Sem.run_pure
def WG:=@List.map_toArray
def WE:=@List.countP_cons
def WC:=@List.take_succ_cons
def WB:=@List.flatMap_append
def WA:=@Array.length_toList
def Wz:=@WideMaps.keyOf_string_mk
def Wy:=@List.length_modify
def Wx:=@Array.ext_getElem?
def Ww:=@List.pairwise_cons
def Wt:=@Nat.lt_of_succ_lt_succ
def Ws:=@Nat.le_of_succ_le
def Wq:=@DataW.trod_int
def Wp:=@Array.getElem?_modify
def Wo:=@List.set_append_right
def Wm:=@Array.toList_inj
def Wj:=@List.take_length
def Wh:=@List.mem_flatMap
def Wf:=@List.all_cons
def Wd:=@Obj.cells.injEq
def Wb:=@Array.getElem?_setIfInBounds
def Wa:=@Exit.noGoto_ret
def V':=@List.replicate_succ
def V8:=@UInt8.toNat_ofNat'
def V7:=@Nat.eq_zero_or_pos
def V6:=@Array.toList_setIfInBounds
def V5:=@Nat.add_sub_cancel
def V4:=@Bool.false_eq_true
def V3:=@List.map_replicate
def V2:=@List.getLast?_eq_getElem?
def V1:=@Classical.byContradiction
def V0:=@Bool.eq_false_iff
def VY:=@List.ext_getElem?
def VX:=@List.flatten_cons
def VW:=@Nat.mod_one
def VV:=@DataW.trod_struct
def VU:=@UInt32.toNat_and
def VR:=@Nat.succ_lt_succ
def VQ:=@List.prefix_iff_eq_take
def VO:=@Nat.shiftLeft_eq
def VN:=@Int.eq_ofNat_of_zero_le
def VM:=@List.head?_eq_getElem?
def VK:=@Bool.or_true
def VJ:=@List.drop_eq_nil_of_le
def VI:=@UInt32.toNat_shiftLeft
def VH:=@Nat.mul_succ
def VG:=@List.map_map
def VF:=@List.map_set
def VE:=@List.all_nil
def VD:=@Int.natCast_mul
def VC:=@Bool.or_eq_true
def Vz:=@List.range_succ
def Vx:=@List.takeWhile_prefix
def Vw:=@List.modify_succ_cons
def Vv:=@Classical.choose_spec
def Vu:=@Nat.mul_le_mul
def Vp:=@List.any_cons
def Vo:=@ByteArray.ext
def Vl:=@DataW.trod_lt
def Vk:=@Below.drew
def Vj:=@Int.le_trans
def Vi:=@Nat.lt_trans
def Z9{p:Prop}(h:p:=by omega):p:=h
def Z8{p:Prop}(h:p:=by decide):p:=h
def Z7{p:Prop}(h:p:=by kernel_rfl):p:=h
def Z6{p:Prop}(h:p:=by rw[XK];omega):p:=h
def Z5{p:Prop}(h:p:=by simp):p:=h
def Z4{p:Prop}(h:p:=by first|omega|(simp only[Zn,Ze,YX];omega)):p:=h
def Z3{p:Prop}(h:p:=by simp;omega):p:=h
def Z2{p:Prop}(h:p:=by rw[beq_eq_false_iff_ne];omega):p:=h
def Z1{p:Prop}(h:p:=by go_num):p:=h
def Z0{p:Prop}(h:p:=by simp only[Act.put,Y',Zf,Zg,Zl,Zd,Za]<;>rfl):p:=h
def ZZ{p:Prop}(h:p:=by simp[Value.oneCell']):p:=h
def ZY{p:Prop}(h:p:=by rw[Zi];omega):p:=h
def ZX{p:Prop}(h:p:=by unfold maxLen;omega):p:=h
def ZW{p:Prop}(h:p:=by rw[Zn];rfl):p:=h
def ZV{p:Prop}(h:p:=by unfold Addr.add;split<;>simp_all):p:=h
def ZU{p:Prop}(h:p:=by simp only[XY,Ze,YX,Nat.reduceAdd,Nat.reduceSub]<;>rfl):p:=h
def ZT{p:Prop}(h:p:=by first|(simp only[Zl,Zd,Za]<;>rfl)|rfl):p:=h
def ZS{p:Prop}(h:p:=by rw[WX,XB];omega):p:=h
def ZR{p:Prop}(h:p:=by rw[WN _ (by omega),Yc,XM (by omega)]):p:=h
def ZQ{p:Prop}(h:p:=by rw[Y9];omega):p:=h
def ZP{p:Prop}(h:p:=by assumption):p:=h
def ZO{p:Prop}(h:p:=by rw[Zn];omega):p:=h
def ZN{p:Prop}(h:p:=by rw[IntKind.wrap_u64];omega):p:=h
def ZM{p:Prop}(h:p:=by rw[Ze];omega):p:=h
def ZL{p:Prop}(h:p:=by split<;>assumption):p:=h
def ZK{p:Prop}(h:p:=by simpa[Y8]using·):p:=h
def ZJ{p:Prop}(h:p:=by simp[results,results80,go_sem];try rfl):p:=h
def ZI{p:Prop}(h:p:=by rw[Yc,XM (by omega)]):p:=h
def ZH{p:Prop}(h:p:=by rw[bne_iff_ne];omega):p:=h
def ZG{p:Prop}(h:p:=by rw[ByteArray.size_extract];omega):p:=h
def ZF{p:Prop}(h:p:=by rw[Y9,Y9];omega):p:=h
def ZE{p:Prop}(h:p:=by rw[<-UInt8.toNat_inj];apply propext;omega):p:=h
def ZD{p:Prop}(h:p:=by simp<;>omega):p:=h
def ZC{p:Prop}(h:p:=by show(0:Nat)≠1;omega):p:=h
def ZB{p:Prop}(h:p:=by rw[XX];omega):p:=h
def ZA{p:Prop}(h:p:=by rw[Zi];exact Zq _):p:=h
def Zz{p:Prop}(h:p:=by simp[results,results106,go_sem];try rfl):p:=h
def Zy{p:Prop}(h:p:=by rw[XZ];omega):p:=h
def Zx{p:Prop}(h:p:=by rw[run]):p:=h
def Zw{p:Prop}(h:p:=by simp[results,results99,go_sem];try rfl):p:=h
def Zv{p:Prop}(h:p:=by decide+kernel):p:=h
def Zu{p:Prop}(h:p:=by split<;>omega):p:=h
def Zt{p:Prop}(h:p:=by simp[go_sem]):p:=h
instance:Coe Int Value:=⟨.int .i64⟩
instance:Coe Nat Value:=⟨λn=>.int .i64 n⟩
instance:Coe ByteArray Value:=⟨.string⟩
instance:Coe Bool Value:=⟨.bool⟩
instance:Coe UInt32 Value:=⟨λv=>.int .u32 v.toNat⟩
instance:Coe World Nat:=⟨λw=>w.heap.size⟩
instance:Coe Nat Addr:=⟨λb=>⟨b,0,none⟩⟩
structure U9
def U8:U9:=⟨⟩
instance:Coe U9 Value:=⟨λ_=>.int .u32 0⟩
structure U7
def U6:U7:=⟨⟩
instance:Coe U7 Value:=⟨λ_=>.int .i64 0⟩
structure U5
def U4:U5:=⟨⟩
instance:Coe U5 Value:=⟨λ_=>.slice none 0 0⟩
structure U3
def U2:U3:=⟨⟩
instance:Coe U3 Value:=⟨λ_=>.string ⟨#[]⟩⟩
structure U1
def U0:U1:=⟨⟩
instance:CoeSort U1 Type:=⟨λ_=>World⟩
instance:Coe U1 Type:=⟨λ_=>World⟩
structure UZ
def UY:UZ:=⟨⟩
instance:CoeSort UZ Type:=⟨λ_=>Value⟩
instance:Coe UZ Type:=⟨λ_=>Value⟩
structure UX
def UW:UX:=⟨⟩
instance:CoeSort UX Type:=⟨λ_=>ByteArray⟩
instance:Coe UX Type:=⟨λ_=>ByteArray⟩
structure UU
def UT:UU:=⟨⟩
instance:CoeSort UU Type:=⟨λ_=>UInt32⟩
instance:Coe UU Type:=⟨λ_=>UInt32⟩
structure US
def UR:US:=⟨⟩
instance:CoeSort US Type:=⟨λ_=>Option Addr⟩
instance:Coe US Type:=⟨λ_=>Option Addr⟩
structure UQ
def UP:UQ:=⟨⟩
instance:CoeSort UQ Type:=⟨λ_=>Array Value⟩
instance:Coe UQ Type:=⟨λ_=>Array Value⟩
structure UO
def UN:UO:=⟨⟩
instance:CoeSort UO Type:=⟨λ_=>List Value⟩
instance:Coe UO Type:=⟨λ_=>List Value⟩
structure UM
def UL:UM:=⟨⟩
instance:CoeSort UM Type:=⟨λ_=>List UInt8⟩
instance:Coe UM Type:=⟨λ_=>List UInt8⟩
structure UK
def UJ:UK:=⟨⟩
instance:CoeSort UK Type:=⟨λ_=>List UInt32⟩
instance:Coe UK Type:=⟨λ_=>List UInt32⟩
structure UI
def UH:UI:=⟨⟩
instance:CoeSort UI Type:=⟨λ_=>Nat->Prop⟩
instance:Coe UI Type:=⟨λ_=>Nat->Prop⟩
structure UG
def UF:UG:=⟨⟩
instance:CoeSort UG Type:=⟨λ_=>TypeId⟩
instance:Coe UG Type:=⟨λ_=>TypeId⟩
structure UE
def UD:UE:=⟨⟩
instance:CoeFun UE (λ_=>FuncId->Array Value->World->(Ending->World->Prop)->Prop):=⟨λ_=>Calls Go.Proofs.Tryz.prog⟩
structure UC
def UB:UC:=⟨⟩
instance:CoeFun UC (λ_=>Nat->World->World->Prop):=⟨λ_=>Below⟩
instance:CoeFun World (λ_=>Addr->Option Value):=⟨World.cell?⟩
structure UA
def Uz:UA:=⟨⟩
instance:CoeFun UA (λ_=>Option Addr->Nat->Nat->Value):=⟨λ_=>.slice⟩
structure Uy
def Ux:Uy:=⟨⟩
instance:CoeFun Uy (λ_=>Option Addr->Value):=⟨λ_=>.pointer⟩
structure Uw
def Uv:Uw:=⟨⟩
instance:CoeFun Uw (λ_=>Value->Ending):=⟨λ_=>.returned⟩
structure Uu
def Ut:Uu:=⟨⟩
instance:CoeFun Uu (λ_=>Array Value->Value):=⟨λ_=>.tuple⟩
structure Ur
def Uq:Ur:=⟨⟩
instance:CoeFun Ur (λ_=>World->Obj->World):=⟨λ_=>World.alloc⟩
structure Up
def Uo:Up:=⟨⟩
instance:CoeFun Up (λ_=>World->Addr->Value->World):=⟨λ_=>World.setCell⟩
structure Un
def Um:Un:=⟨⟩
instance:Coe Un (Option Nat):=⟨λ_=>none⟩
instance{α:Type}:CoeOut (List α) Nat:=⟨List.length⟩
instance{α:Type}:CoeOut (Array α) Nat:=⟨Array.size⟩
instance:Coe ByteArray (List UInt8):=⟨λs=>s.data.toList⟩
instance:Coe ByteArray Nat:=⟨ByteArray.size⟩
instance:Coe UInt32 Nat:=⟨UInt32.toNat⟩
instance:Coe UInt8 Nat:=⟨UInt8.toNat⟩
section
def bv(a:UInt8):UY:=.int .u8 a.toNat
def wv(a:UT):UY:=a
def kN(w cs E):∀a b,cs.toList[a]?=some b->(Uq w<|.cells cs E) ((w:Addr).add a)=some b:=by intro a b d;have:(w:Addr).add a=⟨w,a,Um⟩:=ZV;rw[this,World.cell?_alloc_mark];simpa using d
def kQ{w W b B row}(e:(Uq w b).grownBy W row)(d:B<=w.heap.size)(f:∀a,row=some a->B<=a):UB B w W:=((Zo B w).alloc d b).grown e Z3 f
theorem fA{d ops rest e a o w cs E}(y:e.guard=none)(j k t)(G:e.op=.call {callee:=.builtin .append,args:=#[j,k],argTypes:=#[t,t]})(B l size bytes)(K:d.underlying t=some (.slice E))(C:(d.info? E).map (λi=>(i.zero,i.size,i.bytes))=some (some l,size,bytes))(P:l.cells=size)(J:0<size)(v n xs)(I:a.eval j=v)(q:w.ownsRow B E size v n xs)(m)(L:a.eval k=.slice w m m)(D:cs.toList=m*size)(s:∀R∈cs.toList,R.oneCell'=true)(x:(n+m)*bytes<=140737488355328)(S:n+m<=140737488355328)(u:B<=w.heap.size)(r:∀f w',w'.ownsRow B E size f (n+m) (xs++cs.toList)->UB B w w'->(∀b,b<w.heap.size->some b≠v.ownBlock->w'.heap[b]?=w.heap[b]?)->wpList d ops o rest (a.put e.dst f) w'):wpList d ops o (e::rest) a<|Uq w<|.cells cs E:=by obtain⟨Q,z,M,N,O⟩:=info_parts C;refine wpList_append_own _ y j k t G B E Q l size bytes K z M N O P J v n xs I (q.alloc _) w m m cs.toList L D (kN w cs E) s ZX x Z3 ?_;intro f w' H p _;refine r f w' H (kQ p u<|λb h=>(q.lt b h).1) (λb h F=>?_);rw[p.block b Z3 F];exact Xy w _ b h
def jI{e ops d a l r s W w cs E}(C:W=Uq w (.cells cs E))(F:d.guard=none)(i j t)(K:d.op=.call {callee:=.builtin .append,args:=#[i,j],argTypes:=#[t,t]})(B k size bytes)(N:e.underlying t=some (.slice E))(H:(e.info? E).map (λh=>(h.zero,h.size,h.bytes))=some (some k,size,bytes))(S:k.cells=size)(M:0<size)(v n xs)(L:a.eval i=v)(p:w.ownsRow B E size v n xs)(m)(O:a.eval j=Uz w m m)(I:cs.toList=m*size)(y:∀U∈cs.toList,U.oneCell'=true)(D:(n+m)*bytes<=140737488355328)(X:n+m<=140737488355328)(z:B<=w)(Y:0<m)(x:∀g c w',w'.ownsRow B E size (Uz (some ⟨g,0,Um⟩) (n+m) c) (n+m) (xs++cs.toList)->UB B w w'->(∀b,b<w.heap.size->some b≠v.ownBlock->w'.heap[b]?=w.heap[b]?)->l (a.put d.dst<|Uz g (n+m) c) w'):if Region.wanted d (yielded ops a.tmps)=true then Oper.wp e d a W l r else s:=by subst C;obtain⟨T,G,P,Q,R⟩:=info_parts H;rw[if_pos (by simp[Region.wanted,F])];refine wp_append_own _ i j t K B E T k size bytes N G P Q R S M v n xs L (p.alloc _) w m m cs.toList O I (kN w cs E) y ZX D Z3 ?_;intro Z w' q o _;obtain⟨_,V⟩|⟨g,u,cur,rfl,_⟩:=q.2;{omega};refine x g u w' q (kQ o z<|λb f=>(p.lt b f).1) (λb f J=>?_);rw[o.block b Z3 J];exact Xy w _ b f
def gJ{e ops b a f j k W}(p:b.guard=none)(i args h)(r:(execOp a.eval b).run e W=.ok (.enter i args) W)(o:Calls e i args W h)(l:∀d w',h d w'->∃v,d=Uv v/\f (a.put b.dst v) w'):if Region.wanted b (yielded ops a.tmps)=true then Oper.wp e b a W f j else k:=by rw[if_pos (by simp[Region.wanted,p])];unfold Oper.wp;rw[r,Oper.upon_enter];refine o.mono ?_;intro d w' m;obtain⟨v,rfl,q⟩:=l d w' m;exact q
def wpList_make_row{c}(w){s rest e d Q}(B:e.guard=none)(l f i)(H:e.op=Op.makeSlice i l f)(a b t h m)(x:c.underlying i=some (.slice b))(E:(c.info? b).map (λg=>(g.zero,g.size,g.bytes))=some (some t,h,m))(r q C)(n:Nat)(G:d.eval l=.int r 0)(A:d.eval f=.int q C)(y:C=(n:Int))(u:m*n<=281474976710656)(O:n<=281474976710656)(j:a<=w.heap.size)(z:∀v w',w'.ownsRow a b h v 0 []->UB a w w'->w.grownBy w' none->v.ownBlock=some w.heap.size->wpList c s Q rest (d.put e.dst v) w'):wpList c s Q (e::rest) d w:=by obtain⟨N,D,J,K,L⟩:=info_parts E;refine wpList_make_own w B l f i H a b N t h x D J K r q C n G A y (by rw[L];exact u) ZX j ?_;intro w' I o;exact z _ _ I ((Zo a w).grown o j<|λk F=>by cases F) o rfl
def ij{b w}{B E:Nat}{v n}(a:UL)(src d)(h:b.underlying src=some (.slice E))(f:b.underlying E=some (.int .u8))(hd:b.underlying d=some .string)(e:w.ownsRow B E 1 v n<|a.map bv):(convert src d v).run b w=.ok (.string ⟨a.toArray⟩) w:=by have m:a=n:=by{have:=e.1;simpa using this};subst m;obtain⟨rfl,j⟩|⟨g,i,cur,rfl,_⟩:=e.2;{obtain rfl:a=[]:=XR j;exact run_convert_bytes_nil w src E h f 0 0 d hd};{have k:=e.cells (g:=g) rfl;exact run_convert_bytes_back w src d E g i a h f hd<|λo l=>k o _ (by simp[Zh,Zp l,bv])}
def tP{a w}{f b:Nat}{v n}(l d c)(j:a.underlying d=some (.slice b))(h:a.underlying b=some (.int .u8))(g:a.underlying c=some .string)(i:w.ownsRow f b 1 v n<|l.map bv):∃e,(convert d c v).run a w=.ok (.string e) w/\Hid (e.data.toList=l):=⟨_,ij l d c j h g i,rfl⟩
def bN{w w'}{B E k n:Nat}{v xs}(a:w.ownsRow B E k v n xs){B'}(f:B'=w.heap.size)(h:UB B' w w'):w'.ownsRow B E k v n xs:=by subst f;refine⟨a.1,?_⟩;obtain e|⟨g,d,cur,j,i,b,l⟩:=a.2;{exact .inl e};{exact .inr ⟨g,d,cur,j,i,(h.block g (YW.1 b).1).trans b,l⟩}
def cI{w:U0}{B E k n:Nat}{v xs}(b:w.ownsRow B E k v n xs)(j:0<n):∃g c,v=Uz (some ⟨g,0,Um⟩) n c/\B<=g/\g<w/\n<=c:=by obtain⟨_,i⟩|⟨g,a,cur,f,d,e,h,_⟩:=b.2;{omega};{exact⟨g,a,f,d,(YW.1 e).1,h⟩}
section
variable{w:World}{B E g n c:Nat}{xs:List Value}
def Gr(b:w.ownsRow B E 1 (Uz g n c) n xs){k v}(d:xs[k]?=some v):w ⟨g,k,Um⟩=some v:=by have:=b.cells (g:=g) rfl k v d;have a:(g:Addr).add k=⟨g,k,Um⟩:=ZV;rwa[a]at this
end
def Sl(w:U0)(B:Nat)(A:UR)(n:Nat)(xs:UN):Prop:=xs=n/\(0<n->∃b off,A=some ⟨b,off,Um⟩/\b<B/\∀a d,xs[a]?=some d->w ⟨b,off+a,Um⟩=some d)
section
variable{w w':World}{B B' n:Nat}{A:Option Addr}{xs:List Value}
def Sl.aa(a:Sl w B A n xs)(h:UB B w w'):Sl w' B A n xs:=⟨a.1,λj=>by obtain⟨b,off,f,d,i⟩:=a.2 j;exact⟨b,off,f,d,λe l k=>(h.cell (p:=⟨b,off+e,Um⟩) d).trans<|i e l k⟩⟩
def Sl.aA(a:Sl w B A n xs)(h:B<=B'):Sl w B' A n xs:=⟨a.1,λf=>by obtain⟨b,off,d,i,e⟩:=a.2 f;exact⟨b,off,d,Z9,e⟩⟩
def Sl.at_(a:Sl w B A n xs){k}(j:k<n):∃b off e,A=some ⟨b,off,Um⟩/\b<B/\xs[k]?=some e/\w ⟨b,off+k,Um⟩=e:=by obtain⟨b,off,f,i,h⟩:=a.2 Z9;have d:k<xs:=by{have:=a.1;omega};exact⟨b,off,xs[k],f,i,Zp d,h k _<|Zp d⟩
def Sl.ai{l:UJ}(c:Sl w B A n<|l.map wv){k}(g):∃a b,A=some ⟨a,b,Um⟩/\a<B/\w ⟨a,b+k,Um⟩=some (.int .u32 l[k].toNat):=by have i:l=n:=by{simpa using c.1};obtain⟨a,b,j,e,h,d,f⟩:=c.at_ (k:=k) Z9;simp[Zh,Zp g,wv]at d;subst d;exact⟨a,b,e,h,f⟩
end
def Sl.vi{w}{B E:Nat}{v n xs}(a:w.ownsRow B E 1 v n xs):∃A c,v=Uz A n c/\n<=c/\c<=maxLen/\Sl w w A n xs:=by have d:xs=n:=by{have:=a.1;omega};obtain⟨rfl,rfl⟩|⟨g,k,cur,rfl,l,m,f,h,_⟩:=a.2;{exact⟨none,0,rfl,Zq _,ZX,d,λa=>absurd a Z9⟩};{refine⟨_,_,rfl,f,h,d,λo=>⟨g,0,rfl,(a.lt g rfl).2,λb j i=>?_⟩⟩;have:=a.cells (g:=g) rfl b j i;have e:(g:Addr).add b=⟨g,0+b,Um⟩:=ZV;rwa[e]at this}
def vx{d a b}(e:a=b):Ending.returned (.int d a)=Uv (.int d b):=by rw[e]
def ao{a b}(d:a=b):Ending.returned (.bool a)=Uv b:=by rw[d]
def cV{f h a b d e}(i:a=b)(j:d=e):Ending.returned (Ut #[.int f a,.int h d])=Uv (Ut #[.int f b,.int h e]):=by rw[i,j]
def E2{b:U0}{a j e}(c d)(h:b ⟨a,0,Um⟩=some j)(i:b ⟨a,1,Um⟩=some e):(Uo (Uo b a c) ⟨a,1,Um⟩ d) a=c/\(Uo (Uo b a c) ⟨a,1,Um⟩ d) ⟨a,1,Um⟩=d:=by have f:(Uo b a c) a=c:=World.cell?_setCell_same' _ _ _ (by rw[h];rfl);have g:(Uo b a c) ⟨a,1,Um⟩=e:=(World.cell?_setCell_other _ _ _ _ Z5).trans i;exact⟨(World.cell?_setCell_other _ _ _ _ Z5).trans f,World.cell?_setCell_same' _ _ _ (by rw[g];rfl)⟩
def re{w:U0}{B B' E k n:Nat}{v xs}(a:w.ownsRow B E k v n xs)(d:B'<=B):w.ownsRow B' E k v n xs:=by refine⟨a.1,?_⟩;obtain f|⟨g,b,cur,h,e,rest⟩:=a.2;{exact .inl f};{exact .inr ⟨g,b,cur,h,Zb d e,rest⟩}
def ag(w:U0)(g:Nat)(t:UF)(cs:UP):Prop:=w.heap[g]?=some (.cells cs t (0,0))
section
variable{w w':World}{g:Nat}{t:TypeId}{cs:Array Value}
def ag.lt(a:ag w g t cs):g<w:=(YW.1 a).1
def ag.cell(b:ag w g t cs)(a):w ⟨g,a,Um⟩=cs[a]?:=by simp[World.cell?,show w.heap[g]?=_ from b]
def ag.af(a:ag w g t cs)(b):w.frozen? ⟨g,b,Um⟩=false:=by simp[World.frozen?,show w.heap[g]?=_ from a]
def ag.aM(w t cs):ag (Uq w<|.cells cs t) w t cs:=heap_alloc_new w _
def ag.drew(a:ag w g t cs):ag w.drew g t cs:=a
def ag.alloc(a:ag w g t cs)(b):ag (Uq w b) g t cs:=(Xy w b g a.lt).trans a
theorem ag.set(a:ag w g t cs)(b d):ag (Uo w ⟨g,b,Um⟩ d) g t<|cs.setIfInBounds b d:=by unfold ag at a⊢;simp[World.setCell,Wp,a]
def ag.bV(b:ag w g t cs){p}(d:g≠p.block)(a):ag (Uo w p a) g t cs:=(Zk w p a g d).trans b
def ag.aa{B}(a:ag w g t cs)(b:UB B w w')(d:g<B):ag w' g t cs:=(b.block g d).trans a
def ag.bC{v}(a:ag w g t cs)(f:∀d,d<w.heap.size->some d≠v.ownBlock->w'.heap[d]?=w.heap[d]?){B E k n:Nat}{xs}(i:w.ownsRow B E k v n xs)(h:t≠E):ag w' g t cs:=by refine(f g a.lt<|λb=>?_).trans a;obtain⟨rfl,_⟩|⟨l,j,cur,rfl,_,e,_⟩:=i.2;{cases b};{cases b;unfold ag at a;rw[e]at a;injection a with a;injection a with _ a _;exact h a.symm}
def oy(a b:UW):(a++b).data.toList=a++b:=by simp[ByteArray.data_append]
end
def ir{s:UW}{a}(b:s.data.toList=a):s=⟨a.toArray⟩:=by cases s with|mk d=>subst b;simp
def kM{w w' a}(b:UB (Uq w a) (Uq w a) w'):UB w w w':=((Zo _ w).alloc (Zq _) a).trans<|b.mono Z5
end
section
open Go.ChangeShapes Go.WideShapes Go.ChangeAt Go.RowKit
open Go.ChangeMaps(open_string shut_string)
section
variable{H:Type}{enc:TypeId×Value->H}{P:Program}{w:World}{r:Reach}{b0:Nat}{t:TypeId}{v:Value}{d:DataW H}{ps:List MemPlace}{base:Nat}{spare:Nat->Bool}{held:Bool}
def MD(c:P.underlying t=some .string)(e:Value.okWide P w r b0 t v)(b:DataW.Trod enc P w base spare held t v d ps):∃a,v=.string a/\a<=maxLen:=by obtain⟨g,rfl,_,_,f⟩:=open_string c e b;exact⟨g,rfl,f⟩
end
end
def iw(c:Int)(a b:UT):UInt32×Int:=if b.toNat=0 then(0,14)else if c=7 then(a/b,0)else(a%b,0)
def As(c:Int)(a b:UT):UT:=if 31<b.toNat then 0 else if c=12 then UInt32.ofNat (a*2^b.toNat)else UInt32.ofNat (a/2^b.toNat)
def jU(c:Int)(a b:UT):UT:=if c=14 then(if a<b.toNat then 1 else 0)else if c=15 then(if a=b.toNat then 1 else 0)else 0
def Nz(c:Int)(a b:UT):UT:=if c=9 then a&&&b else if c=10 then a|||b else a^^^b
def bJ(c:Int)(a b:UT):UInt32×Int:=if c=4 then(a+b,0)else if c=5 then(a-b,0)else if c=6 then(a*b,0)else if c=7\/c=8 then iw c a b else if c=9\/c=10\/c=11 then(Nz c a b,0)else if c=12\/c=13 then(As c a b,0)else if c=14\/c=15 then(jU c a b,0)else(0,1)
def Ot(a b:UT):((a+b).toNat)=((a:Int)+b)%4294967296:=by rw[WJ];omega
def OB(a b:UT):((a-b).toNat)=((a:Int)-b)%4294967296:=by have c:=a.toNat_lt;have d:=b.toNat_lt;rw[UInt32.toNat_sub];omega
def Ox(a b:UT):((a*b).toNat)=((a:Int)*b)%4294967296:=by rw[UInt32.toNat_mul,<-VD];omega
def Hr(a b:UT):bits .and .u32 a b=((a&&&b)):=by rw[u32_and_nat _ _ a.toNat_lt b.toNat_lt,VU]
def Oy(a b:UT):bits .or .u32 a b=((a|||b)):=by rw[u32_or_nat _ _ a.toNat_lt b.toNat_lt,UInt32.toNat_or]
def OC(a b:UT):bits .xor .u32 a b=((a^^^b)):=by rw[u32_xor_nat _ _ a.toNat_lt b.toNat_lt,UInt32.toNat_xor]
def Ou(a b:UT):((a/b).toNat)=(a:Int)/b:=by rw[UInt32.toNat_div];omega
def MY(a b:UT):((a/b).toNat)=(a:Int)/b%4294967296:=by have c:=(a/b).toNat_lt;rw[<-Ou];omega
def Ov(a b:UT):((a%b).toNat)=(a:Int)%b:=by rw[UInt32.toNat_mod];omega
def Oz(a:UT)(b:Nat):((UInt32.ofNat<|a*2^b))=(a:Int)*2^b%4294967296:=by rw[Yc];show((a*2^b%4294967296:Nat):Int)=_;rw[Int.natCast_emod,VD,Int.natCast_pow];rfl
def OA(a:UT)(b:Nat):((UInt32.ofNat<|a/2^b))=(a:Int)/2^b:=by have c:=a.toNat_lt;have d:a/2^b<=a.toNat:=Nat.div_le_self _ _;rw[Yc,XM Z9,Int.natCast_ediv,Int.natCast_pow];rfl
section
inductive Ef(α:Type)where|nil:Ef α|cons(d:α)(kids rest:Ef α):Ef α
inductive Sf(α β:Type)where|nil:Sf α β|cons(d:β)(e:Ef α)(thn CM rest:Sf α β):Sf α β
namespace Ef
variable{α β:Type}
def len:Ef α->Nat|nil=>0|cons _ _ a=>a.len+1
def size:Ef α->Nat|nil=>0|cons _ a b=>a.size+b.size+1
def map(a:α->β):Ef α->Ef β|nil=>nil|cons b c d=>cons (a b) (c.map a)<|d.map a
theorem cu(a:α->β):∀c:Ef α,(c.map a).len=c.len|nil=>rfl|cons _ _ b=>by show(b.map a).len+1=b.len+1;rw[cu a b]
theorem size_map(a:α->β):∀d:Ef α,(d.map a).size=d.size|nil=>rfl|cons _ b c=>by show(b.map a).size+(c.map a).size+1=b.size+c.size+1;rw[size_map a b,size_map a c]
theorem b6:∀b:Ef α,b.len<=b.size|nil=>Zq _|cons _ c a=>by have:=b6 a;show a.len+1<=c.size+a.size+1;omega
def jP{e:Ef α}(a:e.len=0):e=nil:=by cases e with|nil=>rfl|cons c d b=>exact absurd a (by show b.len+1≠0;omega)
def mI{e:Ef α}(c:e.len=1):∃a b,e=cons a b nil:=by cases e with|nil=>simp[len]at c|cons a b d=>exact⟨a,b,by rw[jP (e:=d) (by have:d.len+1=1:=c;omega)]⟩
def xn{c:Ef α}(f:c.len=2):∃a d b e,c=cons a d (cons b e nil):=by cases c with|nil=>simp[len]at f|cons a d g=>obtain⟨b,e,rfl⟩:=mI (e:=g) (by have:g.len+1=2:=f;omega);exact⟨a,d,b,e,rfl⟩
end Ef
namespace Sf
variable{α β γ δ:Type}
def len:Sf α β->Nat|nil=>0|cons _ _ _ _ a=>a.len+1
def size:Sf α β->Nat|nil=>0|cons _ a d b c=>a.size+d.size+b.size+c.size+1
def map(a:α->γ)(b:β->δ):Sf α β->Sf γ δ|nil=>nil|cons c e t d f=>cons (b c) (e.map a) (t.map a b) (d.map a b)<|f.map a b
theorem size_map(a:α->γ)(b:β->δ):∀g:Sf α β,(g.map a b).size=g.size|nil=>rfl|cons _ f e c d=>by show(f.map a).size+(e.map a b).size+(c.map a b).size+(d.map a b).size+1=f.size+e.size+c.size+d.size+1;rw[Ef.size_map,size_map a b e,size_map a b c,size_map a b d]
end Sf
structure Rd where
 kind:Int
 op:Int
 num:UInt32
 loc:Bool
 n:Nat
structure Rs where
 kind:Int
 loc:Bool
 n:Nat
abbrev Re:=Ef Rd
abbrev Rb:=Sf Rd Rs
structure Mm where
 aq:List UInt32
 aj:List (List UInt32)
 rd:Nat
 out:List UInt8
 tk:Nat
inductive Rv(α:Type)where|ok(a:α)(s:Mm):Rv α|stop(e:Nat)(s:Mm):Rv α
def Rv.bind{α β}(e:Option<|Rv α)(d:α->Mm->Option (Rv β)):Option<|Rv β:=match e with|none=>none|some (.stop c b)=>some (.stop c b)|some (.ok a b)=>d a b
structure Rf where
 words:Nat
 body:Rb
structure Rc where
 fs:List Rf
 aE:List UInt8
 fuel:Nat
structure Mf where
 val:List UInt32->Rd->Re->Mm->Option (Rv UInt32)
 call:Nat->Re->List UInt32->Mm->Option (Rv UInt32)
 eG:Rb->List UInt32->Mm->Option (Rv<|List UInt32×Option UInt32)
 ej:Rs->Re->Rb->Rb->List UInt32->Mm->Option (Rv<|List UInt32×Option UInt32)
 nF:Re->Rb->List UInt32->Mm->Option (Rv<|List UInt32×Option UInt32)
def dG(b:Rc)(a:Mm):Rv Unit:=if a.tk<b.fuel then .ok () {a with tk:=a.tk+1}else .stop 5 a
def getM(b:Rc)(a:Mm):Rv UInt32:=match b.aE[a.rd]? with|none=>.ok 256 a|some c=>.ok (UInt32.ofNat c.toNat) {a with rd:=a.rd+1}
def lx(v:UT)(a:Mm):Rv Unit:=if a.out.length<65536 then .ok () {a with out:=a.out++[UInt8.ofNat v.toNat]}else .stop 4 a
def atM(a:Nat)(c:UT)(b:Mm):Option<|Rv UInt32:=match b.aj[a]? with|none=>none|some d=>match d[c.toNat]? with|none=>some (.stop 3 b)|some e=>some<|.ok e b
def DM(a:Nat)(c v:UT)(b:Mm):Mm:={b with aj:=b.aj.modify a λd=>d.set c.toNat v}
def argsM(b:Mf)(own:List UInt32):Re->Mm->Option (Rv<|List UInt32)|.nil,a=>some (.ok [] a)|.cons c d f,a=>Rv.bind (b.val own c d a) λv g=>Rv.bind (argsM b own f g) λe h=>some<|.ok (v::e) h
def doM(c:Mf):Rb->List UInt32->Mm->Option (Rv<|List UInt32×Option UInt32)|.nil,own,b=>some (.ok (own,none) b)|.cons e f j g i,own,b=>Rv.bind (c.ej e f j g own b) λh d=>match h with|(a,some v)=>some (.ok (a,some v) d)|(a,none)=>doM c i a d
def valM(l:Rc)(f:Mf)(own:UJ)(c:Rd)(kids:Re)(d:Mm):Option<|Rv UInt32:=if c.kind=1 then some (.ok c.num d)else if c.kind=2 then(if c.loc then own[c.n]?.map (.ok · d)else d.aq[c.n]?.map (.ok · d))else if c.kind=3 then(match kids with|.nil=>none|.cons a g _=>Rv.bind (f.val own a g d) λm e=>atM c.n m e)else if c.kind=4 then f.call c.n kids own d else if c.kind=5 then some (getM l d)else if c.kind=6 then(match kids with|.cons a g (.cons b i _)=>Rv.bind (f.val own a g d) λh e=>Rv.bind (f.val own b i e) λj k=>if(bJ c.op h j).2=0 then some (.ok (bJ c.op h j).1 k)else some (.stop 2 k)|_=>none)else if c.kind=7 then(match kids with|.nil=>none|.cons a g _=>Rv.bind (f.val own a g d) λv e=>some<|.ok (if v=0 then 1 else 0) e)else(match kids with|.cons a g (.cons b i _)=>Rv.bind (f.val own a g d) λh e=>if(decide<|h=0)=decide (c.kind=8)then some (.ok h e)else f.val own b i e|_=>none)
def callM(b:Rc)(c:Mf)(e:Nat)(args:Re)(own:UJ)(g:Mm):Option<|Rv UInt32:=match b.fs[e]? with|none=>none|some a=>if a.words<args.len then none else Rv.bind (argsM c own args g) λd h=>Rv.bind (some<|dG b h) λ_ i=>Rv.bind (c.eG a.body (d++List.replicate (a.words-d.length) 0) i) λf j=>some<|.ok (f.2.getD 0) j
def eB(e:Mf)(c:Rs)(h:Re)(k m:Rb)(own:UJ)(g:Mm):Option<|Rv<|List UInt32×Option UInt32:=if c.kind=1 then(match h with|.nil=>none|.cons a f _=>Rv.bind (e.val own a f g) λv d=>if c.loc then(if c.n<own.length then some (.ok (own.set c.n v,none) d)else none)else(if c.n<d.aq.length then some (.ok (own,none) {d with aq:=d.aq.set c.n v})else none))else if c.kind=2 then(match h with|.cons a f (.cons b l _)=>Rv.bind (e.val own a f g) λj d=>Rv.bind (e.val own b l d) λv i=>Rv.bind (atM c.n j i) λ_ n=>some (.ok (own,none)<|DM c.n j v n)|_=>none)else if c.kind=3 then(match h with|.nil=>none|.cons a f _=>Rv.bind (e.val own a f g) λv d=>Rv.bind (some<|lx v d) λ_ i=>some<|.ok (own,none) i)else if c.kind=4 then(match h with|.nil=>none|.cons a f _=>Rv.bind (e.val own a f g) λv d=>if v=0 then e.eG m own d else e.eG k own d)else if c.kind=5 then e.nF h k own g else if c.kind=6 then Rv.bind (e.call c.n h own g) λ_ d=>some (.ok (own,none) d)else if c.kind=7 then(match h with|.nil=>some (.ok (own,some 0) g)|.cons a f _=>Rv.bind (e.val own a f g) λv d=>some<|.ok (own,some v) d)else some (.ok (own,none) g)
def jD(h:Rc)(b:Mf)(d:Re)(g:Rb)(own:UJ)(k:Mm):Option<|Rv<|List UInt32×Option UInt32:=match d with|.nil=>none|.cons a i _=>Rv.bind (some<|dG h k) λ_ l=>Rv.bind (b.val own a i l) λv e=>if v=0 then some (.ok (own,none) e)else Rv.bind (b.eG g own e) λj f=>match j with|(c,some v)=>some (.ok (c,some v) f)|(c,none)=>b.nF d g c f
def Mf.up(b:Rc)(a:Mf):Mf:=⟨valM b a,callM b a,doM a,eB a,jD b a⟩
def Mf.zero:Mf:=⟨λ_ _ _ _=>none,λ_ _ _ _=>none,λ_ _ _=>none,λ_ _ _ _ _ _=>none,λ_ _ _ _=>none⟩
def mfn(a:Rc):Nat->Mf|0=>.zero|n+1=>(mfn a n).up a
def m0(b:Nat)(c:List Nat):Mm:=⟨List.replicate b 0,c.map λa=>List.replicate a 0,0,[],0⟩
def Wv:=@Ef.b6
def We:=@Sf.size_map
def VB:=@Ef.mI
def Vn:=@Ef.jP
def Vm:=@Ef.cu
def Vb:=@Ef.xn
end
section
def cM{α:Type}(cs:α->List Value)(w:World)(P:Nat->Prop):Ef α->Nat->Nat->Prop|.nil,_,_=>True|.cons c d j,b,off=>(∀f h,(cs c)[f]?=some h->w.cell? ⟨b,off+f,none⟩=some h)/\(∃e i,w.cell? ⟨b,off+(cs c).length,none⟩=some (.slice e d.len i)/\(0<d.len->∃a g,e=some ⟨a,g,none⟩/\P a/\cM cs w P d a g))/\cM cs w P j b (off+((cs c).length+1))
def bg{α}(cs:α->List Value)(w:U0)(P:UH)(d:UR)(a:Ef α):Prop:=0<a.len->∃b c,d=some ⟨b,c,Um⟩/\P b/\cM cs w P a b c
def cR{α β:Type}(cs:α->List Value)(ds:β->List Value)(w:World)(P:Nat->Prop):Sf α β->Nat->Nat->Prop|.nil,_,_=>True|.cons e i h g l,b,off=>(∀j k,(ds e)[j]?=some k->w.cell? ⟨b,off+j,none⟩=some k)/\(∃a d,w.cell? ⟨b,off+(ds e).length,none⟩=some (.slice a i.len d)/\bg cs w P a i)/\(∃a d,w.cell? ⟨b,off+((ds e).length+1),none⟩=some (.slice a h.len d)/\(0<h.len->∃c f,a=some ⟨c,f,none⟩/\P c/\cR cs ds w P h c f))/\(∃a d,w.cell? ⟨b,off+((ds e).length+2),none⟩=some (.slice a g.len d)/\(0<g.len->∃c f,a=some ⟨c,f,none⟩/\P c/\cR cs ds w P g c f))/\cR cs ds w P l b (off+((ds e).length+3))
def a9{α β}(cs:α->List Value)(ds:β->List Value)(w:U0)(P:UH)(d:UR)(a:Sf α β):Prop:=0<a.len->∃b c,d=some ⟨b,c,Um⟩/\P b/\cR cs ds w P a b c
section
variable{α β:Type}{cs:α->List Value}{ds:β->List Value}{w w':World}{P Q:Nat->Prop}
theorem cM.ay(d:∀b,P b->w'.heap[b]?=w.heap[b]?)(e:∀b,P b->Q b):∀(f)(b off),P b->cM cs w P f b off->cM cs w' Q f b off|.nil,_,_,_,_=>trivial|.cons y u v,b,off,g,⟨n,⟨k,l,o,p⟩,q⟩=>by have i:∀a,w' ⟨b,a,Um⟩=w ⟨b,a,Um⟩:=λa=>by{unfold World.cell?;rw[d b g]};refine⟨λa x t=>(i _).trans<|n a x t,⟨k,l,(i _).trans o,λs=>?_⟩,cM.ay d e v b _ g q⟩;obtain⟨c,j,m,h,r⟩:=p s;exact⟨c,j,m,e c h,cM.ay d e u c j h r⟩
def bg.ay{A a}(hF:bg cs w P A a)(g:∀b,P b->w'.heap[b]?=w.heap[b]?)(c:∀b,P b->Q b):bg cs w' Q A a:=λi=>by obtain⟨b,e,f,d,h⟩:=hF i;exact⟨b,e,f,c b d,cM.ay g c a b e d h⟩
theorem cR.ay(d:∀b,P b->w'.heap[b]?=w.heap[b]?)(c:∀b,P b->Q b):∀(l)(b off),P b->cR cs ds w P l b off->cR cs ds w' Q l b off|.nil,_,_,_,_=>trivial|.cons G h E C D,b,off,m,⟨s,⟨n,q,t,u⟩,⟨o,c2,v,x⟩,⟨p,r,y,z⟩,A⟩=>by have i:∀f,w' ⟨b,f,Um⟩=w ⟨b,f,Um⟩:=λf=>by{unfold World.cell?;rw[d b m]};refine⟨λf F B=>(i _).trans<|s f F B,⟨n,q,(i _).trans t,u.ay d c⟩,⟨o,c2,(i _).trans v,λk=>?_⟩,⟨p,r,(i _).trans y,λk=>?_⟩,cR.ay d c D b _ m A⟩;{obtain⟨a,g,h,e,j⟩:=x k;exact⟨a,g,h,c a e,cR.ay d c E a g e j⟩};{obtain⟨a,g,h,e,j⟩:=z k;exact⟨a,g,h,c a e,cR.ay d c C a g e j⟩}
def a9.ay{A a}(hF:a9 cs ds w P A a)(g:∀b,P b->w'.heap[b]?=w.heap[b]?)(c:∀b,P b->Q b):a9 cs ds w' Q A a:=λi=>by obtain⟨b,e,f,d,h⟩:=hF i;exact⟨b,e,f,c b d,cR.ay g c a b e d h⟩
def bg.nil{A}:bg cs w P A .nil:=λa=>absurd a<|Yf 0
def a9.nil{A}:a9 cs ds w P A .nil:=λa=>absurd a<|Yf 0
def bg.aa{n A c}(hF:bg cs w (·<n) A c)(d:UB n w w'):bg cs w' (·<n) A c:=hF.ay (λb a=>d.block b a)<|λ_ a=>a
def a9.aa{n A c}(hF:a9 cs ds w (·<n) A c)(d:UB n w w'):a9 cs ds w' (·<n) A c:=hF.ay (λb a=>d.block b a)<|λ_ a=>a
def cM.aa{n c b k}(hF:cM cs w (·<n) c b k)(a:b<n)(d:UB n w w'):cM cs w' (·<n) c b k:=cM.ay (λb a=>d.block b a) (λ_ a=>a) c b k a hF
def cR.aa{n c b k}(hF:cR cs ds w (·<n) c b k)(a:b<n)(d:UB n w w'):cR cs ds w' (·<n) c b k:=cR.ay (λb a=>d.block b a) (λ_ a=>a) c b k a hF
def bg.aA{n k A a}(hF:bg cs w (·<n) A a)(b:n<=k):bg cs w (·<k) A a:=hF.ay (λ_ _=>rfl)<|λ_ c=>Zj c b
def a9.aA{n k A a}(hF:a9 cs ds w (·<n) A a)(b:n<=k):a9 cs ds w (·<k) A a:=hF.ay (λ_ _=>rfl)<|λ_ c=>Zj c b
end
structure Ed where
 kind:Int
 op:Int
 num:UInt32
 name:ByteArray
structure Sd where
 kind:Int
 name:ByteArray
abbrev Ee:=Ef Ed
abbrev Es:=Sf Ed Sd
def cy(a:Ed):UN:=[a.kind,a.op,a.num,a.name]
def gd(a:Sd):UN:=[a.kind,a.name]
def jn(a:Ed)(b:UR)(d c:Nat):UY:=.agg #[a.kind,a.op,a.num,a.name,Uz b d c]
def DK(a:Sd)(b:UR)(g e:Nat)(c:UR)(h c2:Nat)(d:UR)(i f:Nat):UY:=.agg #[a.kind,a.name,Uz b g e,Uz c h c2,Uz d i f]
section
variable{w:World}{P:Nat->Prop}
def Ee.cells{c}{d f:Ee}{b off}(a:cM cy w P (.cons c d f) b off):w ⟨b,off,Um⟩=c.kind/\w ⟨b,off+1,Um⟩=c.op/\w ⟨b,off+2,Um⟩=c.num/\w ⟨b,off+3,Um⟩=c.name/\(∃e h,w ⟨b,off+4,Um⟩=some (Uz e d.len h)/\bg cy w P e d)/\cM cy w P f b (off+5):=⟨a.1 0 _ rfl,a.1 1 _ rfl,a.1 2 _ rfl,a.1 3 _ rfl,a.2.1,a.2.2⟩
def Es.cells{e}{f:Ee}{i h j:Es}{b off}(c:cR cy gd w P (.cons e f i h j) b off):w ⟨b,off,Um⟩=e.kind/\w ⟨b,off+1,Um⟩=e.name/\(∃a d,w ⟨b,off+2,Um⟩=some (Uz a f.len d)/\bg cy w P a f)/\(∃a d,w ⟨b,off+3,Um⟩=some (Uz a i.len d)/\a9 cy gd w P a i)/\(∃a d,w ⟨b,off+4,Um⟩=some (Uz a h.len d)/\a9 cy gd w P a h)/\cR cy gd w P j b (off+5):=⟨c.1 0 _ rfl,c.1 1 _ rfl,c.2.1,c.2.2.1,c.2.2.2.1,c.2.2.2.2⟩
end
def D':List<|List UInt8:=[[118,97,114],[97,114,114,97,121],[102,117,110,99],[119,111,114,100],[105,102],[101,108,115,101],[119,104,105,108,101],[114,101,116,117,114,110],[112,117,116],[103,101,116]]
def jq(a:UInt8):Bool:=decide<|(97<=a.toNat/\a.toNat<=122)\/(65<=a.toNat/\a.toNat<=90)
def jm(a:UInt8):Bool:=decide (48<=a.toNat/\a.toNat<=57)
def oW(a:UInt8):Bool:=jq a||jm a||decide (a.toNat=95)
def C9(b:UL):Bool:=D'.any λa=>decide<|a=b
def bL(a:UL):Bool:=decide (a≠[])&&decide (a.length<=20)&&(a.head?.any jq)&&a.all oW&& !C9 a
def VT:=@Ee.cells
def VS:=@Es.cells
end
def IY:(prog.info? 5).map (λa=>(a.zero,a.size,a.bytes))=some (some<|.int .u8 0,1,1):=Z7
def mF:(prog.info? 69).map (λa=>(a.zero,a.size,a.bytes))=some (some<|.int .u32 0,1,4):=Z7
def jB(a b):UD 198 #[.int .u8 a.toNat] b λc d=>c=Uv (jq a)/\b=d:=by have i:=a.toNat_lt;by_cases e:97<=a.toNat;{by_cases f:(a.toNat:Int)<=122;{go_enter func198,ntmps198;go_wp2;go_returns;exact⟨ao (by unfold jq;exact(decide_eq_true Z9).symm),rfl⟩};{have j:decide ((a:Int)<=90)=false:=decide_eq_false Z9;go_enter func198,ntmps198;go_wp2;go_returns;exact⟨ao (by unfold jq;exact(decide_eq_false Z9).symm),rfl⟩}};{by_cases g:(65:Int)<=a.toNat;{by_cases h:(a.toNat:Int)<=90;{go_enter func198,ntmps198;go_wp2;go_returns;exact⟨ao (by unfold jq;exact(decide_eq_true Z9).symm),rfl⟩};{go_enter func198,ntmps198;go_wp2;go_returns;exact⟨ao (by unfold jq;exact(decide_eq_false Z9).symm),rfl⟩}};{go_enter func198,ntmps198;go_wp2;go_returns;exact⟨ao (by unfold jq;exact(decide_eq_false Z9).symm),rfl⟩}}
def kJ(a b):UD 195 #[.int .u8 a.toNat] b λc d=>c=Uv (jm a)/\b=d:=by have g:=a.toNat_lt;by_cases e:48<=a.toNat;{by_cases f:(a:Int)<=57;{go_enter func195,ntmps195;go_wp2;go_returns;exact⟨ao (by unfold jm;exact(decide_eq_true Z9).symm),rfl⟩};{go_enter func195,ntmps195;go_wp2;go_returns;exact⟨ao (by unfold jm;exact(decide_eq_false Z9).symm),rfl⟩}};{go_enter func195,ntmps195;go_wp2;go_returns;exact⟨ao (by unfold jm;exact(decide_eq_false Z9).symm),rfl⟩}
def nC(a h):UD 200 #[.int .u8 a.toNat] h λb e=>b=Uv (oW a)/\h=e:=by have k:=a.toNat_lt;unfold oW;obtain⟨j,d⟩:=Z'<|jq a;obtain⟨i,c⟩:=Z'<|jm a;have g:=Zs<|jB a;have f:=Zs<|kJ a;rw[d]at g;rw[c]at f;rw[d,c];clear d c;cases j<;>cases i;all_goals go_enter func200,ntmps200;go_wp2_with(first|(go_at_call 198;refine(g.out _).mono ?_;rintro b e⟨rfl,rfl⟩)|(go_at_call 195;refine(f.out _).mono ?_;rintro b e⟨rfl,rfl⟩));(all_goals go_returns);all_goals exact⟨ao (by first|rfl|(rw[XU];simp;omega)),rfl⟩
def Lg(a:Nat):UW:=⟨(D'.getD a []).toArray⟩
def iM(b:U0):Prop:=1<b.heap.size/\∀a,a<10->b ⟨1,a,Um⟩=(Lg a)
def iM.aa{w w'}(a:iM w)(b:UB w w w'):iM w':=⟨by have:=b.size;have:=a.1;omega,λc d=>(b.cell (p:=⟨1,c,Um⟩) a.1).trans<|a.2 c d⟩
def LY(c a)(e:a<10):(D'.drop a).any (λb=>decide<|b=c)=(decide ((Lg a)=c)||(D'.drop<|a+1).any (λb=>decide<|b=c)):=by have d:a<D':=e;rw[Yz d,Vp];congr 2;unfold Lg;rw[YS,Zp d];rfl
def jz(a b:UW):(a.toList==b.toList)=decide (a=b.data.toList):=by rw[Lib.toList_data,Lib.toList_data,XU,beq_iff_eq,decide_eq_true_iff]
def nD(b d)(j:iM d):UD 202 #[.string b] d λi l=>i=Uv (C9 b)/\d=l:=by go_enter func202,ntmps202;go_wp2;go_loop[4](λc=>∃a:Nat,a<=10/\c=a/\Hid (C9 b.data.toList=(D'.drop a).any (λk=>decide<|k=b.data.toList)))(λc=>10-(intOf c).toNat);(case atStart=>exact⟨0,Z9,rfl,Zs rfl⟩);case round=>obtain⟨a,p,rfl,h⟩:=hrel;by_cases g:a<10;{have o:=j.2 a g;have m:a<10:=Z9;have n:0<=a:=Z9;have f:=Zs<|h.out.trans<|LY b.data.toList a g;have e:=Zs<|jz (Lg a) b;cases hq:((Lg a).toList==b.toList)with|true=>go_wp2;go_returns;exact⟨ao (by rw[f.out,<-e.out,hq];rfl),rfl⟩|false=>go_wp2;go_round;(case rel=>exact⟨a+1,Z9,Z1,Zs (by rw[f.out,<-e.out,hq];rfl)⟩);case measure=>simp[intOf];omega};{obtain rfl:a=10:=Z9;go_wp2;go_returns;exact⟨ao h.out.symm,rfl⟩}
theorem iJ(c):∀(a:UL)b,(∀e,e<b->∀d,c a[e]=true)->b<=a.length->(∀d,c a[b]=false)->a.takeWhile c=a.take b|[],b,_,l,_=>by simp|x::a,0,_,_,g=>by have f:c x=false:=g<|Xm _;simp[f]|x::a,b+1,h,j,g=>by have i:=h 0 (Xm _)<|Xm _;have f:c x=true:=i;rw[Xb,if_pos f,WC,iJ c a b (λe k d=>h (e+1) (VR k)<|VR d) (Nat.le_of_succ_le_succ j) (λd=>g<|VR d)]
def iB(a)(i:Nat)(f)(hF:∀(r)d,UD i #[.int .u8 r.toNat] d λe h=>e=Uv (f r)/\d=h)(y:∀(args)d,(callFunc i args).run prog d=.ok (.enter i args) d)(d)(C:a.size<=1000000000000):UD 120 #[.string a,.func (.func i) #[] #[]] d λe h=>(∃u,e=Uv (.string u)/\Hid (u=a.data.toList.takeWhile f))/\d=h:=by have v:=Zs hF;clear hF;go_enter func120,ntmps120;go_wp2_with fail;go_loop[5](λn=>∃b:Nat,b<=a.size/\n=b/\Hid (∀c,c<b->∀g:c<a.data.toList.length,f a.data.toList[c]=true))(λn=>a.size-(intOf n).toNat);(case atStart=>exact⟨0,Z9,rfl,Zs<|λc s=>absurd s<|YK c⟩);case round=>obtain⟨b,B,rfl,m⟩:=hrel;by_cases k:b<a.size;{obtain⟨o,w⟩:=Z'<|a[b];have t:a.data.toList[b]'k=o:=w;have q:=Zs t;clear t;have z:b<a.size:=Z9;have A:0<=b:=Z9;have j:=Zs<|v.out o;obtain⟨x,l⟩:=Z'<|f o;have p:=Zs l;rw[l]at j;clear l;cases x with|true=>go_wp2_with fail;refine(j.out _).mono ?_;rintro e h⟨rfl,rfl⟩;go_wp2_with fail;go_round;(case rel=>refine⟨b+1,k,Z1,Zs λc s g=>?_⟩;by_cases e:c=b;{subst e;rw[q.out];exact p.out};{exact m.out c Z9 g});case measure=>simp[intOf];omega|false=>go_wp2_with fail;refine(j.out _).mono ?_;rintro e h⟨rfl,rfl⟩;go_wp2;go_returns;refine⟨⟨_,rfl,Zs ?_⟩,rfl⟩;rw[iJ f a.data.toList b m.out (YT k) (λg=>by rw[q.out];exact p.out),Lib.extract_data];simp};{obtain rfl:b=a.size:=Z9;go_wp2;go_returns;refine⟨⟨_,rfl,Zs ?_⟩,rfl⟩;rw[iJ f a.data.toList a.size m.out (Zq _) (λg=>absurd g<|Yf _)];exact(Y2<|Zq _).symm}
theorem lG(d):∀b:UL,b.takeWhile d=b↔b.all d=true|[]=>by simp|x::b=>by have e:=lG d b;rw[Xb,Wf,Y1,<-e];by_cases c:d x=true;{rw[if_pos c];exact⟨λa=>⟨c,(List.cons.inj a).2⟩,λa=>by rw[a.2]⟩};{rw[if_neg c];exact⟨λa=>(by cases a),λa=>absurd a.1 c⟩}
def AB(a r)(C:iM r):UD 126 #[.string a] r λd e=>d=Uv (bL a)/\r=e:=by by_cases c:a.data.toList=[];{have p:a.toList=[]:=by{rw[Lib.toList_data];exact c};have h:(!a.toList.isEmpty)=false:=by{rw[p];rfl};have b:Hid<|bL a.data.toList=false:=Zs (by rw[c];rfl);clear c p;go_enter func126,ntmps126;go_wp2;go_returns;exact⟨ao b.out.symm,rfl⟩};have p:(!a.toList.isEmpty)=true:=by{rw[Lib.toList_data];cases m:a.data.toList with|nil=>exact absurd m c|cons _ _=>rfl};by_cases x:20<a.data.toList.length;{have h:¬(a.size:Int)<=20:=by{have:a.size=a.data.toList.length:=rfl;omega};have I:decide ((a.size:Int)<=20)=false:=decide_eq_false h;have b:Hid<|bL a.data.toList=false:=Zs (by unfold bL;rw[decide_eq_false (show¬a.data.toList.length<=20 by omega)];simp);clear c x h;go_enter func126,ntmps126;go_wp2;go_returns;exact⟨ao b.out.symm,rfl⟩};have D:a.size=a.data.toList.length:=rfl;have z:a.size<=1000000000000:=Z9;have y:0<a.data.toList.length:=by{cases m:a.data.toList with|nil=>exact absurd m c|cons _ _=>exact Xm _};have h:a.size<=20:=Z9;have J:0<a.size:=Z9;have K:0<a.size:=Z9;obtain⟨s,E⟩:=Z'<|a[0];have o:a.data.toList.head?=s:=by{rw[VM,Zp y];exact congrArg some E};obtain⟨w,k⟩:=Z'<|jq s;have g:=Zs<|jB s;rw[k]at g;have b:Hid<|bL a.data.toList=(w&&(a.data.toList.all oW&& !C9 a.data.toList)):=Zs (by unfold bL;rw[decide_eq_true c,decide_eq_true (show a.data.toList.length<=20 by omega),o];simp[k,Yr]);have H:=Zs o;have G:=Zs c;clear k o c x D y;cases w with|false=>go_enter func126,ntmps126;go_wp2_with(go_at_call 198;refine(g.out _).mono ?_;rintro d e⟨rfl,rfl⟩);go_returns;exact⟨ao b.out.symm,rfl⟩|true=>have u:=Zs<|iB a 200 oW nC<|λ_ _=>Z7;have t:Hid<|(a.data.toList.takeWhile oW=a.data.toList)↔a.data.toList.all oW=true:=Zs<|lG oW a.data.toList;by_cases f:a.data.toList.all oW=true;{have v:=Zs<|nD a;obtain⟨A,l⟩:=Z'<|C9 a.data.toList;rw[l]at v;have j:Hid<|bL a.data.toList= !A:=Zs (by rw[b.out,f,l];rfl);have i:=Zs f;clear f l b;go_enter func126,ntmps126;go_wp2_with(go_at_call 198;refine(g.out _).mono ?_;rintro d e⟨rfl,rfl⟩);refine(u.out _ z).mono ?_;rintro d e⟨⟨q,rfl,n⟩,rfl⟩;have F:(q.toList==a.toList)=true:=by{rw[jz,n.out];exact decide_eq_true<|t.out.2 i.out};go_wp2_with(go_at_call 202;refine(v.out _ C).mono ?_;rintro d e⟨rfl,rfl⟩);go_returns;exact⟨ao j.out.symm,rfl⟩};{have j:Hid<|bL a.data.toList=false:=Zs (by rw[b.out,V0.2 f];simp);have i:=Zs f;clear f b;go_enter func126,ntmps126;go_wp2_with(go_at_call 198;refine(g.out _).mono ?_;rintro d e⟨rfl,rfl⟩);refine(u.out _ z).mono ?_;rintro d e⟨⟨q,rfl,n⟩,rfl⟩;have F:(q.toList==a.toList)=false:=by{rw[jz,n.out];exact decide_eq_false<|λB=>i.out<|t.out.1 B};go_wp2;go_returns;exact⟨ao j.out.symm,rfl⟩}
def uX(a):UD 74 #[.string ⟨#[118,97,114]⟩] a λb c=>b=.returned false/\a=c:=by go_enter func74,ntmps74;go_wp2;go_returns;exact⟨rfl,rfl⟩
def qM(a):UD 74 #[.string ⟨#[97,114,114,97,121]⟩] a λb c=>b=.returned false/\a=c:=by go_enter func74,ntmps74;go_wp2;go_returns;exact⟨rfl,rfl⟩
def sA(a):UD 74 #[.string ⟨#[102,117,110,99]⟩] a λb c=>b=.returned false/\a=c:=by go_enter func74,ntmps74;go_wp2;go_returns;exact⟨rfl,rfl⟩
def sB(a):UD 74 #[.string ⟨#[119,111,114,100]⟩] a λb c=>b=.returned false/\a=c:=by go_enter func74,ntmps74;go_wp2;go_returns;exact⟨rfl,rfl⟩
def xw(a):UD 74 #[.string ⟨#[105,102]⟩] a λb c=>b=.returned false/\a=c:=by go_enter func74,ntmps74;go_wp2;go_returns;exact⟨rfl,rfl⟩
def sx(a):UD 74 #[.string ⟨#[101,108,115,101]⟩] a λb c=>b=.returned false/\a=c:=by go_enter func74,ntmps74;go_wp2;go_returns;exact⟨rfl,rfl⟩
def qN(a):UD 74 #[.string ⟨#[119,104,105,108,101]⟩] a λb c=>b=.returned false/\a=c:=by go_enter func74,ntmps74;go_wp2;go_returns;exact⟨rfl,rfl⟩
def o7(a):UD 74 #[.string ⟨#[114,101,116,117,114,110]⟩] a λb c=>b=.returned false/\a=c:=by go_enter func74,ntmps74;go_wp2;go_returns;exact⟨rfl,rfl⟩
def uW(a):UD 74 #[.string ⟨#[112,117,116]⟩] a λb c=>b=.returned false/\a=c:=by go_enter func74,ntmps74;go_wp2;go_returns;exact⟨rfl,rfl⟩
def uV(a):UD 74 #[.string ⟨#[103,101,116]⟩] a λb c=>b=.returned false/\a=c:=by go_enter func74,ntmps74;go_wp2;go_returns;exact⟨rfl,rfl⟩
def gy(b c)(i:iM c):UD 74 #[.string b] c λe g=>e=.returned (bL b.data.toList)/\c=g:=by by_cases a:C9 b.data.toList=true;{have k:bL b.data.toList=false:=by{unfold bL;rw[a];simp};rw[k];unfold C9 D' at a;simp only[Vp,List.any_nil,Bool.or_false,VC,decide_eq_true_iff]at a;obtain a|a|a|a|a|a|a|a|a|a:=a;{rw[ir a.symm];exact uX c};{rw[ir a.symm];exact qM c};{rw[ir a.symm];exact sA c};{rw[ir a.symm];exact sB c};{rw[ir a.symm];exact xw c};{rw[ir a.symm];exact sx c};{rw[ir a.symm];exact qN c};{rw[ir a.symm];exact o7 c};{rw[ir a.symm];exact uW c};{rw[ir a.symm];exact uV c}};{have h:=Zs<|AB b c i;have d:∀f∈D',b.data.toList≠f:=λf j e=>a<|List.any_eq_true.2 ⟨f,j,decide_eq_true e.symm⟩;have l:(b.toList==([118,97,114]))=false:=by{rw[Lib.toList_data,beq_eq_false_iff_ne];exact d _ Z8};have m:(b.toList==([97,114,114,97,121]))=false:=by{rw[Lib.toList_data,beq_eq_false_iff_ne];exact d _ Z8};have n:(b.toList==([102,117,110,99]))=false:=by{rw[Lib.toList_data,beq_eq_false_iff_ne];exact d _ Z8};have o:(b.toList==([119,111,114,100]))=false:=by{rw[Lib.toList_data,beq_eq_false_iff_ne];exact d _ Z8};have p:(b.toList==([105,102]))=false:=by{rw[Lib.toList_data,beq_eq_false_iff_ne];exact d _ Z8};have q:(b.toList==([101,108,115,101]))=false:=by{rw[Lib.toList_data,beq_eq_false_iff_ne];exact d _ Z8};have r:(b.toList==([119,104,105,108,101]))=false:=by{rw[Lib.toList_data,beq_eq_false_iff_ne];exact d _ Z8};have s:(b.toList==([114,101,116,117,114,110]))=false:=by{rw[Lib.toList_data,beq_eq_false_iff_ne];exact d _ Z8};have t:(b.toList==([112,117,116]))=false:=by{rw[Lib.toList_data,beq_eq_false_iff_ne];exact d _ Z8};have u:(b.toList==([103,101,116]))=false:=by{rw[Lib.toList_data,beq_eq_false_iff_ne];exact d _ Z8};clear a d;go_enter func74,ntmps74;go_wp2_with(go_at_call 126;refine h.out.mono ?_;rintro e g⟨rfl,rfl⟩);go_returns;exact⟨rfl,rfl⟩}
def tv(a:UW):UY:=a
def ji(a:List ByteArray)(o r e)(t:iM e)(s:Sl e e o a.length<|a.map tv)(A:a.length<=1000000000000):UD 73 #[.slice o a.length r] e λi m=>i=.returned (a.all λd=>bL d.data.toList)/\e=m:=by go_enter func73,ntmps73;go_wp2_with fail;go_loop[7](λl=>∃c:Nat,c<=a.length/\l=c/\Hid ((a.all λd=>bL d.data.toList)=((a.drop c).all λd=>bL d.data.toList)))(λl=>a.length-(intOf l).toNat);(case atStart=>exact⟨0,Zc _,rfl,Zs rfl⟩);case round=>obtain⟨c,z,rfl,q⟩:=hrel;by_cases j:c<a.length;{obtain⟨b,off,x,rfl,y,f,u⟩:=s.at_ (k:=c) j;have v:x=a[c]:=by{rw[Zh,Zp j]at f;injection f with f;exact f.symm};subst v;obtain⟨n,k⟩:=Z'<|a[c];have g:Hid<|(a.all λd=>bL d.data.toList)=(bL n.data.toList&&((a.drop<|c+1).all λd=>bL d.data.toList)):=Zs (by rw[q.out,Yz j,Wf,k]);rw[k]at u;have h:=Zs<|gy n e t;obtain⟨w,p⟩:=Z'<|bL n.data.toList;rw[p]at h g;clear p k f;cases w with|true=>go_wp2_with(go_at_call 74;refine h.out.mono ?_;rintro i m⟨rfl,rfl⟩);go_round;(case rel=>exact⟨c+1,Z9,Z1,Zs (by rw[g.out];rfl)⟩);case measure=>simp[intOf];omega|false=>go_wp2_with(go_at_call 74;refine h.out.mono ?_;rintro i m⟨rfl,rfl⟩);go_returns;exact⟨ao (by rw[g.out];rfl),rfl⟩};{obtain rfl:c=a.length:=Z9;go_wp2;go_returns;exact⟨ao (by rw[q.out,XT];rfl),rfl⟩}
def Lm(named:Bool)(a:UL):Bool:=if named then bL a else decide (a=[])
def Hx(a:Int):Nat:=if a=3\/a=7 then 1 else if a=6\/a=8\/a=9 then 2 else 0
def Bi(a:Int):Nat:=if a=3\/a=7 then 1 else if a=6\/a=8\/a=9 then 2 else if a=4 then 6 else 0
def eY(kind a:Int)(num:UT)(name:UL)(b:Nat):Bool:=decide (1<=kind/\kind<=9)&&((if kind=6 then decide (4<=a/\a<=15)else decide (a=0))&&((decide (kind=1)||decide (num.toNat=0))&&(Lm (decide (2<=kind/\kind<=4)) name&&decide (Hx kind<=b/\b<=Bi kind))))
def H'(a:Int):Nat:=if a=6\/a=7 then 0 else if a=2 then 2 else 1
def G5(a:Int):Nat:=if a=6 then 6 else if a=2 then 2 else 1
def gn(kind:Int)(name:UL)(a m b:Nat):Bool:=decide (1<=kind/\kind<=7)&&(Lm (decide<|kind=1\/kind=2\/kind=6) name&&(decide (H' kind<=a)&&(decide (a<=G5 kind)&&((decide (kind=4\/kind=5)||decide (m=0))&&(decide (kind=4)||decide (b=0))))))
def mR(a named b)(g:iM b):UD 203 #[.string a,.bool named] b λc d=>c=Uv (Lm named a)/\b=d:=by cases named with|true=>have f:=Zs<|gy a b g;go_enter func203,ntmps203;go_wp2_with(go_at_call 74;refine f.out.mono ?_;rintro c d⟨rfl,rfl⟩);go_returns;exact⟨rfl,rfl⟩|false=>obtain⟨i,h⟩:=Z'<|a.toList.isEmpty;have e:Hid<|Lm false a=i:=Zs (by rw[<-h,Lib.toList_data];unfold Lm;cases a.data.toList<;>simp);go_enter func203,ntmps203;go_wp2;go_returns;exact⟨ao (by rw[e.out]),rfl⟩
def uH(a k i l c)(h:iM c):UD 204 #[jn a k i l] c λg j=>g=Uv (eY a.kind a.op a.num a.name i)/\UB c c j:=by obtain⟨kind,o,num,name⟩:=a;have f:=Zs λb m=>mR name b _<|h.aa<|(Zo _ c).alloc (Zq _) m;generalize name.data.toList=L at*;unfold jn;obtain⟨n,d⟩:=Z' num.toNat;have e:=Zs d;simp only[d];clear h d;go_enter func204,ntmps204;go_wp2_with(go_at_call 203;refine(f.out _ _).mono ?_;rintro g j⟨rfl,rfl⟩);(all_goals go_returns;refine⟨ao<|XU.2 ?_,(Zo _ c).alloc (Zq _) _⟩;unfold eY;rw[e.out];clear e f;simp_all[Hx,Bi]);all_goals omega
def vJ(c j k l g n m c2 h o a)(f:iM a):UD 127 #[DK c j g n k m c2 l h o] a λe i=>e=Uv (gn c.kind c.name g m h)/\UB a a i:=by obtain⟨kind,name⟩:=c;have d:=Zs λb p=>mR name b _<|f.aa<|(Zo _ a).alloc (Zq _) p;generalize name.data.toList=L at*;unfold DK;clear f;go_enter func127,ntmps127;go_wp2_with(go_at_call 203;refine(d.out _ _).mono ?_;rintro e i⟨rfl,rfl⟩);(all_goals go_returns;refine⟨ao<|XU.2 ?_,(Zo _ a).alloc (Zq _) _⟩;clear d;simp_all[gn,H',G5]);all_goals omega
section
variable{w:World}{rest:List Oper}{ops:Array Oper}{h:Program}{xs:List Value}{n:Nat}
variable{E t:TypeId}{P g:Program}{W W':World}{a b c f i k lo:Nat}{cs:Array Value}{e:Oper}{o x:Exit->Act->World->Prop}{p:Act->World->Prop}{v:Value}{y:Prop}
def ie(c base h l e d p size bytes)(u:P.underlying h=some (.slice e))(q:P.info? e=some d)(C:d.zero=some p)(i:d.size=size)(A:d.bytes=bytes)(R:p.cells.size=size)(Q:0<size)(v b xs)(s:c.ownsRow base e size v b xs)(a m j news)(k:news.length=m*size)(r:∀G x,news[G]?=some x->c (a.add G)=some x)(D:∀x∈news,x.oneCell'=true)(E:b+m<=maxLen)(B:(b+m)*bytes<=140737488355328)(K:base<=c.heap.size):∃n o,(Builtin.append_ #[h,h] l #[v,.slice (some a) m j]).run P c=.ok n o/\o.ownsRow base e size n (b+m) (xs++news)/\c.grownBy o v.ownBlock/\∀w,n.ownBlock=some w->v.ownBlock=w\/c<=w:=by obtain⟨n,o,t,H,I,J⟩:=run_append_own (P:=P) c base h l e d p size bytes u q C i A R Q v b xs s a m j news k r D E B K;refine⟨n,o,t,H,I,λw f=>?_⟩;have U:b+m<=9223372036854775807:=by{unfold maxLen at E;omega};obtain⟨rfl,rfl⟩|⟨z,y,cur,rfl,S,N,V,T,L,W⟩:=s.2;{by_cases O:m=0;{rw[J.2 ⟨rfl,O⟩]at f;cases f};{have g:=run_append_nil (P:=P) c h l e d p u q C a m j news (by rw[i];exact k) r Z9 Z9 (by rw[A];rw[Y5]at B;omega);rw[t]at g;injection g with e1 _;rw[e1]at f;exact YQ<|Ys<|Yp f}};{by_cases F:b+m<=y;{have M:b*d.size+news.length<=cur.size:=by{rw[k,L,i,<-WX];exact WM _ F};have g:=run_append_room (P:=P) c h l e d u q z b y cur N a m j news (by rw[i];exact k) r D F M;rw[t]at g;injection g with e1 _;rw[e1]at f;exact YA f};{have g:=run_append_grow (P:=P) c h l e d p u q C z b y xs (by rw[i];exact s.1) (s.cells (g:=z) rfl) a m j news (by rw[i];exact k) r Z9 Z9 (by rw[A];exact growslice_fits Z9 B);rw[t]at g;injection g with e1 _;rw[e1]at f;exact YQ<|Ys<|Yp f}}
theorem aX{h a}(E:h.guard=none)(u x i)(J:h.op=.call {callee:=.builtin .append,args:=#[u,x],argTypes:=#[i,i]})(f n size bytes)(N:g.underlying i=some (.slice t))(G:(g.info? t).map (λl=>(l.zero,l.size,l.bytes))=some (some n,size,bytes))(T:n.cells.size=size)(M:0<size)(v d xs)(L:a.eval u=v)(r:w.ownsRow f t size v d xs)(m)(P:a.eval x=.slice w m m)(H:cs.toList.length=m*size)(A:∀V∈cs.toList,V.oneCell'=true)(D:(d+m)*bytes<=140737488355328)(Y:d+m<=140737488355328)(B:f<=w)(Z:0<m)(z:∀c p e,e.ownsRow f t size (.slice c (d+m) p) (d+m) (xs++cs.toList)->UB f w e->(∀b,b<w.heap.size->some b≠v.ownBlock->e.heap[b]?=w.heap[b]?)->(v.ownBlock=some c\/w<=c)->wpList g ops o rest (a.put h.dst<|.slice c (d+m) p) e):wpList g ops o (h::rest) a<|w.alloc<|.cells cs t:=by obtain⟨U,F,Q,R,S⟩:=info_parts G;refine wpList_plain E λW C=>?_;obtain⟨v',e,K,s,q,O⟩:=ie (P:=g) (w.alloc<|.cells cs t) f i h.type t U n size bytes N F Q R S T M v d xs (r.alloc _) w m m cs.toList H (kN w cs t) A ZX D Z3;unfold Oper.wp execOp;simp only[J,resolve,invoke,builtin,WI,WH,Xp,WG,Yo,Xu,L,P,K];obtain⟨_,X⟩|⟨c,y,cur,rfl,_⟩:=s.2;{omega};refine C _ _<|z c y e s (kQ q B<|λb k=>(r.lt b k).1) (λb k I=>?_) ?_;{rw[q.block b Z3 I];exact Xy w _ b k};{obtain j|j:=O c rfl;{exact YA j};{exact YQ (by rw[Y9]at j;omega)}}
def bG{a}(D:W=w.alloc (.cells cs E))(G:e.guard=none)(t u j)(L:e.op=.call {callee:=.builtin .append,args:=#[t,u],argTypes:=#[j,j]})(g o size bytes)(P:h.underlying j=some (.slice E))(I:(h.info? E).map (λn=>(n.zero,n.size,n.bytes))=some (some o,size,bytes))(V:o.cells.size=size)(O:0<size)(v d xs)(N:a.eval t=v)(r:w.ownsRow g E size v d xs)(m b)(i:w.heap.size=b)(R:a.eval u=.slice b m m)(J:cs.toList.length=m*size)(B:∀Y∈cs.toList,Y.oneCell'=true)(F:(d+m)*bytes<=140737488355328)(a0:d+m<=140737488355328)(C:g<=w)(hm:0<m)(A:∀b q f,f.ownsRow g E size (.slice b (d+m) q) (d+m) (xs++cs.toList)->UB g w f->(∀c,c<w.heap.size->some c≠v.ownBlock->f.heap[c]?=w.heap[c]?)->(v.ownBlock=some b\/w<=b)->p (a.put e.dst<|.slice b (d+m) q) f):if Region.wanted e (yielded ops a.tmps)=true then Oper.wp h e a W p x else y:=by subst D i;obtain⟨X,H,S,T,U⟩:=info_parts I;rw[if_pos (by simp[Region.wanted,G])];obtain⟨v',f,M,s,i,Q⟩:=ie (P:=h) (w.alloc<|.cells cs E) g j e.type E X o size bytes P H S T U V O v d xs (r.alloc _) w m m cs.toList J (kN w cs E) B ZX F Z3;unfold Oper.wp execOp;simp only[L,resolve,invoke,builtin,WI,WH,Xp,WG,Yo,Xu,N,R,M];obtain⟨_,Z⟩|⟨b,z,cur,rfl,_⟩:=s.2;{omega};refine A b z f s (kQ i C<|λc l=>(r.lt c l).1) (λc l K=>?_) ?_;{rw[i.block c Z3 K];exact Xy w _ c l};{obtain k|k:=Q b rfl;{exact YA k};{exact YQ (by rw[Y9]at k;omega)}}
def aI(c:w.ownsRow n k a v b xs){p}(l:some p.block≠v.ownBlock)(m):(w.setCell p m).ownsRow n k a v b xs:=by refine⟨c.1,?_⟩;obtain j|⟨g,e,cur,d,h,i,rest⟩:=c.2;{exact .inl j};{refine .inr ⟨g,e,cur,d,h,?_,rest⟩;rw[Zk _ _ _ _ (λf=>l (by rw[d,<-f];rfl))];exact i}
theorem Gw(g:w.ownsRow n k a (.slice b i f) i xs)(d e):(w.setCell ⟨b,d,none⟩ e).ownsRow n k a (.slice b i f) i<|xs.set d e:=by refine⟨by simp[g.1],?_⟩;obtain⟨h,_⟩|⟨s,r,cur,c,m,o,p,j,l,q⟩:=g.2;{cases h};{injection c with c _ hc;injection c with c;injection c with c;subst c hc;refine .inr ⟨b,f,cur.setIfInBounds d e,rfl,m,?_,p,j,by simp[l],?_⟩;{simp[World.setCell,Wp,o]};{rw[<-q,V6,List.take_set]}}
def bO(e:w.ownsRow n k a (.slice b i f) i xs)(g:xs[c]?=v):w ⟨b,c,none⟩=v:=by have:=e.cells (g:=b) rfl c v g;have d:(b:Addr).add c=⟨b,c,none⟩:=ZV;rwa[d]at this
def xU(d:w.ownsRow n k a (.slice b i f) i xs)(h):w.frozen? ⟨b,h,none⟩=false:=by obtain⟨e,_⟩|⟨l,j,cur,c,m,g,_⟩:=d.2;{cases e};{injection c with c _ _;injection c with c;cases c;simp[World.frozen?,g]}
def bq(g:w.ownsRow n a b v i xs)(c:v.ownBlock=k):(∃cs,w.heap[k]?=some (.cells cs a))/\n<=k/\k<w:=by obtain⟨h,_⟩|⟨f,m,cur,l,j,d,rest⟩:=g.2;{rw[h]at c;cases c};{rw[l]at c;have e:f=k:=Yp c;subst e;exact⟨⟨cur,d⟩,j,(YW.1 d).1⟩}
def fD(lo:Nat)(a:U0)(v:UY)(b:Nat):Prop:=lo<=b/\b<a/\v.ownBlock≠some b
def fD.jR{v'}(g:w<=W.heap.size)(f:∀d,d<w.heap.size->some d≠v.ownBlock->W.heap[d]?=w.heap[d]?)(i:v.ownBlock=n\/w<=n)(h:v'.ownBlock=some n)(c:fD lo w v b):W.heap[b]?=w.heap[b]?/\fD lo W v' b:=by refine⟨f b c.2.1<|λa=>c.2.2 a.symm,c.1,Zj c.2.1 g,λa=>?_⟩;rw[h]at a;obtain e|e:=i;{exact c.2.2<|e.trans a};{have a:=Yp a;have:=c.2.1;omega}
def fD.aa(c:UB w w W')(a:fD lo w v b):W'.heap[b]?=w.heap[b]?/\fD lo W' v b:=⟨c.block b a.2.1,a.1,Zj a.2.1 c.size,a.2.2⟩
def fD.set{g o}(d)(e:g<lo)(a:fD lo W v b):(W.setCell ⟨g,o,none⟩ d).heap[b]?=W.heap[b]?/\fD lo (W.setCell ⟨g,o,none⟩ d) v b:=⟨Zk _ _ _ _ (λc=>by have c:b=g:=c;have:=a.1;omega),a.1,by have:=a.2.1;simpa using this,a.2.2⟩
def fD.nw(e:w.ownsRow n k i v f xs)(g:a<=b/\b<c)(h:w<=a)(j:lo<=a)(l:c<=W'):fD lo W' v b:=⟨Z9,Z9,λd=>by have:=(bq e d).2.2;omega⟩
end
def I4(a:Nat):Bool:=decide (97<=a)&&decide (a<=122)||decide (65<=a)&&decide (a<=90)
def Iv(a:Nat):Bool:=decide (48<=a)&&decide (a<=57)
def rm(a c):UD 213 #[.int .u8 (a:Nat)] c λi n=>i=Uv (I4 a)/\UB c c n:=by by_cases d:97<=a<;>by_cases e:a<=122<;>by_cases f:65<=a<;>by_cases g:a<=90;all_goals first|omega|(have h:=Zs (show I4 a=(decide (97<=a)&&decide (a<=122)||decide (65<=a)&&decide (a<=90))from rfl);simp only[d,e,f,g,decide_true,decide_false,X1,X',VK,Bool.or_false]at h;have j:(97:Int)<=a↔97<=a:=Z9;have k:(a:Int)<=122↔a<=122:=Z9;have l:(65:Int)<=a↔65<=a:=Z9;have m:(a:Int)<=90↔a<=90:=Z9;simp only[d,e,f,g,iff_true,iff_false]at j k l m;clear d e f g;go_enter func213,ntmps213;go_wp2;go_returns;exact⟨congrArg (λb=>Ending.returned<|.bool b) h.out.symm,Zo _ c⟩)
def Dx(a c):UD 216 #[.int .u8 (a:Nat)] c λg j=>g=Uv (Iv a)/\UB c c j:=by by_cases d:48<=a<;>by_cases e:a<=57;all_goals first|omega|(have f:=Zs (show Iv a=(decide (48<=a)&&decide (a<=57))from rfl);simp only[d,e,decide_true,decide_false,X1,X']at f;have h:(48:Int)<=a↔48<=a:=Z9;have i:(a:Int)<=57↔a<=57:=Z9;simp only[d,e,iff_true,iff_false]at h i;clear d e;go_enter func216,ntmps216;go_wp2;go_returns;exact⟨congrArg (λb=>Ending.returned<|.bool b) f.out.symm,Zo _ c⟩)
def Ld(a:List ByteArray)(b:UW):Bool:=a.any λc=>(c.toList==b.toList)
def MC(a k n d f)(p:Sl f f k a.length<|a.map tv)(y:a.length<=1000000):UD 214 #[Uz k a.length n,.string d] f λo v=>o=Uv (Ld a d)/\f=v:=by go_enter func214,ntmps214;go_wp2;go_loop[5](λj=>∃c:Nat,c<=a.length/\j=c/\Hid (Ld a d=Ld (a.drop c) d))(λj=>a.length-(intOf j).toNat);(case atStart=>exact⟨0,Zc _,rfl,Zs rfl⟩);case round=>obtain⟨c,x,rfl,l⟩:=hrel;by_cases h:c<a.length;{obtain⟨b,off,u,rfl,w,e,q⟩:=p.at_ (k:=c) h;have s:u=a[c]:=by{rw[Zh,Zp h]at e;injection e with e;exact e.symm};subst s;obtain⟨m,i⟩:=Z'<|a[c];have g:Hid<|Ld a d=((m.toList==d.toList)||Ld (a.drop<|c+1) d):=Zs (by rw[l.out,Yz h,i];rfl);rw[i]at q;obtain⟨t,r⟩:=Z'<|m.toList==d.toList;rw[r]at g;clear i e;cases t with|true=>go_wp2;go_returns;exact⟨ao (by rw[g.out];rfl),rfl⟩|false=>go_wp2;go_round;(case rel=>exact⟨c+1,Z9,Z1,Zs (by rw[g.out];rfl)⟩);case measure=>simp[intOf];omega};{obtain rfl:c=a.length:=Z9;go_wp2;go_returns;exact⟨ao (by rw[l.out,XT];rfl),rfl⟩}
def lU:List ByteArray:=[⟨#[118,97,114]⟩,⟨#[97,114,114,97,121]⟩,⟨#[102,117,110,99]⟩,⟨#[119,111,114,100]⟩,⟨#[105,102]⟩,⟨#[101,108,115,101]⟩,⟨#[119,104,105,108,101]⟩,⟨#[114,101,116,117,114,110]⟩,⟨#[112,117,116]⟩,⟨#[103,101,116]⟩]
def Le(a):Ld lU a=C9 a:=by have c:∀b,(b==a.data.toList)=decide (b=a):=λb=>by{rw[XU,beq_iff_eq,decide_eq_true_iff]};unfold Ld lU C9 D';simp only[Vp,List.any_nil,Lib.toList_data,c]
def Dw(a):UD 215 #[] a λe b=>UB a a b/\∃c d,e=Uv (Uz c lU d)/\Sl b b c lU (lU.map tv):=by go_enter func215,ntmps215;go_wp2;go_returns;have f:=ag.aM a 9 (lU.map tv).toArray;refine⟨(Zo _ a).alloc (Zq _) _,a,10,rfl,rfl,λ_=>⟨a,0,rfl,Z5,λh i g=>?_⟩⟩;rw[Y5];exact(f.cell h).trans (by rw[YJ];exact g)
def FP(a):I4 a.toNat=jq a:=by unfold I4 jq;rw[XU];simp only[VC,Y1,decide_eq_true_iff]
def LH(a):Iv a.toNat=jm a:=by unfold Iv jm;rw[XU];simp only[Y1,decide_eq_true_iff]
def GL(a h):UD 148 #[.string a] h λg Z=>g=Uv (bL a)/\UB h h Z:=by have j:a.data.toList.length=a.size:=Z5;by_cases o:a.size=0;{have y:Hid<|bL a.data.toList=false:=Zs (by have:a.data.toList=[]:=XR Z9;rw[this];rfl);have V:((a.size:Int)==0)=true:=by{rw[o];rfl};clear o j;go_enter func148,ntmps148;go_wp2;go_returns;exact⟨ao y.out.symm,Zo _ h⟩};have V:((a.size:Int)==0)=false:=beq_eq_false_iff_ne.2 Z9;by_cases H:20<a.size;{have y:Hid<|bL a.data.toList=false:=Zs (by unfold bL;rw[decide_eq_false (show¬a.data.toList.length<=20 by omega),X'];rfl);have T:(20:Int)<a.size:=Z9;clear o j;go_enter func148,ntmps148;go_wp2;go_returns;exact⟨ao y.out.symm,Zo _ h⟩};have T:¬(20:Int)<a.size:=Z9;have a0:(0:Int)<a.size:=Z9;have q:0<a.size:=Z9;have L:a.data.toList.head?=some (a[0]'q):=by{rw[VM,Array.getElem?_toList];exact YR q};have k:Hid<|bL a.data.toList=(jq (a[0]'q)&&(a.data.toList.all oW&& !C9 a.data.toList)):=Zs (by unfold bL;rw[L,decide_eq_true (show a.data.toList.length<=20 by omega),decide_eq_true (show a.data.toList≠[]from λg=>by rw[g]at j;simp at j;omega)];simp only[Option.any_some,Xe,Yr]);have d:=Zs<|rm (a[0]'q).toNat h;rw[FP]at d;clear L;obtain⟨D,l⟩:=Z'<|jq<|a[0]'q;rw[l]at d k;clear l;cases D with|false=>go_enter func148,ntmps148;go_wp2_with fail;refine d.out.mono ?_;rintro g R⟨rfl,r⟩;have c:=Zs r;clear d r o j H;go_wp2;go_returns;exact⟨ao (by rw[k.out];rfl),c.out⟩|true=>obtain⟨D,l⟩:=Z'<|C9 a.data.toList;have u:=Zs (λ(t:Option Addr)(B:Nat)(i:World)(S:Sl i i t lU.length<|lU.map tv)=>MC lU t B a i S Z8);rw[Le,l]at u;rw[l]at k;clear l;have A:=Zs Dw;have F:=Zs j;have M:lU.length=10:=rfl;rw[M]at u A;go_enter func148,ntmps148;go_wp2_with fail;refine d.out.mono ?_;rintro g R⟨rfl,r⟩;have c:=Zs r;clear d r o j H M;go_wp2_with fail;refine(A.out R).mono ?_;rintro g w2⟨J,t,B,rfl,I⟩;have w:=Zs<|c.out.trans<|J.mono c.out.size;have G:=Zs<|u.out t B w2 I;clear J I u A c;go_wp2_with fail;refine G.out.mono ?_;rintro g w3⟨rfl,rfl⟩;clear G;cases D with|true=>go_wp2;go_returns;exact⟨ao (by rw[k.out];simp),w.out⟩|false=>have E:Hid<|bL a.data.toList=a.data.toList.all oW:=Zs (by rw[k.out];simp);clear k;go_wp2;go_loopw[3](λC wr=>∃b:Nat,b<=a.size/\C=b/\UB h h wr/\Hid (a.data.toList.all oW=(a.data.toList.drop b).all oW))(λC _=>a.size-(intOf C).toNat);(case atStart=>exact⟨0,Zc _,rfl,w.out,Zs rfl⟩);case round=>obtain⟨b,hk,rfl,v,Q⟩:=hrel;by_cases e:b<a.size;{have U:(b:Int)<a.size:=Z9;have a1:(0:Int)<=b:=Z9;have N:b<a.data.toList.length:=by{rw[F.out];exact e};have f:Hid<|a.data.toList.all oW=((jq (a[b]'e)||jm (a[b]'e)||decide ((a[b]'e).toNat=95))&&(a.data.toList.drop<|b+1).all oW):=Zs (by rw[Q.out,Yz N,Wf];rfl);have d:=Zs (λi=>rm (a[b]'e).toNat i);have n:=Zs (λi=>Dx (a[b]'e).toNat i);rw[FP]at d;rw[LH]at n;obtain⟨X,O⟩:=Z'<|jq<|a[b]'e;obtain⟨Y,P⟩:=Z'<|jm<|a[b]'e;rw[O]at d f;rw[P]at n f;have c:=Zs v;clear O P v w N;cases X with|true=>go_wp2_with fail;refine(d.out _).mono ?_;rintro g w4⟨rfl,s⟩;have m:=Zs<|c.out.trans<|s.mono c.out.size;clear s d n;go_wp2;go_roundw;(case rel=>exact⟨b+1,Z9,Z1,m.out,Zs (by rw[f.out];rfl)⟩);case measure=>simp[intOf];omega|false=>go_wp2_with fail;refine(d.out _).mono ?_;rintro g w4⟨rfl,s⟩;have m:=Zs<|c.out.trans<|s.mono c.out.size;clear s d c;go_wp2_with fail;refine(n.out _).mono ?_;rintro g w5⟨rfl,K⟩;have x:=Zs<|m.out.trans<|K.mono m.out.size;clear K n m;cases Y with|true=>go_wp2;go_roundw;(case rel=>exact⟨b+1,Z9,Z1,x.out,Zs (by rw[f.out];rfl)⟩);case measure=>simp[intOf];omega|false=>by_cases p:(a[b]'e).toNat=95;{have W:(((a[b]'e).toNat:Int)!=95)=false:=by{rw[p];rfl};have z:Hid<|a.data.toList.all oW=(a.data.toList.drop<|b+1).all oW:=Zs (by rw[f.out,decide_eq_true p];rfl);clear p f;go_wp2;go_roundw;(case rel=>exact⟨b+1,Z9,Z1,x.out,z⟩);case measure=>simp[intOf];omega};{have W:(((a[b]'e).toNat:Int)!=95)=true:=ZH;have z:Hid<|a.data.toList.all oW=false:=Zs (by rw[f.out,decide_eq_false p];rfl);clear p f;go_wp2;go_returns;exact⟨ao (by rw[E.out,z.out]),x.out⟩}};{have U:¬(b:Int)<a.size:=Z9;have f:Hid<|a.data.toList.all oW=true:=Zs (by rw[Q.out,VJ (by have:=F.out;omega)];rfl);have c:=Zs v;clear v e;go_wp2;go_returns;exact⟨ao (by rw[E.out,f.out]),c.out⟩}
def Dy(a):UD 147 #[] a λe b=>UB a a b/\∃c d,e=Uv (Uz c lU d)/\Sl b b c lU (lU.map tv):=by go_enter func147,ntmps147;go_wp2;go_returns;have f:=ag.aM a 9 (lU.map tv).toArray;refine⟨(Zo _ a).alloc (Zq _) _,a,10,rfl,rfl,λ_=>⟨a,0,rfl,Z5,λh i g=>?_⟩⟩;rw[Y5];exact(f.cell h).trans (by rw[YJ];exact g)
def gY(c k):UD 93 #[.string c] k λn I=>n=Uv (bL c)/\UB k k I:=by have h:=Zs<|Dy k;have B:=Zs (λC=>GL c C);obtain⟨d,i⟩:=Z' lU;have x:Hid<|Ld d c=true->bL c.data.toList=false:=Zs (λf=>by rw[<-i,Le]at f;unfold bL;rw[f];simp);rw[i]at h;obtain⟨e,j⟩:=Z' d.length;have y:=Zs j;have L:e<=1000:=by{rw[<-j,<-i];decide};rw[j]at h;clear i j;go_enter func93,ntmps93;go_wp2_with fail;refine h.out.mono ?_;rintro n P⟨t,J,K,rfl,s⟩;have l:=Zs t;have z:=Zs s;clear t s h;go_wp2_with fail;go_loop[4](λq=>∃a:Nat,a<=e/\q=a)(λq=>e-(intOf q).toNat);(case atStart=>exact⟨0,Zc _,rfl⟩);case round=>obtain⟨a,N,rfl⟩:=hrel;by_cases v:a<e;{have o:a<d.length:=by{rw[y.out];exact v};obtain⟨b,off,H,rfl,M,g,D⟩:=z.out.at_ (k:=a) v;have F:H=d[a]:=by{rw[Zh,Zp o]at g;injection g with g;exact g.symm};subst F;obtain⟨r,p⟩:=Z'<|d[a];have m:Hid<|(c.toList==r.toList)=true->bL c.data.toList=false:=Zs (λf=>x.out<|List.any_eq_true.2 ⟨r,p▸YU o,by rw[beq_iff_eq]at f⊢;exact f.symm⟩);rw[p]at D;obtain⟨G,E⟩:=Z'<|c.toList==r.toList;rw[E]at m;clear p g o;cases G with|true=>have A:=Zs<|m.out rfl;clear m;go_wp2;go_returns;exact⟨ao A.out.symm,l.out⟩|false=>go_wp2_with fail;go_round;(case rel=>exact⟨a+1,Z9,Z1⟩);case measure=>simp[intOf];omega};{have O:¬a<e:=Z9;go_wp2_with fail;refine(B.out _).mono ?_;rintro n Q⟨rfl,u⟩;have w:=Zs<|l.out.trans<|u.mono l.out.size;clear u;go_wp2;go_returns;exact⟨rfl,w.out⟩}
section
namespace Ef
variable{α β:Type}
def bI:Ef α->List (α×Ef α)|nil=>[]|cons a b c=>(a,b)::c.bI
theorem aR:∀b:Ef α,b.bI=b.len|nil=>rfl|cons _ _ a=>by show a.bI+1=a.len+1;rw[aR a]
theorem jA(a:α->β):∀b:Ef α,(b.map a).bI=b.bI.map λd=>(a d.1,d.2.map a)|nil=>rfl|cons e f c=>by show(a e,f.map a)::(c.map a).bI=_;rw[jA a c];rfl
theorem b9:∀(f:Ef α)(e:Nat)b,f.bI[e]?=some b->b.2.size<f.size|nil,_,_,a=>by cases a|cons g c d,0,b,a=>by injection a with a;subst a;show c.size<c.size+d.size+1;omega|cons g c d,e+1,b,a=>by have:=b9 d e b a;show b.2.size<c.size+d.size+1;omega
def ui(a:α->Prop):Ef α->Prop|nil=>True|cons b c d=>a b/\c.ui a/\d.ui a
theorem ui.at_{e}:∀{f:Ef α},f.ui e->∀(d:Nat)b,f.bI[d]?=some b->e b.1/\b.2.ui e|nil,_,_,_,a=>by cases a|cons g k h,c,0,b,a=>by injection a with a;subst a;exact⟨c.1,c.2.1⟩|cons g k h,c,d+1,b,a=>ui.at_ c.2.2 d b a
end Ef
namespace Sf
variable{α β γ δ:Type}
def bI:Sf α β->List (β×Ef α×Sf α β×Sf α β)|nil=>[]|cons a b e c d=>(a,b,e,c)::d.bI
theorem aR:∀b:Sf α β,b.bI=b.len|nil=>rfl|cons _ _ _ _ a=>by show a.bI+1=a.len+1;rw[aR a]
theorem jA(a:α->γ)(b:β->δ):∀d:Sf α β,(d.map a b).bI=d.bI.map λc=>(b c.1,c.2.1.map a,c.2.2.1.map a b,c.2.2.2.map a b)|nil=>rfl|cons f g i h e=>by show(b f,g.map a,i.map a b,h.map a b)::(e.map a b).bI=_;rw[jA a b e];rfl
theorem b9:∀(h:Sf α β)(g:Nat)a,h.bI[g]?=some a->a.2.1.size+a.2.2.1.size+a.2.2.2.size<h.size|nil,_,_,b=>by cases b|cons i c f d e,0,a,b=>by injection b with b;subst b;show c.size+f.size+d.size<c.size+f.size+d.size+e.size+1;omega|cons i c f d e,g+1,a,b=>by have:=b9 e g a b;show a.2.1.size+a.2.2.1.size+a.2.2.2.size<c.size+f.size+d.size+e.size+1;omega
theorem cu(a:α->γ)(b:β->δ):∀d:Sf α β,(d.map a b).len=d.len|nil=>rfl|cons _ _ _ _ c=>by show(c.map a b).len+1=c.len+1;rw[cu a b c]
theorem iy:∀b:Sf α β,b.len<=b.size|nil=>Zq _|cons _ c e d a=>by have:=iy a;show a.len+1<=c.size+e.size+d.size+a.size+1;omega
def ui(a:α->Prop)(b:β->Prop):Sf α β->Prop|nil=>True|cons c d g e f=>b c/\d.ui a/\g.ui a b/\e.ui a b/\f.ui a b
theorem ui.at_{d e}:∀{g:Sf α β},g.ui d e->∀(f:Nat)a,g.bI[f]?=some a->e a.1/\a.2.1.ui d/\a.2.2.1.ui d e/\a.2.2.2.ui d e|nil,_,_,_,b=>by cases b|cons h i m j l,c,0,a,b=>by injection b with b;subst b;exact⟨c.1,c.2.1,c.2.2.1,c.2.2.2.1⟩|cons h i m j l,c,f+1,a,b=>ui.at_ c.2.2.2.2 f a b
end Sf
section
variable{α β:Type}{cs:α->List Value}{ds:β->List Value}{w w':World}{P Q:Nat->Prop}
def eu{α}(cs:α->List Value)(w:U0)(P:UH)(a:α×Ef α)(b e:Nat):Prop:=(∀d f,(cs a.1)[d]?=some f->w ⟨b,e+d,Um⟩=some f)/\∃c g,w ⟨b,e+(cs a.1),Um⟩=some (Uz c a.2.len g)/\bg cs w P c a.2
theorem cM.el{m}(h:∀f,(cs f).length=m):∀{g}{b d},cM cs w P g b d->∀(c)e,g.bI[c]?=some e->eu cs w P e b (d+c*(m+1))|.nil,_,_,_,_,_,a=>by cases a|.cons f l n,b,d,⟨i,j,_⟩,0,e,a=>by injection a with a;subst a;rw[YE,Yy];exact⟨i,j⟩|.cons f l n,b,d,⟨_,_,k⟩,c+1,e,a=>by have:=cM.el h k c e a;rw[h f]at this;rw[show d+(c+1)*(m+1)=d+(m+1)+c*(m+1)by rw[WX,XB];omega];exact this
theorem cM.mT{m}(i:∀e,(cs e).length=m):∀{g}{b c},(∀(a)d,g.bI[a]?=some d->eu cs w P d b (c+a*(m+1)))->cM cs w P g b c|.nil,_,_,_=>trivial|.cons e k l,b,c,h=>by have f:=h 0 _ rfl;rw[YE,Yy]at f;refine⟨f.1,f.2,cM.mT i λa d j=>?_⟩;have:=h (a+1) d j;rw[i e,show c+(m+1)+a*(m+1)=c+(a+1)*(m+1)by rw[WX,XB];omega];exact this
def eu.ay{d b n k a}(i:eu cs w P d b n)(e:∀c,c<=(cs d.1).length->w' ⟨k,a+c,Um⟩=w ⟨b,n+c,Um⟩)(p:∀b,P b->w'.heap[b]?=w.heap[b]?)(o:∀b,P b->Q b):eu cs w' Q d k a:=by obtain⟨j,g,h,l,m⟩:=i;exact⟨λc q f=>(e c<|YT (Zm.1 f).1).trans<|j c q f,g,h,(e _<|Zq _).trans l,m.ay p o⟩
def fF{α β}(cs:α->List Value)(ds:β->List Value)(w:U0)(P:UH)(a:β×Ef α×Sf α β×Sf α β)(b e:Nat):Prop:=(∀f g,(ds a.1)[f]?=some g->w ⟨b,e+f,Um⟩=some g)/\(∃c d,w ⟨b,e+(ds a.1),Um⟩=some (Uz c a.2.1.len d)/\bg cs w P c a.2.1)/\(∃c d,w ⟨b,e+((ds a.1)+1),Um⟩=some (Uz c a.2.2.1.len d)/\a9 cs ds w P c a.2.2.1)/\(∃c d,w ⟨b,e+((ds a.1)+2),Um⟩=some (Uz c a.2.2.2.len d)/\a9 cs ds w P c a.2.2.2)
theorem cR.el{m}(h:∀f,(ds f).length=m):∀{g}{b d},cR cs ds w P g b d->∀(c)e,g.bI[c]?=some e->fF cs ds w P e b (d+c*(m+3))|.nil,_,_,_,_,_,a=>by cases a|.cons f i r j q,b,d,⟨k,l,n,o,_⟩,0,e,a=>by injection a with a;subst a;rw[YE,Yy];exact⟨k,l,n,o⟩|.cons f i r j q,b,d,⟨_,_,_,_,p⟩,c+1,e,a=>by have:=cR.el h p c e a;rw[h f]at this;rw[show d+(c+1)*(m+3)=d+(m+3)+c*(m+3)by rw[WX,XB];omega];exact this
theorem cR.mT{m}(i:∀f,(ds f).length=m):∀{g}{b d},(∀(a)e,g.bI[a]?=some e->fF cs ds w P e b (d+a*(m+3)))->cR cs ds w P g b d|.nil,_,_,_=>trivial|.cons f k o l n,b,d,h=>by have c:=h 0 _ rfl;rw[YE,Yy]at c;refine⟨c.1,c.2.1,c.2.2.1,c.2.2.2,cR.mT i λa e j=>?_⟩;have:=h (a+1) e j;rw[i f,show d+(m+3)+a*(m+3)=d+(a+1)*(m+3)by rw[WX,XB];omega];exact this
def fF.ay{g b n k a}(p:fF cs ds w P g b n)(d:∀c,c<=(ds g.1).length+2->w' ⟨k,a+c,Um⟩=w ⟨b,n+c,Um⟩)(f:∀b,P b->w'.heap[b]?=w.heap[b]?)(e:∀b,P b->Q b):fF cs ds w' Q g k a:=by obtain⟨q,⟨i,m,r,s⟩,⟨j,c2,t,u⟩,⟨l,o,v,x⟩⟩:=p;exact⟨λc y h=>(d c<|Zb (YT (Zm.1 h).1) Z9).trans<|q c y h,⟨i,m,(d _ Z9).trans r,s.ay f e⟩,⟨j,c2,(d _ Z9).trans t,u.ay f e⟩,⟨l,o,(d _ Z9).trans v,x.ay f e⟩⟩
end
def cz(P w d c e)(size bytes a:Nat)(o:P.underlying d=some (.slice c))(m:(P.info? c).map (λb=>(b.zero,b.size,b.bytes))=some (some e,size,bytes))(j:bytes<=1000)(n:a<=1000000):(Instr.makeSlice d a a).run P w=.ok (Uz w a a) (Uq w<|.cells (madeCells e.cells<|a*size) c):=by obtain⟨b,l,g,h,i⟩:=info_parts m;have p:bytes*a<=1000*1000000:=Vu j n;have k:b.bytes*(a:Int)<=281474976710656:=by{rw[i];have:((bytes*a:Nat):Int)<=1000000000:=Z9;rw[VD]at this;omega};have f:=run_make (P:=P) w d c b e o l g .i64 .i64 a a Z9 (Int.le_refl _) k Z9;rw[h,X8]at f;exact f
def b7(b a):(madeCells b a)=a:=by unfold madeCells;simp
theorem jx{n k}(b:n<=k):∀(d)a w,UB n w (w.setCells k a d)|[],_,w=>Zo n w|v::c,a,w=>((Zo n w).setCell (p:=⟨k,a,Um⟩) b v).trans<|jx b c (a+1) _
theorem fP{n k}(b:k≠n):∀(d)a(w:U0),(w.setCells n a d).heap[k]?=w.heap[k]? |[],_,_=>rfl|v::c,a,w=>(fP b c (a+1) _).trans<|Zk w ⟨n,a,Um⟩ v k b
theorem lf{n}:∀(c)a(w:U0),(w.setCells n a c)=w.heap.size|[],_,_=>rfl|v::b,a,w=>(lf b (a+1) _).trans (by simp)
structure jE(g)(l:List<|Nat×TypeId×Array Value)(W):Prop where
 bs:∀x∈l,ag W x.1 x.2.1 x.2.2
 ne:∀x∈l,x.1≠g
def jE.drew{n b W}(a:jE n b W):jE n b W.drew:=⟨λd c=>(a.bs d c).drew,a.ne⟩
def jE.aa{n c W W'}(a:jE n c W)(e:UB W W W'):jE n c W':=⟨λd b=>(a.bs d b).aa e (a.bs d b).lt,a.ne⟩
theorem jE.set{g c W}(a:jE g c W)(o v):jE g c<|Uo W ⟨g,o,Um⟩ v:=⟨λd b=>(a.bs d b).bV (p:=⟨g,o,Um⟩) (a.ne d b) v,a.ne⟩
def jE.nil{n W}:jE n [] W:=⟨λ_ a=>(by cases a),λ_ a=>(by cases a)⟩
def jE.cons{n b t cs e W}(f:ag W b t cs)(g:b≠n)(d:jE n e W):jE n ((b,t,cs)::e) W:=⟨λc a=>by obtain rfl|a:=YO.1 a;exact f;exact d.bs c a,λc a=>by obtain rfl|a:=YO.1 a;exact g;exact d.ne c a⟩
def jE.hd{n b t cs d W}(c:jE n ((b,t,cs)::d) W):ag W b t cs:=c.bs (b,t,cs)<|YV ..
def jE.tl{n e d W}(c:jE n (e::d) W):jE n d W:=⟨λb a=>c.bs b<|YD _ a,λb a=>c.ne b<|YD _ a⟩
theorem ag.J6{n t}:∀(h)a w arr,ag w n t arr->a+h.length<=arr.size->∃c,ag (w.setCells n a h) n t c/\c=arr.size/\(∀b g,h[b]?=some g->c[a+b]?=some g)/\∀d,d<a\/a+h<=d->c[d]?=arr[d]? |[],_,w,arr,e,_=>⟨arr,e,rfl,λ_ _ e=>(by cases e),λ_ _=>rfl⟩|v::i,a,w,arr,e,q=>by have p:(v::i)=i.length+1:=rfl;obtain⟨c,k,l,m,j⟩:=ag.J6 i (a+1) (Uo w ⟨n,a,Um⟩ v) (arr.setIfInBounds a v) (e.set a v) (by rw[Xv];omega);refine⟨c,k,l.trans<|Xv ..,λb g f=>?_,λd o=>?_⟩;{cases b with|zero=>injection f with f;subst f;rw[Yy,j a<|YA Z9,Xw Z9]|succ b=>rw[show a+(b+1)=a+1+b by omega];exact m b g f};{rw[j d Z9,XV Z9]}
def Wu:=@Ef.aR
def VP:=@Sf.aR
def Ve:=@Ef.b9
end
section
def Rv.aG{α β c}{f:α->Mm->Option (Rv β)}{d}(b:Rv.bind c f=some d):(∃e s,c=some (.stop e s)/\d=.stop e s)\/(∃a s,c=some (.ok a s)/\f a s=d):=by unfold Rv.bind at b;split at b;{exact absurd b Z5};{injection b with b;exact .inl ⟨_,_,rfl,b.symm⟩};{exact .inr ⟨_,_,rfl,b⟩}
structure bM(C:Rc)(s a:Mm):Prop where
 aq:a.aq.length=s.aq.length
 aj:a.aj.map List.length=s.aj.map List.length
 tk:s.tk<=a.tk
 F4:s.tk<=C.fuel->a.tk<=C.fuel
 out:s.out<+:a.out
section
variable{C:Rc}{s s1 s2:Mm}
def bM.refl(C s):bM C s s:=⟨rfl,rfl,Zq _,id,Ye _⟩
def bM.trans(a:bM C s s1)(b:bM C s1 s2):bM C s s2:=⟨b.aq.trans a.aq,b.aj.trans a.aj,Zb a.tk b.tk,λm=>b.F4<|a.F4 m,a.out.trans b.out⟩
end
def aW{d}(C:Rc)(s:Mm)(c:Rv d):Prop:=match c with|.ok _ b=>bM C s b|.stop a b=>bM C s b/\(a=5->C.fuel<=b.tk)/\(a=2\/a=3\/a=4\/a=5)
def aW.pre{α C s s1}{b:Rv α}(c:bM C s s1)(k:aW C s1 b):aW C s b:=by cases b with|ok a s2=>exact bM.trans c k|stop d s2=>exact⟨bM.trans c k.1,k.2⟩
def aW.bind{α β C s d}{e:α->Mm->Option (Rv β)}{c}(h:Rv.bind d e=some c)(f:∀g,d=some g->aW C s g)(i:∀a s1,d=some (.ok a s1)->e a s1=c->aW C s1 c):aW C s c:=by obtain⟨k,s1,b,rfl⟩|⟨a,s1,b,j⟩:=Rv.aG h;{exact f _ b};{exact aW.pre (f _ b)<|i a s1 b j}
theorem kZ{C}(s):aW C s<|dG C s:=by unfold dG;split;{exact⟨rfl,rfl,YH _,λ_=>by show s.tk+1<=C.fuel;omega,Ye _⟩};{exact⟨bM.refl C s,λ_=>Z9,Z5⟩}
theorem FI{C}(s):aW C s<|getM C s:=by unfold getM;split;{exact bM.refl C s};{exact⟨rfl,rfl,Zq _,id,Ye _⟩}
theorem qD{C}(v s):aW C s<|lx v s:=by unfold lx;split;{exact⟨rfl,rfl,Zq _,id,List.prefix_append _ _⟩};{exact⟨bM.refl C s,Z5,Z5⟩}
def kY{C a d s c}(b:atM a d s=some c):aW C s c:=by unfold atM at b;split at b;{exact absurd b Z5};{split at b<;>injection b with b<;>subst b;{exact⟨bM.refl C s,Z5,Z5⟩};{exact bM.refl C s}}
def qL(b:List<|List UInt32)(a f v):(b.modify a λd=>d.set f v).map List.length=b.map List.length:=by apply VY;intro c;simp only[Zh,WL];cases b[c]? with|none=>rfl|some d=>by_cases e:a=c<;>simp[e]
theorem mH{C}(a b v s):bM C s<|DM a b v s:=⟨rfl,qL _ _ _ _,Zq _,id,Ye _⟩
structure dZ(C)(F:Mf):Prop where
 val:∀own d k s r,F.val own d k s=some r->aW C s r
 call:∀n e own s r,F.call n e own s=some r->aW C s r
 eG:∀b own s r,F.eG b own s=some r->aW C s r
 ej:∀d e t o own s r,F.ej d e t o own s=some r->aW C s r
 nF:∀e t own s r,F.nF e t own s=some r->aW C s r
theorem kW{C f}(hF:dZ C f)(own):∀(c)s b,argsM f own c s=some b->aW C s b|.nil,s,b,a=>by injection a with a;subst a;exact bM.refl C s|.cons i j c,s,b,a=>by refine aW.bind a (λg e=>hF.val _ _ _ _ _ e) (λv s1 _ h=>?_);refine aW.bind h (λg e=>kW hF own c s1 g e) (λk s2 _ d=>?_);injection d with d;subst d;exact bM.refl C s2
theorem uM{C f}(hF:dZ C f):∀(b)own s c,doM f b own s=some c->aW C s c|.nil,own,s,c,a=>by injection a with a;subst a;exact bM.refl C s|.cons i j l k b,own,s,c,a=>by refine aW.bind a (λm g=>hF.ej _ _ _ _ _ _ _ g) (λe s1 _ d=>?_);obtain⟨h,e⟩:=e;cases e with|some v=>injection d with d;subst d;exact bM.refl C s1|none=>exact uM hF b h s1 c d
def dZ.zero(C):dZ C Mf.zero:=by constructor<;>(intros;rename_i a;exact absurd a (by simp[Mf.zero]))
def FK{C h}(hF:dZ C h){own g j s i}(a:valM C h own g j s=some i):aW C s i:=by unfold valM at a;split at a;{injection a with a;subst a;exact bM.refl C s};split at a;{split at a;{cases d:own[g.n]? with|none=>rw[d]at a;exact absurd a Z5|some k=>rw[d]at a;injection a with a;subst a;exact bM.refl C s};{cases d:s.aq[g.n]? with|none=>rw[d]at a;exact absurd a Z5|some k=>rw[d]at a;injection a with a;subst a;exact bM.refl C s}};split at a;{split at a;{exact absurd a Z5};{exact aW.bind a (λf c=>hF.val _ _ _ _ _ c)<|λv s1 _ b=>kY b}};split at a;{exact hF.call _ _ _ _ _ a};split at a;{injection a with a;subst a;exact FI s};split at a;{split at a;{refine aW.bind a (λf c=>hF.val _ _ _ _ _ c) (λv s1 _ b=>?_);refine aW.bind b (λf c=>hF.val _ _ _ _ _ c) (λv s2 _ e=>?_);split at e<;>injection e with e<;>subst e;{exact bM.refl C s2};{exact⟨bM.refl C s2,Z5,Z5⟩}};{exact absurd a Z5}};split at a;{split at a;{exact absurd a Z5};{refine aW.bind a (λf c=>hF.val _ _ _ _ _ c) (λv s1 _ b=>?_);injection b with b;subst b;exact bM.refl C s1}};{split at a;{refine aW.bind a (λf c=>hF.val _ _ _ _ _ c) (λv s1 _ b=>?_);split at b;{injection b with b;subst b;exact bM.refl C s1};{exact hF.val _ _ _ _ _ b}};{exact absurd a Z5}}
def C8{C d}(hF:dZ C d){n g own s e}(b:callM C d n g own s=some e):aW C s e:=by unfold callM at b;split at b;{exact absurd b Z5};{split at b;{exact absurd b Z5};{refine aW.bind b (λf a=>kW hF _ _ _ _ a) (λk s1 _ h=>?_);refine aW.bind h (λf a=>by cases a;exact kZ s1) (λ_ s2 _ i=>?_);refine aW.bind i (λf a=>hF.eG _ _ _ _ a) (λl j _ c=>?_);cases c;exact bM.refl C j}}
def FJ{C g}(hF:dZ C g){i j l k own s h}(a:eB g i j l k own s=some h):aW C s h:=by unfold eB at a;split at a;{split at a;{exact absurd a Z5};{refine aW.bind a (λd c=>hF.val _ _ _ _ _ c) (λv s1 _ b=>?_);split at b;{split at b;{cases b;exact bM.refl C s1};{exact absurd b Z5}};{split at b;{cases b;exact⟨Z5,rfl,Zq _,id,Ye _⟩};{exact absurd b Z5}}}};split at a;{split at a;{refine aW.bind a (λd c=>hF.val _ _ _ _ _ c) (λm s1 _ b=>?_);refine aW.bind b (λd c=>hF.val _ _ _ _ _ c) (λv s2 _ e=>?_);refine aW.bind e (λd c=>kY c) (λ_ n _ f=>?_);cases f;exact mH _ _ _ _};{exact absurd a Z5}};split at a;{split at a;{exact absurd a Z5};{refine aW.bind a (λd c=>hF.val _ _ _ _ _ c) (λv s1 _ b=>?_);refine aW.bind b (λd c=>by cases c;exact qD v s1) (λ_ s2 _ e=>?_);cases e;exact bM.refl C s2}};split at a;{split at a;{exact absurd a Z5};{refine aW.bind a (λd c=>hF.val _ _ _ _ _ c) (λv s1 _ b=>?_);split at b<;>exact hF.eG _ _ _ _ b}};split at a;{exact hF.nF _ _ _ _ _ a};split at a;{refine aW.bind a (λd c=>hF.call _ _ _ _ _ c) (λv s1 _ b=>?_);cases b;exact bM.refl C s1};split at a;{split at a;{cases a;exact bM.refl C s};{refine aW.bind a (λd c=>hF.val _ _ _ _ _ c) (λv s1 _ b=>?_);cases b;exact bM.refl C s1}};{cases a;exact bM.refl C s}
def FM{C f}(hF:dZ C f){i l own s g}(c:jD C f i l own s=some g):aW C s g:=by unfold jD at c;split at c;{exact absurd c Z5};{refine aW.bind c (λh a=>by cases a;exact kZ s) (λ_ s1 _ j=>?_);refine aW.bind j (λh a=>hF.val _ _ _ _ _ a) (λv s2 _ b=>?_);split at b;{cases b;exact bM.refl C s2};{refine aW.bind b (λh a=>hF.eG _ _ _ _ a) (λe k _ d=>?_);obtain⟨m,e⟩:=e;cases e with|some v=>cases d;exact bM.refl C k|none=>exact hF.nF _ _ _ _ _ d}}
theorem gW(C):∀n,dZ C (mfn C n)|0=>dZ.zero C|n+1=>by have hF:=gW C n;exact⟨λ_ _ _ _ _ a=>FK hF a,λ_ _ _ _ _ a=>C8 hF a,λ_ _ _ _ a=>uM hF _ _ _ _ a,λ_ _ _ _ _ _ _ a=>FJ hF a,λ_ _ _ _ _ a=>FM hF a⟩
def XN:=@Rv.aG
end
section
variable{A E e f h m:Mf}{C c d t w:Rc}{M a k n:Nat}{b s s':Mm}{α β:Type}
structure Fi where
 params:Nat
 words:Nat
 ai:Bool
structure Cx where
 nv:Nat
 gj:List Nat
 fi:List Fi
def Dl(d:Cx)(f nw:Nat)(c:Bool)(a:Rd)(b:Nat):Prop:=(a.kind=1/\c=false/\b=0)\/(a.kind=2/\c=false/\b=0/\((a.loc=true/\a.n<nw)\/(a.loc=false/\a.n<d.nv)))\/(a.kind=3/\c=false/\b=1/\a.n<d.gj)\/(a.kind=4/\c=false/\a.n<f/\∃e,d.fi[a.n]?=some e/\e.params=b/\e.ai=true)\/(a.kind=5/\c=false/\b=0)\/(a.kind=6/\c=decide (a.op=14\/a.op=15)/\b=2/\4<=a.op/\a.op<=15)\/(a.kind=7/\c=true/\b=1)\/((a.kind=8\/a.kind=9)/\c=true/\b=2)
def mc(a:Cx)(b nw:Nat):Bool->Re->Prop|_,.nil=>True|t,.cons c d e=>Dl a b nw t c d.len/\mc a b nw (decide (7<=c.kind)) d/\mc a b nw t e
def Gf(c:Cx)(e nw:Nat)(f:Bool)(a:Rs)(b:Nat):Prop:=(a.kind=1/\b=1/\((a.loc=true/\a.n<nw)\/(a.loc=false/\a.n<c.nv)))\/(a.kind=2/\b=2/\a.n<c.gj)\/(a.kind=3/\b=1)\/(a.kind=4/\b=1)\/(a.kind=5/\b=1)\/(a.kind=6/\a.n<e/\∃d,c.fi[a.n]?=some d/\d.params=b/\d.ai=false)\/(a.kind=7/\(b=0\/(b=1/\f=true)))
def ov(a:Cx)(b nw:Nat)(c:Bool):Rb->Prop|.nil=>True|.cons d e h f g=>Gf a b nw c d e.len/\mc a b nw (decide<|d.kind=4\/d.kind=5) e/\ov a b nw c h/\ov a b nw c f/\ov a b nw c g
structure OJ(X:Cx)(a:List Rf):Prop where
 len:a.length=X.fi
 fn:∀f F,a[f]?=some F->∃g,X.fi[f]?=some g/\g.words=F.words/\g.params<=g.words/\ov X f g.words g.ai F.body
def Sw(a:Cx)(b:Mm):Prop:=b.aq=a.nv/\b.aj.map List.length=a.gj
def Sw.bC{a d e}(b:Sw a d)(c:bM C d e):Sw a e:=⟨c.aq.trans b.1,c.aj.trans b.2⟩
def Cq(a:Nat)(c:Rv<|List UInt32×Option UInt32):Prop:=match c with|.ok b _=>b.1.length=a|.stop _ _=>True
def Rv.bZ{g}{i:α->Mm->Option (Rv β)}{e:Rv β->Prop}(j:∃h,g=some h)(k:∀d b,e<|.stop d b)(l:∀a b,g=some (.ok a b)->∃c,i a b=some c/\e c):∃c,Rv.bind g i=some c/\e c:=by have⟨h,f⟩:=j;cases h with|stop d b=>exact⟨.stop d b,by rw[f];rfl,k d b⟩|ok a b=>have⟨c,n,m⟩:=l a b f;exact⟨c,by rw[f];exact n,m⟩
structure pO(C:Rc)(X M n)(F:Mf):Prop where
 val:∀f nw t own d k s,Dl X f nw t d k.len->mc X f nw (decide (7<=d.kind)) k->own.length=nw->Sw X s->2*(k.size+1)+(C.fuel-s.tk)*M+1<=n->∃r,F.val own d k s=some r/\True
 call:∀f nw wd g own e s,X.fi[g]?=some wd->wd.params=e.len->mc X f nw false e->own.length=nw->Sw X s->2*e.size+1+(C.fuel-s.tk)*M+1<=n->∃r,F.call g e own s=some r/\True
 eG:∀f nw wd own b s,ov X f nw wd b->own.length=nw->Sw X s->2*b.size+1+(C.fuel-s.tk)*M+1<=n->∃r,F.eG b own s=some r/\Cq nw r
 ej:∀f nw wd own d e t o s,Gf X f nw wd d e.len->mc X f nw (decide<|d.kind=4\/d.kind=5) e->ov X f nw wd t->ov X f nw wd o->own.length=nw->Sw X s->2*(e.size+t.size+o.size+1)+(C.fuel-s.tk)*M+1<=n->∃r,F.ej d e t o own s=some r/\Cq nw r
 nF:∀f nw wd own e t s,e.len=1->mc X f nw true e->ov X f nw wd t->own.length=nw->Sw X s->2*(e.size+t.size)+1+(C.fuel-s.tk)*M+1<=n->∃r,F.nF e t own s=some r/\Cq nw r
def xH{b}(c:a<=b):a*n<=b*n:=WM n c
def dS{c:Mm}(a)(d:b.tk<=c.tk):(C.fuel-c.tk)*a<=(C.fuel-b.tk)*a:=xH Z9
def tf(a)(b:s.tk<s'.tk)(c:s.tk<C.fuel):(C.fuel-s'.tk)*a+a<=(C.fuel-s.tk)*a:=by have:(C.fuel-s'.tk+1)*a<=(C.fuel-s.tk)*a:=xH Z9;rw[WX,XB]at this;exact this
theorem tQ{i}(p:dZ d h)(hF:pO d i n k h)(j nw own)(q:own.length=nw):∀(b)c,mc i j nw false b->Sw i c->2*b.size+(d.fuel-c.tk)*n+1<=k->∃g,argsM h own b c=some g/\(∀e m,g=.ok e m->e=b.len)|.nil,c,_,_,_=>⟨.ok [] c,rfl,λe m a=>by injection a with a _;subst a;rfl⟩|.cons o l b,c,⟨D,E,F⟩,s,z=>by have w:(Ef.cons o l b).size=l.size+b.size+1:=rfl;rw[w]at z;obtain⟨g,A,_⟩:=hF.val j nw false own o l c D E q s Z9;refine Rv.bZ ⟨g,A⟩ (λ_ _ _ _ a=>by cases a) (λv u x=>?_);have t:bM d c u:=p.val _ _ _ _ _ x;have:=dS (C:=d) n t.tk;obtain⟨B,r,y⟩:=tQ p hF j nw own q b u F (s.bC t) Z9;refine Rv.bZ ⟨B,r⟩ (λ_ _ _ _ a=>by cases a) (λe C f=>⟨_,rfl,λG m a=>?_⟩);injection a with a _;subst a;rw[r]at f;injection f with f;simp[y e C f,Ef.len]
theorem BI{g}(r:dZ c f)(hF:pO c g n k f)(i nw p):∀(b)own a,ov g i nw p b->own.length=nw->Sw g a->2*b.size+(c.fuel-a.tk)*n+1<=k->∃e,doM f b own a=some e/\Cq nw e|.nil,own,a,_,j,_,_=>⟨_,rfl,j⟩|.cons q h o l b,own,a,⟨B,C,D,E,F⟩,j,u,z=>by have y:(Sf.cons q h o l b).size=h.size+o.size+l.size+b.size+1:=rfl;rw[y]at z;obtain⟨e,t,s⟩:=hF.ej i nw p own q h o l a B C D E j u Z9;refine Rv.bZ ⟨e,t⟩ (λ_ _=>trivial) (λm x d=>?_);have w:bM c a x:=r.ej _ _ _ _ _ _ _ d;rw[t]at d;injection d with d;subst d;obtain⟨A,m⟩:=m;cases m with|some v=>exact⟨_,rfl,s⟩|none=>have:=dS (C:=c) n w.tk;exact BI r hF i nw p b A x F s (u.bC w) Z9
def km{l:List (List UInt32)}(a:n<(l.map List.length)):∃b,l[n]?=some b:=⟨l[n]'(by simpa using a),Zp _⟩
def AU{c}(g)(f:Sw c b)(d:a<c.gj):∃h,atM a g b=some h:=by have⟨i,e⟩:=km (l:=b.aj) (n:=a) (by rw[f.2];exact d);unfold atM;rw[e];dsimp only;split<;>exact⟨_,rfl⟩
def GG{y}(C:dZ t A)(hF:pO t y n k A)(f nw N own z v j)(J:Dl y f nw N z v.len)(i:mc y f nw (decide (7<=z.kind)) v)(l:own.length=nw)(g:Sw y j)(Q:2*(v.size+1)+(t.fuel-j.tk)*n<=k):∃h,valM t A own z v j=some h/\True:=by unfold valM;obtain⟨c,_,_⟩|⟨c,_,_,p⟩|⟨c,_,e,p⟩|⟨c,_,p,I,K,L,P⟩|⟨c,_,_⟩|⟨c,R,e,_,_⟩|⟨c,_,e⟩|⟨c,_,e⟩:=J;{rw[if_pos c];exact⟨_,rfl,trivial⟩};{rw[if_neg Z9,if_pos c];obtain⟨e,p⟩|⟨e,p⟩:=p;{rw[e,if_pos rfl,Zp Z9];exact⟨_,rfl,trivial⟩};{rw[e,if_neg Z5,Zp (by rw[g.1];exact p)];exact⟨_,rfl,trivial⟩}};{rw[if_neg Z9,if_neg Z9,if_pos c];obtain⟨a,d,rfl⟩:=VB e;rw[c]at i;have⟨r,s,_⟩:=i;have B:(Ef.cons a d Ef.nil).size=d.size+0+1:=rfl;have⟨h,o,_⟩:=hF.val f nw _ own a d j r s l g Z9;refine Rv.bZ ⟨h,o⟩ (λ_ _=>trivial) (λH x u=>?_);have⟨E,D⟩:=AU H (g.bC<|C.val _ _ _ _ _ u) p;exact⟨E,D,trivial⟩};{rw[if_neg Z9,if_neg Z9,if_neg Z9,if_pos c];exact hF.call f nw I z.n own v j K L (by rw[c]at i;exact i) l g Z9};{rw[if_neg Z9,if_neg Z9,if_neg Z9,if_neg Z9,if_pos c];exact⟨_,rfl,trivial⟩};{rw[if_neg Z9,if_neg Z9,if_neg Z9,if_neg Z9,if_neg Z9,if_pos c];obtain⟨a,d,b,q,rfl⟩:=Vb e;rw[c]at i;have⟨r,s,F,G,_⟩:=i;have B:(Ef.cons a d<|Ef.cons b q Ef.nil).size=d.size+(q.size+0+1)+1:=rfl;have⟨h,o,_⟩:=hF.val f nw _ own a d j r s l g Z9;refine Rv.bZ ⟨h,o⟩ (λ_ _=>trivial) (λM x u=>?_);have w:=C.val _ _ _ _ _ u;have:=dS (C:=t) n w.tk;have⟨E,D,_⟩:=hF.val f nw _ own b q x F G l (g.bC w) Z9;refine Rv.bZ ⟨E,D⟩ (λ_ _=>trivial) (λm S O=>?_);split<;>exact⟨_,rfl,trivial⟩};{rw[if_neg Z9,if_neg Z9,if_neg Z9,if_neg Z9,if_neg Z9,if_neg Z9,if_pos c];obtain⟨a,d,rfl⟩:=VB e;have⟨r,s,_⟩:=i;have B:(Ef.cons a d Ef.nil).size=d.size+0+1:=rfl;have⟨h,o,_⟩:=hF.val f nw _ own a d j r s l g Z9;exact Rv.bZ ⟨h,o⟩ (λ_ _=>trivial)<|λH x u=>⟨_,rfl,trivial⟩};{rw[if_neg Z9,if_neg Z9,if_neg Z9,if_neg Z9,if_neg Z9,if_neg Z9,if_neg Z9];obtain⟨a,d,b,q,rfl⟩:=Vb e;have⟨r,s,F,G,_⟩:=i;have B:(Ef.cons a d<|Ef.cons b q Ef.nil).size=d.size+(q.size+0+1)+1:=rfl;have⟨h,o,_⟩:=hF.val f nw _ own a d j r s l g Z9;refine Rv.bZ ⟨h,o⟩ (λ_ _=>trivial) (λM x u=>?_);have w:=C.val _ _ _ _ _ u;have:=dS (C:=t) n w.tk;split;{exact⟨_,rfl,trivial⟩};{exact hF.val f nw _ own b q x F G l (g.bC w) Z9}}
def Dv{b g}(v:OJ g b.fs)(z:∀(j:Nat)e,b.fs[j]?=some e->2*e.body.size+2<=n)(u:dZ b e)(hF:pO b g n k e)(j nw i c own f o)(w:g.fi[c]?=some i)(L:i.params=f.len)(E:mc g j nw false f)(C:own.length=nw)(q:Sw g o)(K:2*f.size+1+(b.fuel-o.tk)*n<=k):∃t,callM b e c f own o=some t/\True:=by have B:c<b.fs:=by{rw[v.len];exact(Zm.1 w).1};have p:=Zp B;have⟨O,l,H,I,y⟩:=v.fn c _ p;rw[w]at l;cases l;unfold callM;rw[p];dsimp only;rw[if_neg Z9];have⟨t,x,A⟩:=tQ u hF j nw own C f o E q Z9;refine Rv.bZ ⟨t,x⟩ (λ_ _=>trivial) (λm d h=>?_);have s:=kW u _ _ _ _ h;have m1:=dS (C:=b) n s.tk;have J:m=f.len:=by{rw[x]at h;injection h with h;exact A m d h};by_cases r:d.tk<b.fuel;{have m2:=tf (C:=b) (s:=d) (s':={d with tk:=d.tk+1}) n (YP _) r;have:=z c _ p;have⟨F,D,_⟩:=hF.eG c i.words i.ai _ b.fs[c].body {d with tk:=d.tk+1} y (by rw[Zn,Yv];omega:(m++List.replicate (b.fs[c].words-m) 0).length=i.words) ⟨(q.bC s).1,(q.bC s).2⟩ Z9;refine Rv.bZ ⟨_,rfl⟩ (λ_ _=>trivial) (λ_ G a=>?_);unfold dG at a;rw[if_pos r]at a;injection a with a;cases a;exact Rv.bZ ⟨F,D⟩ (λ_ _=>trivial)<|λM N _=>⟨_,rfl,trivial⟩};{refine Rv.bZ ⟨_,rfl⟩ (λ_ _=>trivial) (λ_ G a=>?_);unfold dG at a;rw[if_neg r]at a;injection a with a;cases a}
def GF{x}(C:dZ w E)(hF:pO w x n k E)(g nw y own z s A D l)(I:Gf x g nw y z s.len)(m:mc x g nw (decide<|z.kind=4\/z.kind=5) s)(G:ov x g nw y A)(L:ov x g nw y D)(d:own.length=nw)(i:Sw x l)(W:2*(s.size+A.size+D.size+1)+(w.fuel-l.tk)*n<=k):∃e,eB E z s A D own l=some e/\Cq nw e:=by unfold eB;obtain⟨f,h,t⟩|⟨f,h,t⟩|⟨f,h⟩|⟨f,h⟩|⟨f,h⟩|⟨f,t,H,K,M,V⟩|⟨f,h⟩:=I;{rw[if_pos f];obtain⟨a,c,rfl⟩:=VB h;have⟨p,q,_⟩:=m;have B:(Ef.cons a c Ef.nil).size=c.size+0+1:=rfl;have⟨e,j,_⟩:=hF.val g nw _ own a c l p q d i Z9;refine Rv.bZ ⟨e,j⟩ (λ_ _=>trivial) (λv o r=>?_);obtain⟨h,t⟩|⟨h,t⟩:=t;{rw[h,if_pos rfl,if_pos Z9];exact⟨_,rfl,by show(own.set _ _)=nw;rw[Xz];exact d⟩};{rw[h,if_neg Z5,if_pos (by rw[(i.bC<|C.val _ _ _ _ _ r).1];exact t)];exact⟨_,rfl,d⟩}};{rw[if_neg Z9,if_pos f];obtain⟨a,c,b,F,rfl⟩:=Vb h;have⟨p,q,T,U,_⟩:=m;have B:(Ef.cons a c<|Ef.cons b F Ef.nil).size=c.size+(F.size+0+1)+1:=rfl;have⟨e,j,_⟩:=hF.val g nw _ own a c l p q d i Z9;refine Rv.bZ ⟨e,j⟩ (λ_ _=>trivial) (λP o r=>?_);have u:=C.val _ _ _ _ _ r;have:=dS (C:=w) n u.tk;have⟨Q,N,_⟩:=hF.val g nw _ own b F o T U d (i.bC u) Z9;refine Rv.bZ ⟨Q,N⟩ (λ_ _=>trivial) (λv S J=>?_);have⟨R,O⟩:=AU P ((i.bC u).bC<|C.val _ _ _ _ _ J) t;exact Rv.bZ ⟨R,O⟩ (λ_ _=>trivial)<|λ_ X _=>⟨_,rfl,d⟩};{rw[if_neg Z9,if_neg Z9,if_pos f];obtain⟨a,c,rfl⟩:=VB h;have⟨p,q,_⟩:=m;have B:(Ef.cons a c Ef.nil).size=c.size+0+1:=rfl;have⟨e,j,_⟩:=hF.val g nw _ own a c l p q d i Z9;refine Rv.bZ ⟨e,j⟩ (λ_ _=>trivial) (λv o r=>?_);exact Rv.bZ ⟨_,rfl⟩ (λ_ _=>trivial)<|λ_ S _=>⟨_,rfl,d⟩};{rw[if_neg Z9,if_neg Z9,if_neg Z9,if_pos f];obtain⟨a,c,rfl⟩:=VB h;have⟨p,q,_⟩:=m;have B:(Ef.cons a c Ef.nil).size=c.size+0+1:=rfl;have⟨e,j,_⟩:=hF.val g nw _ own a c l p q d i Z9;refine Rv.bZ ⟨e,j⟩ (λ_ _=>trivial) (λv o r=>?_);have u:bM w l o:=C.val _ _ _ _ _ r;have:=dS (C:=w) n u.tk;split;{exact hF.eG g nw y own D o L d (i.bC u) Z9};{exact hF.eG g nw y own A o G d (i.bC u) Z9}};{rw[if_neg Z9,if_neg Z9,if_neg Z9,if_neg Z9,if_pos f];exact hF.nF g nw y own s A l h (by rw[f]at m;exact m) G d i Z9};{rw[if_neg Z9,if_neg Z9,if_neg Z9,if_neg Z9,if_neg Z9,if_pos f];have⟨e,j,_⟩:=hF.call g nw H z.n own s l K M (by rw[f]at m;exact m) d i Z9;exact Rv.bZ ⟨e,j⟩ (λ_ _=>trivial)<|λv o r=>⟨_,rfl,d⟩};{rw[if_neg Z9,if_neg Z9,if_neg Z9,if_neg Z9,if_neg Z9,if_neg Z9,if_pos f];cases s with|nil=>exact⟨_,rfl,d⟩|cons a c e=>have⟨p,q,_⟩:=m;have B:(Ef.cons a c e).size=c.size+e.size+1:=rfl;have⟨e,j,_⟩:=hF.val g nw _ own a c l p q d i Z9;exact Rv.bZ ⟨e,j⟩ (λ_ _=>trivial)<|λv o r=>⟨_,rfl,d⟩}
def GH{h}(O:1<=n)(y:dZ c m)(hF:pO c h n k m)(e nw w own i g d)(z:i.len=1)(H:mc h e nw true i)(C:ov h e nw w g)(p:own.length=nw)(q:Sw h d)(P:2*(i.size+g.size)+1+(c.fuel-d.tk)*n<=k):∃j,jD c m i g own d=some j/\Cq nw j:=by obtain⟨a,t,rfl⟩:=VB z;unfold jD;dsimp only;refine Rv.bZ ⟨_,rfl⟩ (λ_ _=>trivial) (λ_ l b=>?_);have r:bM c d l:=by{injection b with b;have:=kZ (C:=c) d;rw[b]at this;exact this};by_cases o:d.tk<c.fuel;{have x:l.tk=d.tk+1:=by{unfold dG at b;rw[if_pos o]at b;injection b with b;cases b;rfl};have m1:=tf (C:=c) (s:=d) (s':=l) n Z9 o;have⟨E,F,M⟩:=H;have N:(Ef.cons a t Ef.nil).size=t.size+0+1:=rfl;have⟨j,G,_⟩:=hF.val e nw _ own a t l E F p (q.bC r) Z9;refine Rv.bZ ⟨j,G⟩ (λ_ _=>trivial) (λv K x=>?_);have s:=y.val _ _ _ _ _ x;have m2:=dS (C:=c) n s.tk;split;{exact⟨_,rfl,p⟩};{have⟨J,B,A⟩:=hF.eG e nw w own g K C p ((q.bC r).bC s) Z9;refine Rv.bZ ⟨J,B⟩ (λ_ _=>trivial) (λu L f=>?_);have D:=y.eG _ _ _ _ f;have Q:=dS (C:=c) n D.tk;rw[B]at f;cases f;have⟨I,u⟩:=u;cases u with|some v=>exact⟨_,rfl,A⟩|none=>exact hF.nF e nw w I _ g L z ⟨E,F,M⟩ C A (((q.bC r).bC s).bC D) Z9}};{unfold dG at b;rw[if_neg o]at b;injection b with b;cases b}
theorem xC{o}(r:OJ o C.fs)(p:1<=M)(q:∀(d:Nat)l,C.fs[d]?=some l->2*l.body.size+2<=M):∀n,pO C o M n (mfn C n)|0=>⟨λ_ _ _ _ _ _ _ _ _ _ _ c=>absurd c (by omega),λ_ _ _ _ _ _ _ _ _ _ _ _ c=>absurd c (by omega),λ_ _ _ _ _ _ _ _ _ c=>absurd c (by omega),λ_ _ _ _ _ _ _ _ _ _ _ _ _ _ _ c=>absurd c (by omega),λ_ _ _ _ _ _ _ _ _ _ _ _ c=>absurd c (by omega)⟩|n+1=>by have hF:=xC r p q n;have j:=gW C n;exact⟨λd nw k own f u g a b e h m=>GG j hF d nw k own f u g a b e h Z9,λd nw i s own h g a b e f c m=>Dv r q j hF d nw i s own h g a b e f c Z9,λd nw i own b g a e f m=>BI j hF d nw i b own g a e f Z9,λd nw i own f h k v g a b e w c t m=>GF j hF d nw i own f h k v g a b e w c t Z9,λd nw i own h k g a b e f c m=>GH p j hF d nw i own h k g a b e f c Z9⟩
def WS:=@Rv.bZ
end
section
variable{b:Mm}{d:Rc}{α:Type}{a:Nat}{C:Rc}{β:Type}{c:Rc}{n:Nat}
variable{Fb z:Mf}{I J l:Rb}{e:UInt32}{f:Rd}{h:Rs}{i:Rc}{k r y:Mm}{m q:Re}{own:List UInt32}{s t:Rv UInt32}
def Rv.st{b}:Rv b->Mm|.ok _ a=>a|.stop _ a=>a
def aW.st{c:Rv α}(e:aW d b c):bM d b c.st:=by cases c with|ok a b=>exact e|stop f b=>exact e.1
end
section
variable{a:Nat}{n:Nat}
structure Mi where
 op:Nat
 a:Nat
 b:Nat
 c:Nat
structure Mv where
 D:Nat
 C:List UInt32
 aE:List UInt8
 CJ:UInt32->Option Mi
structure Ks where
 pc:Nat
 aC:Nat->UInt32
 mem:Nat->UInt32
 rd:Nat
 out:List UInt8
 st:Nat
 bc:Nat
def aL(c:Nat->UInt32)(a:Nat)(d:UT):Nat->UInt32:=λb=>if b=a then d else c b
def aO(c a b):aL c a b a=b:=if_pos rfl
def dI(b d)(c:n≠a):aL b a d n=b n:=if_neg c
def mdo(c:Mv)(b:Mi)(a:Ks):Ks:=if b.op=1 then⟨a.pc+1,aL a.aC b.a<|UInt32.ofNat b.c,a.mem,a.rd,a.out,a.st+1,0⟩else if b.op=2 then⟨a.pc+1,aL a.aC b.a ((a.aC b.a&&&(65535:UT))|||(UInt32.ofNat b.c<<<(16:UT))),a.mem,a.rd,a.out,a.st+1,0⟩else if b.op=3 then⟨a.pc+1,aL a.aC b.a<|a.aC b.b,a.mem,a.rd,a.out,a.st+1,0⟩else if b.op=16 then(if(a.aC b.b+UInt32.ofNat b.c).toNat<c.D then⟨a.pc+1,aL a.aC b.a<|a.mem (a.aC b.b+UInt32.ofNat b.c).toNat,a.mem,a.rd,a.out,a.st+1,0⟩else{a with st:=a.st+1,bc:=8})else if b.op=17 then(if(a.aC b.b+UInt32.ofNat b.c).toNat<c.D then⟨a.pc+1,a.aC,aL a.mem (a.aC b.b+UInt32.ofNat b.c).toNat<|a.aC b.a,a.rd,a.out,a.st+1,0⟩else{a with st:=a.st+1,bc:=8})else if b.op=18 then⟨b.c,a.aC,a.mem,a.rd,a.out,a.st+1,0⟩else if b.op=19 then⟨if a.aC b.a=0 then b.c else a.pc+1,a.aC,a.mem,a.rd,a.out,a.st+1,0⟩else if b.op=20 then⟨if a.aC b.a=0 then a.pc+1 else b.c,a.aC,a.mem,a.rd,a.out,a.st+1,0⟩else if b.op=21 then⟨b.c,aL a.aC b.a<|UInt32.ofNat<|a.pc+1,a.mem,a.rd,a.out,a.st+1,0⟩else if b.op=22 then⟨(a.aC b.a),a.aC,a.mem,a.rd,a.out,a.st+1,0⟩else if b.op=23 then(match c.aE[a.rd]? with|none=>⟨a.pc+1,aL a.aC b.a 256,a.mem,a.rd,a.out,a.st+1,0⟩|some d=>⟨a.pc+1,aL a.aC b.a<|UInt32.ofNat d,a.mem,a.rd+1,a.out,a.st+1,0⟩)else if b.op=24 then(if a.out.length<65536 then⟨a.pc+1,a.aC,a.mem,a.rd,a.out++[UInt8.ofNat<|a.aC b.a],a.st+1,0⟩else{a with st:=a.st+1,bc:=4})else if b.op=25 then(if(a.aC b.a)<(UInt32.ofNat b.c).toNat then⟨a.pc+1,a.aC,a.mem,a.rd,a.out,a.st+1,0⟩else{a with st:=a.st+1,bc:=3})else if b.op=26 then{a with st:=a.st+1,bc:=1}else if b.op=27 then(match c.C[(a.aC b.b+UInt32.ofNat b.c).toNat]? with|none=>{a with st:=a.st+1,bc:=8}|some d=>⟨a.pc+1,aL a.aC b.a d,a.mem,a.rd,a.out,a.st+1,0⟩)else if(bJ b.op (a.aC b.b)<|a.aC b.c).2=0 then⟨a.pc+1,aL a.aC b.a (bJ b.op (a.aC b.b)<|a.aC b.c).1,a.mem,a.rd,a.out,a.st+1,0⟩else{a with st:=a.st+1,bc:=2}
def mstep(b:Mv)(a:Ks):Ks:=if a.bc≠0 then a else match b.C[a.pc]? with|none=>{a with bc:=7}|some d=>match b.CJ d with|none=>{a with st:=a.st+1,bc:=6}|some c=>mdo b c a
def mrun(b:Mv):Nat->Ks->Ks|0,a=>a|n+1,a=>mrun b n<|mstep b a
def k0:Ks:=⟨0,λ_=>0,λ_=>0,0,[],0,0⟩
theorem au(b):∀(m a)c,mrun b (m+a) c=mrun b a (mrun b m c)|0,a,c=>by rw[Y5];rfl|m+1,a,c=>by rw[Nat.add_right_comm];exact au b m a _
def tu{b a}(c:a.bc≠0):mstep b a=a:=by unfold mstep;rw[if_pos c]
theorem kr{V s}(a:s.bc≠0):∀n,mrun V n s=s|0=>rfl|n+1=>by show mrun V n (mstep V s)=s;rw[tu a];exact kr a n
def pq(a:Mv)(f:Nat)(e:List Mi):Prop:=∀c b,e[c]?=some b->∃d,a.C[f+c]?=some d/\a.CJ d=some b
def pq.left{c a b}(e:pq c n<|a++b):pq c n a:=λg f d=>e g f (by rw[Y3 (Zm.1 d).1];exact d)
def pq.right{c a b}(d:pq c n<|a++b):pq c (n+a) b:=λg f e=>by have:=d (a+g) f (by rw[Y0 Z9,XW];exact e);rwa[<-Yq]at this
def pq.tail{c f b}(d:pq c n (f::b)):pq c (n+1) b:=λa g e=>by have:=d (a+1) g e;rwa[show n+(a+1)=n+1+a by omega]at this
def F6{c a d b}(f:pq c a.pc (d::b))(h:a.bc=0):mstep c a=mdo c d a:=by obtain⟨i,e,g⟩:=f 0 d rfl;rw[Yy]at e;unfold mstep;rw[if_neg Z9,e];dsimp only;rw[g]
structure we(s:Ks):Prop where
 bc:s.bc=0
 r0:s.aC 0=0
 js:s.aC 15=1
structure Nx(V s n p m a):Prop where
 run:mrun V n s=a
 pc:a.pc=p
 mem:a.mem=m
 rd:a.rd=s.rd
 out:a.out=s.out
 ok:we a
def bY(a:n<4294967296):(UInt32.ofNat n)=n:=by rw[Yc];exact XM a
def Cm(a:n<4294967296):(0+UInt32.ofNat n).toNat=n:=by rw[UInt32.zero_add];exact bY a
def dr{c b}(d:we b)(e:n<c.D)(f:c.D<4294967296):mdo c ⟨16,a,0,n⟩ b=⟨b.pc+1,aL b.aC a<|b.mem n,b.mem,b.rd,b.out,b.st+1,0⟩:=by show(if(b.aC 0+UInt32.ofNat n).toNat<c.D then⟨b.pc+1,aL b.aC a<|b.mem (b.aC 0+UInt32.ofNat n).toNat,b.mem,b.rd,b.out,b.st+1,0⟩else{b with st:=b.st+1,bc:=8})=_;rw[d.r0,Cm Z9,if_pos e]
def gm{c b}(d:we b)(e:n<c.D)(f:c.D<4294967296):mdo c ⟨17,a,0,n⟩ b=⟨b.pc+1,b.aC,aL b.mem n<|b.aC a,b.rd,b.out,b.st+1,0⟩:=by show(if(b.aC 0+UInt32.ofNat n).toNat<c.D then⟨b.pc+1,b.aC,aL b.mem (b.aC 0+UInt32.ofNat n).toNat<|b.aC a,b.rd,b.out,b.st+1,0⟩else{b with st:=b.st+1,bc:=8})=_;rw[d.r0,Cm Z9,if_pos e]
def Bz{d c b}(f:(c.aC b)+n<d.D)(g:d.D<4294967296):mdo d ⟨17,a,b,n⟩ c=⟨c.pc+1,c.aC,aL c.mem ((c.aC b)+n)<|c.aC a,c.rd,c.out,c.st+1,0⟩:=by have e:(c.aC b+UInt32.ofNat n).toNat=(c.aC b)+n:=by{rw[WJ,bY Z9];exact XM Z9};show(if(c.aC b+UInt32.ofNat n).toNat<d.D then⟨c.pc+1,c.aC,aL c.mem (c.aC b+UInt32.ofNat n).toNat<|c.aC a,c.rd,c.out,c.st+1,0⟩else{c with st:=c.st+1,bc:=8})=_;rw[e,if_pos f]
def Jf{d c b}(f:(c.aC b)+n<d.D)(g:d.D<4294967296):mdo d ⟨16,a,b,n⟩ c=⟨c.pc+1,aL c.aC a<|c.mem<|(c.aC b)+n,c.mem,c.rd,c.out,c.st+1,0⟩:=by have e:(c.aC b+UInt32.ofNat n).toNat=(c.aC b)+n:=by{rw[WJ,bY Z9];exact XM Z9};show(if(c.aC b+UInt32.ofNat n).toNat<d.D then⟨c.pc+1,aL c.aC a<|c.mem (c.aC b+UInt32.ofNat n).toNat,c.mem,c.rd,c.out,c.st+1,0⟩else{c with st:=c.st+1,bc:=8})=_;rw[e,if_pos f]
def uY(e c a b d):mdo e ⟨1,a,b,d⟩ c=⟨c.pc+1,aL c.aC a<|UInt32.ofNat d,c.mem,c.rd,c.out,c.st+1,0⟩:=rfl
def Jg(e c a b d):mdo e ⟨2,a,b,d⟩ c=⟨c.pc+1,aL c.aC a ((c.aC a&&&65535)|||(UInt32.ofNat d<<<(16:UT))),c.mem,c.rd,c.out,c.st+1,0⟩:=rfl
def L5(e c a b d):mdo e ⟨19,a,b,d⟩ c=⟨if c.aC a=0 then d else c.pc+1,c.aC,c.mem,c.rd,c.out,c.st+1,0⟩:=rfl
def Je(e c a b d):mdo e ⟨20,a,b,d⟩ c=⟨if c.aC a=0 then c.pc+1 else d,c.aC,c.mem,c.rd,c.out,c.st+1,0⟩:=rfl
def By(d c a b e):mdo d ⟨22,a,b,e⟩ c=⟨(c.aC a),c.aC,c.mem,c.rd,c.out,c.st+1,0⟩:=rfl
def qO(f c d a b e)(g:4<=d)(h:d<=15):mdo f ⟨d,a,b,e⟩ c=if(bJ d (c.aC b)<|c.aC e).2=0 then⟨c.pc+1,aL c.aC a (bJ d (c.aC b)<|c.aC e).1,c.mem,c.rd,c.out,c.st+1,0⟩else{c with st:=c.st+1,bc:=2}:=by unfold mdo;dsimp only;repeat rw[if_neg Z9]
def tq(f c)(d a b e:Nat)(h:4<=d)(i:d<=15){v}(g:bJ d (c.aC b) (c.aC e)=(v,0)):mdo f ⟨d,a,b,e⟩ c=⟨c.pc+1,aL c.aC a v,c.mem,c.rd,c.out,c.st+1,0⟩:=by rw[qO f c d a b e h i,if_pos (by rw[g]),g]
def pE(e c a b d)(f:d<4294967296):mdo e ⟨25,a,b,d⟩ c=if(c.aC a)<d then⟨c.pc+1,c.aC,c.mem,c.rd,c.out,c.st+1,0⟩else{c with st:=c.st+1,bc:=3}:=by show(if(c.aC a)<(UInt32.ofNat d).toNat then⟨c.pc+1,c.aC,c.mem,c.rd,c.out,c.st+1,0⟩else{c with st:=c.st+1,bc:=3})=_;rw[bY f]
def uZ(d c a b e):mdo d ⟨24,a,b,e⟩ c=if c.out.length<65536 then⟨c.pc+1,c.aC,c.mem,c.rd,c.out++[UInt8.ofNat<|c.aC a],c.st+1,0⟩else{c with st:=c.st+1,bc:=4}:=rfl
theorem Jd(d c a b e):mdo d ⟨23,a,b,e⟩ c=match d.aE[c.rd]? with|none=>⟨c.pc+1,aL c.aC a 256,c.mem,c.rd,c.out,c.st+1,0⟩|some f=>⟨c.pc+1,aL c.aC a<|UInt32.ofNat f,c.mem,c.rd+1,c.out,c.st+1,0⟩:=rfl
def aH{a c e b}(d)(f:pq a c.pc (e::b))(g:c.bc=0):mrun a (d+1) c=mrun a d (mdo a e c):=by show mrun a d (mstep a c)=_;rw[F6 f g]
end
section
structure Si where
 op:Nat
 a:Nat
 b:Nat
 n:UInt32
structure Gi where
 i:Mi
 h:Option (Nat×Option Nat)
structure Em where
 last:Nat
 params:Nat->Nat
 first:Nat->Nat
 aU:Nat->Nat
 ai:Nat->Bool
 base:Nat->Nat
 ba:Nat->Nat
def gi(e a b c:Nat):Gi:=⟨⟨e,a,b,c⟩,none⟩
def mS(a:UT):List Gi:=gi 1 1 0 (a%65536)::if 65535<a.toNat then[gi 2 1 0<|a/65536]else[]
def gA(E:Em)(f d a:Nat):Nat->Nat->List Gi|_,0=>[]|b,m+1=>gi 16 1 0 (E.base f+d-(E.params a-b))::gi 17 1 0 (E.first a+b)::gA E f d a (b+1) m
def gO(E:Em)(f d:Nat)(i:Si):List Gi:=if i.op=1 then mS i.n++[gi 17 1 0<|E.base f+d]else if i.op=2 then[gi 16 1 0 i.a,gi 17 1 0<|E.base f+d]else if i.op=3 then[gi 16 1 0<|E.base f+d-1,gi 17 1 0 i.a]else if i.op=4 then[gi 16 1 0<|E.base f+d-1,gi 25 1 0 i.b,gi 16 1 1 i.a,gi 17 1 0<|E.base f+d-1]else if i.op=5 then[gi 16 1 0<|E.base f+d-2,gi 25 1 0 i.b,gi 16 2 0<|E.base f+d-1,gi 17 2 1 i.a]else if i.op=6 then[gi 16 1 0<|E.base f+d-2,gi 16 2 0<|E.base f+d-1,gi i.a 1 1 2,gi 17 1 0<|E.base f+d-2]else if i.op=7 then[gi 16 1 0<|E.base f+d-1,gi 15 1 1 0,gi 17 1 0<|E.base f+d-1]else if i.op=8 then[⟨⟨18,0,0,0⟩,some (f,some i.a)⟩]else if i.op=9 then[gi 16 1 0<|E.base f+d-1,⟨⟨19,1,0,0⟩,some (f,some i.a)⟩]else if i.op=10 then gA E f d i.a 0 (E.params i.a)++[⟨⟨21,14,0,0⟩,some (i.a,none)⟩]++(if E.ai i.a then[gi 17 1 0<|E.base f+d-E.params i.a]else[])else if i.op=11 then(if f=E.last then[gi 26 0 0 0]else(if E.ai f then[gi 16 1 0<|E.base f+d-1]else[])++[gi 16 14 0<|E.ba f,gi 22 14 0 0])else if i.op=12 then[gi 23 1 0 0,gi 17 1 0<|E.base f+d]else[gi 16 1 0<|E.base f+d-1,gi 24 1 0 0]
def gv(from_ m a:Nat):List Gi:=if m<=6 then(List.range m).map λb=>gi 17 0 0 (from_+b)else[gi 1 1 0 from_,gi 1 2 0<|from_+m,gi 17 0 1 0,gi 4 1 1 15,gi 14 3 1 2,gi 20 3 0 a]
def dP(E:Em)(f at_:Nat):List Gi:=if f=E.last then[]else gi 17 14 0 (E.ba f)::gv (E.first f+E.params f) (E.aU f-E.params f) (at_+3)
def aS(E:Em)(f:Nat)(i:Si):Nat:=if i.op=3\/i.op=9\/i.op=13\/i.op=4\/i.op=7 then 1 else if i.op=5\/i.op=6 then 2 else if i.op=10 then E.params i.a else if i.op=11 then(if E.ai f then 1 else 0)else 0
def gX(E:Em)(i:Si):Nat:=if i.op=1\/i.op=2\/i.op=12\/i.op=4\/i.op=7\/i.op=6 then 1 else if i.op=10 then(if E.ai i.a then 1 else 0)else 0
def df(i:Si)(at_:Nat):List Nat:=if i.op=8 then[i.a]else if i.op=9 then[at_+1,i.a]else if i.op=11 then[]else[at_+1]
structure Cg where
 V:Mv
 E:Em
 sc:Nat->List Si
 dv:Nat->Nat->Option Nat
 ah:Nat->Nat->Nat
 entry:Nat->Nat
 ue:Nat->Nat
 W:Nat
def Cg.res(G:Cg)(a:Gi):Mi:=match a.h with|none=>a.i|some (f,none)=>{a.i with c:=G.entry f}|some (f,some p)=>{a.i with c:=G.ah f p}
structure nK(G:Cg):Prop where
 gP:∀f i s d,f<=G.E.last->(G.sc f)[i]?=some s->G.dv f i=some d->pq G.V (G.ah f i) ((gO G.E f d s).map G.res)/\G.ah f (i+1)=G.ah f i+(gO G.E f d s)
 mono:∀f i,G.ah f i<=G.ah f (i+1)
 step:∀f i s d,f<=G.E.last->(G.sc f)[i]?=some s->G.dv f i=some d->aS G.E f s<=d/\∀j∈df s i,G.dv f j=(d-aS G.E f s+gX G.E s)
 P6:∀f,f<G.E.last->pq G.V (G.entry f) ((dP G.E f<|G.entry f).map G.res)/\G.ah f 0=G.entry f+(dP G.E f<|G.entry f)
 start:∀f,f<=G.E.last->G.dv f 0=some 0
 deep:∀f i d,f<=G.E.last->G.dv f i=some d->G.E.base f+d<=G.ue f
 data:G.V.D<=32768
 code:∀f i,f<=G.E.last->i<=(G.sc f).length->G.ah f i<=G.V.C
 size:G.V.C.length<=16384
 ue:∀f,f<=G.E.last->G.ue f<=G.V.D
 nE:∀g f,g<f->f<=G.E.last->G.ue g<=G.E.ba f
 ba:∀f,f<=G.E.last->G.W<=G.E.ba f/\G.E.ba f<=G.E.base f/\(f<G.E.last->G.E.ba f<G.E.base f/\G.E.ba f<G.V.D)
 first:∀g f,g<f->f<=G.E.last->G.E.first g+G.E.aU g<=G.E.first f
 words:∀f,f<=G.E.last->G.E.first f+G.E.aU f<=G.W
 W:G.W<=G.V.D
 Lp:∀f,f<=G.E.last->G.E.params f<=G.E.aU f
def nK.dN{G}(a:nK G)(f){i n}(b:i<=n):G.ah f i<=G.ah f n:=by induction b with|refl=>exact Zq _|step _ c=>exact Zb c<|a.mono f _
def aP(G:Cg)(e a b c):G.res (gi e a b c)=⟨e,a,b,c⟩:=rfl
def Ge(a:UInt32)(b:65535<a.toNat):((UInt32.ofNat (a.toNat%65536)&&&(65535:UInt32))|||(UInt32.ofNat (a.toNat/65536)<<<(16:UInt32)))=a:=by have c:=a.toNat_lt;apply Xx.1;rw[UInt32.toNat_or,VU,VI,bY Z9,bY Z9];rw[(by show a.toNat%65536&&&2^16-1=_;rw[WY];omega:a.toNat%65536&&&(65535:UInt32).toNat=a.toNat%65536),(by show(a.toNat/65536)<<<16%4294967296=_;rw[VO];omega:(a.toNat/65536)<<<((16:UInt32).toNat%32)%2^32=(a.toNat/65536)<<<16),Nat.or_comm,<-Nat.shiftLeft_add_eq_or_of_lt Z9,VO];omega
def Dk(a)(b:¬65535<a.toNat):UInt32.ofNat (a.toNat%65536)=a:=by apply Xx.1;rw[bY Z9];omega
def Nx.of{a s n n' p k st aC m}(run:mrun a n s=⟨k,aC,m,s.rd,s.out,st,0⟩)(b:n'=n)(hp:k=p)(c:aC 0=0)(js:aC 15=1):∃e,Nx a s n' p m e:=by subst b hp;exact⟨_,run,rfl,rfl,rfl,rfl,⟨rfl,c,js⟩⟩
section
variable{G:Cg}(hG:nK G){f i d:Nat}{s:Ks}(hf:f<=G.E.last)(hd:G.dv f i=some d)(hk:we s)(hp:s.pc=G.ah f i)
include hG hf hd
def gw{a}(e:(G.sc f)[i]?=some a)(c:a.op≠8)(b:a.op≠11):G.dv f (i+1)=(d-aS G.E f a+gX G.E a):=by apply(hG.step f i a d hf e hd).2<|i+1;unfold df;rw[if_neg c];split;{exact YV};{first|exact YV|(rw[if_neg b];exact YV)}
include hk hp
def qK{a}(k:(G.sc f)[i]?=some ⟨1,0,0,a⟩):∃e,Nx G.V s (G.ah f (i+1)-G.ah f i) (G.ah f<|i+1) (aL s.mem (G.E.base f+d) a) e/\G.dv f (i+1)=some (d+1):=by have⟨b,c⟩:=hG.gP f i _ d hf k hd;have j:G.dv f (i+1)=some (d+1):=gw hG hf hd k Z5 Z5;have m:=hG.deep f _ _ hf j;have n:=hG.ue f hf;have l:=hG.data;rw[<-hp]at b;by_cases g:65535<a.toNat;{rw[(by unfold gO mS;rw[if_pos rfl,if_pos g];rfl:gO G.E f d ⟨1,0,0,a⟩=[gi 1 1 0<|a%65536,gi 2 1 0<|a/65536,gi 17 1 0<|G.E.base f+d])]at b c;have⟨e,h⟩:=Nx.of (n':=G.ah f (i+1)-G.ah f i) (p:=G.ah f<|i+1) (by rw[aH 2 b hk.bc,aH 1 (by exact b.tail) rfl,aH 0 (by exact b.tail.tail) rfl];simp only[aP,uY,Jg,mrun,aO];rw[Ge a g,gm ⟨rfl,by simp[aL,hk.r0],by simp[aL,hk.js]⟩ Z9 Z9];simp only[aO]:mrun G.V 3 s=⟨s.pc+1+1+1,aL (aL s.aC 1<|UInt32.ofNat<|a%65536) 1 a,aL s.mem (G.E.base f+d) a,s.rd,s.out,s.st+1+1+1,0⟩) (by rw[c];simp) (by rw[c,<-hp];rfl) (by simp[aL,hk.r0]) (by simp[aL,hk.js]);exact⟨e,h,j⟩};{rw[(by unfold gO mS;rw[if_pos rfl,if_neg g];rfl:gO G.E f d ⟨1,0,0,a⟩=[gi 1 1 0<|a%65536,gi 17 1 0<|G.E.base f+d])]at b c;have⟨e,h⟩:=Nx.of (n':=G.ah f (i+1)-G.ah f i) (p:=G.ah f<|i+1) (by rw[aH 1 b hk.bc,aH 0 (by exact b.tail) rfl];simp only[aP,uY,mrun];rw[Dk a g,gm ⟨rfl,by simp[aL,hk.r0],by simp[aL,hk.js]⟩ Z9 Z9];simp only[aO]:mrun G.V 2 s=⟨s.pc+1+1,aL s.aC 1 a,aL s.mem (G.E.base f+d) a,s.rd,s.out,s.st+1+1,0⟩) (by rw[c];simp) (by rw[c,<-hp];rfl) (by simp[aL,hk.r0]) (by simp[aL,hk.js]);exact⟨e,h,j⟩}
def FY{a}(h:(G.sc f)[i]?=some ⟨2,a,0,0⟩)(m:a<G.V.D):∃e,Nx G.V s (G.ah f (i+1)-G.ah f i) (G.ah f<|i+1) (aL s.mem (G.E.base f+d)<|s.mem a) e/\G.dv f (i+1)=some (d+1):=by have⟨b,c⟩:=hG.gP f i _ d hf h hd;have g:G.dv f (i+1)=some (d+1):=gw hG hf hd h Z5 Z5;have n:=hG.deep f _ _ hf g;have o:=hG.ue f hf;have l:=hG.data;rw[<-hp]at b;have j:gO G.E f d ⟨2,a,0,0⟩=[gi 16 1 0 a,gi 17 1 0<|G.E.base f+d]:=rfl;rw[j]at b c;have⟨e,k⟩:=Nx.of (n':=G.ah f (i+1)-G.ah f i) (p:=G.ah f<|i+1) (by rw[aH 1 b hk.bc];simp only[aP];rw[dr hk Z9 Z9,aH 0 (by exact b.tail) rfl];simp only[aP,mrun];rw[gm ⟨rfl,by simp[aL,hk.r0],by simp[aL,hk.js]⟩ Z9 Z9];simp only[aO]:mrun G.V 2 s=⟨s.pc+1+1,aL s.aC 1<|s.mem a,aL s.mem (G.E.base f+d)<|s.mem a,s.rd,s.out,s.st+1+1,0⟩) (by rw[c];simp) (by rw[c,<-hp];rfl) (by simp[aL,hk.r0]) (by simp[aL,hk.js]);exact⟨e,k,g⟩
def Dd{a}(g:(G.sc f)[i]?=some ⟨3,a,0,0⟩)(m:a<G.V.D):∃b h,d=b+1/\Nx G.V s (G.ah f (i+1)-G.ah f i) (G.ah f<|i+1) (aL s.mem a<|s.mem<|G.E.base f+b) h/\G.dv f (i+1)=b:=by have⟨c,e⟩:=hG.gP f i _ d hf g hd;have o:1<=d:=(hG.step f i _ d hf g hd).1;obtain⟨b,rfl⟩:∃b,d=b+1:=⟨d-1,Z9⟩;have n:=hG.deep f _ _ hf hd;have p:=hG.ue f hf;have l:=hG.data;rw[<-hp]at c;have j:gO G.E f (b+1) ⟨3,a,0,0⟩=[gi 16 1 0<|G.E.base f+b,gi 17 1 0 a]:=rfl;rw[j]at c e;have⟨h,k⟩:=Nx.of (n':=G.ah f (i+1)-G.ah f i) (p:=G.ah f<|i+1) (by rw[aH 1 c hk.bc];simp only[aP];rw[dr hk Z9 Z9,aH 0 (by exact c.tail) rfl];simp only[aP,mrun];rw[gm ⟨rfl,by simp[aL,hk.r0],by simp[aL,hk.js]⟩ Z9 Z9];simp only[aO]:mrun G.V 2 s=⟨s.pc+1+1,aL s.aC 1<|s.mem<|G.E.base f+b,aL s.mem a<|s.mem<|G.E.base f+b,s.rd,s.out,s.st+1+1,0⟩) (by rw[e];simp) (by rw[e,<-hp];rfl) (by simp[aL,hk.r0]) (by simp[aL,hk.js]);exact⟨b,h,rfl,k,gw hG hf hd g Z5 Z5⟩
def Db{a b}(h:(G.sc f)[i]?=some ⟨4,a,b,0⟩)(p:a+b<=G.V.D):∃c,d=c+1/\((s.mem<|G.E.base f+c)<b->∃l,Nx G.V s (G.ah f (i+1)-G.ah f i) (G.ah f<|i+1) (aL s.mem (G.E.base f+c)<|s.mem<|(s.mem<|G.E.base f+c)+a) l/\G.dv f (i+1)=some (c+1))/\(¬(s.mem<|G.E.base f+c)<b->∃k,k<=G.ah f (i+1)-G.ah f i/\(mrun G.V k s).bc=3/\(mrun G.V k s).out=s.out):=by have⟨e,g⟩:=hG.gP f i _ d hf h hd;have r:1<=d:=(hG.step f i _ d hf h hd).1;obtain⟨c,rfl⟩:∃c,d=c+1:=⟨d-1,Z9⟩;have q:=hG.deep f _ _ hf hd;have t:=hG.ue f hf;have o:=hG.data;rw[<-hp]at e;have m:gO G.E f (c+1) ⟨4,a,b,0⟩=[gi 16 1 0<|G.E.base f+c,gi 25 1 0 b,gi 16 1 1 a,gi 17 1 0<|G.E.base f+c]:=rfl;rw[m]at e g;refine⟨c,rfl,λj=>?_,λj=>?_⟩;{have⟨l,n⟩:=Nx.of (n':=G.ah f (i+1)-G.ah f i) (p:=G.ah f<|i+1) (by rw[aH 3 e hk.bc];simp only[aP];rw[dr hk Z9 Z9,aH 2 (by exact e.tail) rfl];simp only[aP];rw[pE _ _ _ _ _ Z9];simp only[aO];rw[if_pos j,aH 1 (by exact e.tail.tail) rfl];simp only[aP];rw[Jf (by simp only[aO];omega) Z9,aH 0 (by exact e.tail.tail.tail) rfl];simp only[aP,mrun,aO];rw[gm ⟨rfl,by simp[aL,hk.r0],by simp[aL,hk.js]⟩ Z9 Z9];simp only[aO]:mrun G.V 4 s=⟨s.pc+1+1+1+1,aL (aL s.aC 1<|s.mem<|G.E.base f+c) 1<|s.mem<|(s.mem<|G.E.base f+c)+a,aL s.mem (G.E.base f+c)<|s.mem<|(s.mem<|G.E.base f+c)+a,s.rd,s.out,s.st+1+1+1+1,0⟩) (by rw[g];simp) (by rw[g,<-hp];rfl) (by simp[aL,hk.r0]) (by simp[aL,hk.js]);exact⟨l,n,gw hG hf hd h Z5 Z5⟩};{have run:mrun G.V 2 s=⟨s.pc+1,aL s.aC 1<|s.mem<|G.E.base f+c,s.mem,s.rd,s.out,s.st+1+1,3⟩:=by{rw[aH 1 e hk.bc];simp only[aP];rw[dr hk Z9 Z9,aH 0 (by exact e.tail) rfl];simp only[aP];rw[pE _ _ _ _ _ Z9];simp only[aO];rw[if_neg j];rfl};refine⟨2,by rw[g];simp,Zx,Zx⟩}
def zO{a b}(h:(G.sc f)[i]?=some ⟨5,a,b,0⟩)(q:a+b<=G.V.D):∃c,d=c+2/\((s.mem<|G.E.base f+c)<b->∃l,Nx G.V s (G.ah f (i+1)-G.ah f i) (G.ah f<|i+1) (aL s.mem ((s.mem<|G.E.base f+c)+a)<|s.mem<|G.E.base f+c+1) l/\G.dv f (i+1)=c)/\(¬(s.mem<|G.E.base f+c)<b->∃k,k<=G.ah f (i+1)-G.ah f i/\(mrun G.V k s).bc=3/\(mrun G.V k s).out=s.out):=by have⟨e,g⟩:=hG.gP f i _ d hf h hd;have t:2<=d:=(hG.step f i _ d hf h hd).1;obtain⟨c,rfl⟩:∃c,d=c+2:=⟨d-2,Z9⟩;have r:=hG.deep f _ _ hf hd;have u:=hG.ue f hf;have p:=hG.data;rw[<-hp]at e;have n:gO G.E f (c+2) ⟨5,a,b,0⟩=[gi 16 1 0<|G.E.base f+c,gi 25 1 0 b,gi 16 2 0<|G.E.base f+c+1,gi 17 2 1 a]:=rfl;rw[n]at e g;refine⟨c,rfl,λj=>?_,λj=>?_⟩;{have⟨l,o⟩:=Nx.of (n':=G.ah f (i+1)-G.ah f i) (p:=G.ah f<|i+1) (by rw[aH 3 e hk.bc];simp only[aP];rw[dr hk Z9 Z9,aH 2 (by exact e.tail) rfl];simp only[aP];rw[pE _ _ _ _ _ Z9];simp only[aO];rw[if_pos j,aH 1 (by exact e.tail.tail) rfl];simp only[aP];rw[dr ⟨rfl,by simp[aL,hk.r0],by simp[aL,hk.js]⟩ Z9 Z9,aH 0 (by exact e.tail.tail.tail) rfl];simp only[aP,mrun];have m:aL (aL s.aC 1<|s.mem<|G.E.base f+c) 2 (s.mem<|G.E.base f+c+1) 1=s.mem (G.E.base f+c):=by{simp[aL]};rw[Bz (by dsimp only;rw[m];omega) Z9];simp only[aO,m]:mrun G.V 4 s=⟨s.pc+1+1+1+1,aL (aL s.aC 1<|s.mem<|G.E.base f+c) 2<|s.mem<|G.E.base f+c+1,aL s.mem ((s.mem<|G.E.base f+c)+a)<|s.mem<|G.E.base f+c+1,s.rd,s.out,s.st+1+1+1+1,0⟩) (by rw[g];simp) (by rw[g,<-hp];rfl) (by simp[aL,hk.r0]) (by simp[aL,hk.js]);exact⟨l,o,gw hG hf hd h Z5 Z5⟩};{have run:mrun G.V 2 s=⟨s.pc+1,aL s.aC 1<|s.mem<|G.E.base f+c,s.mem,s.rd,s.out,s.st+1+1,3⟩:=by{rw[aH 1 e hk.bc];simp only[aP];rw[dr hk Z9 Z9,aH 0 (by exact e.tail) rfl];simp only[aP];rw[pE _ _ _ _ _ Z9];simp only[aO];rw[if_neg j];rfl};refine⟨2,by rw[g];simp,Zx,Zx⟩}
def L3{n}(e:(G.sc f)[i]?=some ⟨6,n,0,0⟩)(l:4<=n)(k:n<=15):∃a,d=a+2/\((bJ n (s.mem<|G.E.base f+a)<|s.mem<|G.E.base f+a+1).2=0->∃j,Nx G.V s (G.ah f (i+1)-G.ah f i) (G.ah f<|i+1) (aL s.mem (G.E.base f+a) (bJ n (s.mem<|G.E.base f+a)<|s.mem<|G.E.base f+a+1).1) j/\G.dv f (i+1)=some (a+1))/\(¬(bJ n (s.mem<|G.E.base f+a)<|s.mem<|G.E.base f+a+1).2=0->∃h,h<=G.ah f (i+1)-G.ah f i/\(mrun G.V h s).bc=2/\(mrun G.V h s).out=s.out):=by have⟨b,c⟩:=hG.gP f i _ d hf e hd;have t:2<=d:=(hG.step f i _ d hf e hd).1;obtain⟨a,rfl⟩:∃a,d=a+2:=⟨d-2,Z9⟩;have r:=hG.deep f _ _ hf hd;have u:=hG.ue f hf;have q:=hG.data;rw[<-hp]at b;have o:gO G.E f (a+2) ⟨6,n,0,0⟩=[gi 16 1 0<|G.E.base f+a,gi 16 2 0<|G.E.base f+a+1,gi n 1 1 2,gi 17 1 0<|G.E.base f+a]:=rfl;rw[o]at b c;have m:aL (aL s.aC 1<|s.mem<|G.E.base f+a) 2 (s.mem<|G.E.base f+a+1) 1=s.mem (G.E.base f+a):=by{simp[aL]};refine⟨a,rfl,λg=>?_,λg=>?_⟩;{have⟨j,p⟩:=Nx.of (n':=G.ah f (i+1)-G.ah f i) (p:=G.ah f<|i+1) (by rw[aH 3 b hk.bc];simp only[aP];rw[dr hk Z9 Z9,aH 2 (by exact b.tail) rfl];simp only[aP];rw[dr ⟨rfl,by simp[aL,hk.r0],by simp[aL,hk.js]⟩ Z9 Z9,aH 1 (by exact b.tail.tail) rfl];simp only[aP];rw[qO _ _ _ _ _ _ l k];simp only[aO,m];rw[if_pos g,aH 0 (by exact b.tail.tail.tail) rfl];simp only[aP,mrun];rw[gm ⟨rfl,by simp[aL,hk.r0],by simp[aL,hk.js]⟩ Z9 Z9];simp only[aO]:mrun G.V 4 s=⟨s.pc+1+1+1+1,aL (aL (aL s.aC 1<|s.mem<|G.E.base f+a) 2<|s.mem<|G.E.base f+a+1) 1 (bJ n (s.mem<|G.E.base f+a)<|s.mem<|G.E.base f+a+1).1,aL s.mem (G.E.base f+a) (bJ n (s.mem<|G.E.base f+a)<|s.mem<|G.E.base f+a+1).1,s.rd,s.out,s.st+1+1+1+1,0⟩) (by rw[c];simp) (by rw[c,<-hp];rfl) (by simp[aL,hk.r0]) (by simp[aL,hk.js]);exact⟨j,p,gw hG hf hd e Z5 Z5⟩};{have run:mrun G.V 3 s=⟨s.pc+1+1,aL (aL s.aC 1<|s.mem<|G.E.base f+a) 2<|s.mem<|G.E.base f+a+1,s.mem,s.rd,s.out,s.st+1+1+1,2⟩:=by{rw[aH 2 b hk.bc];simp only[aP];rw[dr hk Z9 Z9,aH 1 (by exact b.tail) rfl];simp only[aP];rw[dr ⟨rfl,by simp[aL,hk.r0],by simp[aL,hk.js]⟩ Z9 Z9,aH 0 (by exact b.tail.tail) rfl];simp only[aP];rw[qO _ _ _ _ _ _ l k];simp only[aO,m];rw[if_neg g];rfl};refine⟨3,by rw[c];simp,Zx,Zx⟩}
def pD(h:(G.sc f)[i]?=some ⟨7,0,0,0⟩):∃a j,d=a+1/\Nx G.V s (G.ah f (i+1)-G.ah f i) (G.ah f<|i+1) (aL s.mem (G.E.base f+a) (if s.mem (G.E.base f+a)=0 then 1 else 0)) j/\G.dv f (i+1)=some (a+1):=by have⟨b,g⟩:=hG.gP f i _ d hf h hd;have p:1<=d:=(hG.step f i _ d hf h hd).1;obtain⟨a,rfl⟩:∃a,d=a+1:=⟨d-1,Z9⟩;have o:=hG.deep f _ _ hf hd;have q:=hG.ue f hf;have n:=hG.data;rw[<-hp]at b;have k:gO G.E f (a+1) ⟨7,0,0,0⟩=[gi 16 1 0<|G.E.base f+a,gi 15 1 1 0,gi 17 1 0<|G.E.base f+a]:=rfl;rw[k]at b g;have⟨j,m⟩:=Nx.of (n':=G.ah f (i+1)-G.ah f i) (p:=G.ah f<|i+1) (by rw[aH 2 b hk.bc];simp only[aP];rw[dr hk Z9 Z9,aH 1 (by exact b.tail) rfl];simp only[aP];rw[qO _ _ _ _ _ _ Z9 Z9];simp only[aO,(by simp[aL,hk.r0]:aL s.aC 1 (s.mem<|G.E.base f+a) 0=0)];rw[show((15:Nat):Int)=15 from rfl,(by intro c;show(if c.toNat=(0:UT) then(1:UT)else 0,0)=_;by_cases e:c=0;{rw[if_pos e,if_pos (by rw[e])]};{rw[if_neg e,if_neg (λl=>e<|Xx.1 l)]}:∀c,bJ 15 c 0=(if c=0 then 1 else 0,0)),if_pos rfl,aH 0 (by exact b.tail.tail) rfl];simp only[aP,mrun];rw[gm ⟨rfl,by simp[aL,hk.r0],by simp[aL,hk.js]⟩ Z9 Z9];simp only[aO]:mrun G.V 3 s=⟨s.pc+1+1+1,aL (aL s.aC 1<|s.mem<|G.E.base f+a) 1 (if s.mem (G.E.base f+a)=0 then 1 else 0),aL s.mem (G.E.base f+a) (if s.mem (G.E.base f+a)=0 then 1 else 0),s.rd,s.out,s.st+1+1+1,0⟩) (by rw[g];simp) (by rw[g,<-hp];rfl) (by simp[aL,hk.r0]) (by simp[aL,hk.js]);exact⟨a,j,rfl,m,gw hG hf hd h Z5 Z5⟩
def qJ{a}(g:(G.sc f)[i]?=some ⟨8,a,0,0⟩):∃c,Nx G.V s 1 (G.ah f a) s.mem c/\G.dv f a=d/\G.ah f (i+1)=G.ah f i+1:=by have⟨b,e⟩:=hG.gP f i _ d hf g hd;rw[<-hp]at b;rw[(rfl:gO G.E f d ⟨8,a,0,0⟩=[⟨⟨18,0,0,0⟩,some (f,some a)⟩])]at b e;have⟨c,h⟩:=Nx.of (n':=1) (p:=G.ah f a) (by rw[aH 0 b hk.bc];rfl:mrun G.V 1 s=⟨G.ah f a,s.aC,s.mem,s.rd,s.out,s.st+1,0⟩) rfl rfl hk.r0 hk.js;exact⟨c,h,(hG.step f i _ d hf g hd).2 a YV,by rw[e];rfl⟩
def mO{a}(e:(G.sc f)[i]?=some ⟨9,a,0,0⟩):∃b h,d=b+1/\Nx G.V s 2 (if s.mem (G.E.base f+b)=0 then G.ah f a else G.ah f (i+1)) s.mem h/\G.dv f a=b/\G.dv f (i+1)=b/\G.ah f (i+1)=G.ah f i+2:=by have⟨c,g⟩:=hG.gP f i _ d hf e hd;have l:=(hG.step f i _ d hf e hd).2 a<|YD _ YV;have m:=(hG.step f i _ d hf e hd).2 (i+1) YV;have p:1<=d:=(hG.step f i _ d hf e hd).1;obtain⟨b,rfl⟩:∃b,d=b+1:=⟨d-1,Z9⟩;have o:=hG.deep f _ _ hf hd;have q:=hG.ue f hf;have n:=hG.data;rw[<-hp]at c;have j:gO G.E f (b+1) ⟨9,a,0,0⟩=[gi 16 1 0<|G.E.base f+b,⟨⟨19,1,0,0⟩,some (f,some a)⟩]:=rfl;rw[j]at c g;have⟨h,k⟩:=Nx.of (n':=2) (p:=if s.mem (G.E.base f+b)=0 then G.ah f a else G.ah f (i+1)) (by rw[aH 1 c hk.bc];simp only[aP];rw[dr hk Z9 Z9,aH 0 (by exact c.tail) rfl];show mdo G.V ⟨19,1,0,G.ah f a⟩ _=_;rw[L5];simp only[aO]:mrun G.V 2 s=⟨if s.mem (G.E.base f+b)=0 then G.ah f a else s.pc+1+1,aL s.aC 1<|s.mem<|G.E.base f+b,s.mem,s.rd,s.out,s.st+1+1,0⟩) rfl (by rw[g,<-hp];rfl) (by simp[aL,hk.r0]) (by simp[aL,hk.js]);exact⟨b,h,rfl,k,l,m,by rw[g];rfl⟩
def mac_get(h:(G.sc f)[i]?=some ⟨12,0,0,0⟩)(v c)(j:(match G.V.aE[s.rd]? with|none=>(256,s.rd)|some m=>(UInt32.ofNat m,s.rd+1))=(v,c)):∃a,mrun G.V (G.ah f (i+1)-G.ah f i) s=a/\a.pc=G.ah f (i+1)/\a.mem=aL s.mem (G.E.base f+d) v/\a.rd=c/\a.out=s.out/\we a/\G.dv f (i+1)=some (d+1):=by have⟨b,e⟩:=hG.gP f i _ d hf h hd;have g:G.dv f (i+1)=some (d+1):=gw hG hf hd h Z5 Z5;have o:=hG.deep f _ _ hf g;have p:=hG.ue f hf;have n:=hG.data;rw[<-hp]at b;have k:gO G.E f d ⟨12,0,0,0⟩=[gi 23 1 0 0,gi 17 1 0<|G.E.base f+d]:=rfl;rw[k]at b e;rw[show G.ah f (i+1)-G.ah f i=2 by rw[e];simp,(by rw[aH 1 b hk.bc];simp only[aP];rw[(by rw[Jd];split at j<;>(rename_i l;injection j with h1 h2;subst h1;subst h2;first|rfl|(rw[l])):mdo G.V ⟨23,1,0,0⟩ s=⟨s.pc+1,aL s.aC 1 v,s.mem,c,s.out,s.st+1,0⟩),aH 0 (by exact b.tail) rfl];simp only[aP,mrun];rw[gm ⟨rfl,by simp[aL,hk.r0],by simp[aL,hk.js]⟩ Z9 Z9];simp only[aO]:mrun G.V 2 s=⟨s.pc+1+1,aL s.aC 1 v,aL s.mem (G.E.base f+d) v,c,s.out,s.st+1+1,0⟩)];exact⟨_,rfl,by rw[e,<-hp];rfl,rfl,rfl,rfl,⟨rfl,by simp[aL,hk.r0],by simp[aL,hk.js]⟩,g⟩
def Ja(g:(G.sc f)[i]?=some ⟨13,0,0,0⟩):∃a,d=a+1/\(s.out.length<65536->∃c,mrun G.V (G.ah f (i+1)-G.ah f i) s=c/\c.pc=G.ah f (i+1)/\c.mem=s.mem/\c.rd=s.rd/\c.out=s.out++[UInt8.ofNat<|s.mem<|G.E.base f+a]/\we c/\G.dv f (i+1)=a)/\(¬s.out.length<65536->∃j,j<=G.ah f (i+1)-G.ah f i/\(mrun G.V j s).bc=4/\(mrun G.V j s).out=s.out):=by have⟨b,e⟩:=hG.gP f i _ d hf g hd;have n:1<=d:=(hG.step f i _ d hf g hd).1;obtain⟨a,rfl⟩:∃a,d=a+1:=⟨d-1,Z9⟩;have m:=hG.deep f _ _ hf hd;have o:=hG.ue f hf;have l:=hG.data;rw[<-hp]at b;have k:gO G.E f (a+1) ⟨13,0,0,0⟩=[gi 16 1 0<|G.E.base f+a,gi 24 1 0 0]:=rfl;rw[k]at b e;refine⟨a,rfl,λh=>?_,λh=>?_⟩;{rw[show G.ah f (i+1)-G.ah f i=2 by rw[e];simp,(by rw[aH 1 b hk.bc];simp only[aP];rw[dr hk Z9 Z9,aH 0 (by exact b.tail) rfl];simp only[aP,mrun];rw[uZ,if_pos h];simp only[aO]:mrun G.V 2 s=⟨s.pc+1+1,aL s.aC 1<|s.mem<|G.E.base f+a,s.mem,s.rd,s.out++[UInt8.ofNat<|s.mem<|G.E.base f+a],s.st+1+1,0⟩)];exact⟨_,rfl,by rw[e,<-hp];rfl,rfl,rfl,rfl,⟨rfl,by simp[aL,hk.r0],by simp[aL,hk.js]⟩,gw hG hf hd g Z5 Z5⟩};{have run:mrun G.V 2 s=⟨s.pc+1,aL s.aC 1<|s.mem<|G.E.base f+a,s.mem,s.rd,s.out,s.st+1+1,4⟩:=by{rw[aH 1 b hk.bc];simp only[aP];rw[dr hk Z9 Z9,aH 0 (by exact b.tail) rfl];simp only[aP,mrun];rw[uZ,if_neg h]};refine⟨2,by rw[e];simp,Zx,Zx⟩}
end
def VA:=@Nx.of
end
section
def yG(m:Nat->UInt32)(a b:Nat):Nat->UInt32:=λx=>if a<=x/\x<b then 0 else m x
theorem sN{e:Cg}(s:e.V.D<=32768)(a):∀(l:List Nat)(c:Ks),(∀d∈l,a+d<e.V.D)->we c->pq e.V c.pc ((l.map λd=>gi 17 0 0<|a+d).map e.res)->∃n,Nx e.V c l (c.pc+l) (λx=>if∃d∈l,x=a+d then 0 else c.mem x) n|[],c,_,f,_=>⟨c,rfl,rfl,by funext x;simp,rfl,rfl,f⟩|d::l,c,q,f,t=>by have o:pq e.V c.pc (e.res (gi 17 0 0<|a+d)::((l.map λd=>gi 17 0 0<|a+d).map e.res)):=t;have r:mdo e.V (e.res<|gi 17 0 0<|a+d) c=⟨c.pc+1,c.aC,aL c.mem (a+d) 0,c.rd,c.out,c.st+1,0⟩:=by{rw[aP,gm f (q d YV) Z9,f.r0]};obtain⟨n,h⟩:=sN s a l ⟨c.pc+1,c.aC,aL c.mem (a+d) 0,c.rd,c.out,c.st+1,0⟩ (λg f=>q g<|YD _ f) ⟨rfl,f.r0,f.js⟩ o.tail;refine⟨n,by show mrun e.V (l.length+1) c=n;rw[aH _ o f.bc,r];exact h.run,by rw[h.pc];show c.pc+1+l.length=c.pc+(l.length+1);omega,?_,h.rd,h.out,h.ok⟩;rw[h.mem];funext x;by_cases k:∃g∈l,x=a+g;{rw[if_pos k,if_pos (by obtain⟨g,i,j⟩:=k;exact⟨g,YD _ i,j⟩)]};{rw[if_neg k];by_cases m:x=a+d;{rw[if_pos ⟨d,YV,m⟩];simp[aL,m]};{rw[if_neg (by rintro⟨g,i,j⟩;obtain rfl|i:=YO.1 i;exact m j;exact k ⟨g,i,j⟩)];simp[aL,m]}}
theorem wK{e:Cg}(s:e.V.D<=32768)(p b)(u:b<=e.V.D)(h:pq e.V p ([gi 17 0 1 0,gi 4 1 1 15,gi 14 3 1 2,gi 20 3 0 p].map e.res)):∀(r a)(c:Ks),a+(r+1)=b->we c->c.pc=p->c.aC 1=UInt32.ofNat a->c.aC 2=UInt32.ofNat b->∃j,Nx e.V c (4*(r+1)) (p+4) (yG c.mem a b) j|r,a,c,A,f,w,k,m=>by subst w;have q:(c.aC 1)=a:=by{rw[k];exact bY Z9};have t:bJ 4 (UInt32.ofNat a) 1=(UInt32.ofNat<|a+1,0):=by{show((UInt32.ofNat a+1:UT),(0:Int))=_;congr 1;apply Xx.1;rw[WJ,bY Z9,bY Z9];show(a+1)%4294967296=_;omega};have v:bJ 14 (UInt32.ofNat<|a+1) (UInt32.ofNat b)=(if a+1<b then 1 else 0,0):=by{show(if(UInt32.ofNat<|a+1).toNat<(UInt32.ofNat b).toNat then(1:UT)else 0,(0:Int))=_;rw[bY Z9,bY Z9]};have run:mrun e.V 4 c=⟨if a+1<b then c.pc else c.pc+4,aL (aL c.aC 1<|UInt32.ofNat<|a+1) 3 (if a+1<b then 1 else 0),aL c.mem a 0,c.rd,c.out,c.st+4,0⟩:=by{rw[aH 3 h f.bc];simp only[aP];have m2:mdo e.V ⟨4,1,1,15⟩ ⟨c.pc+1,c.aC,aL c.mem a 0,c.rd,c.out,c.st+1,0⟩=⟨c.pc+1+1,aL c.aC 1<|UInt32.ofNat<|a+1,aL c.mem a 0,c.rd,c.out,c.st+1+1,0⟩:=tq _ _ _ _ _ _ Z9 Z9 (by show bJ ((4:Nat):Int) (c.aC 1) (c.aC 15)=_;rw[k,f.js];exact t);have z:aL c.aC 1 (UInt32.ofNat<|a+1) 2=UInt32.ofNat b:=by{simp[aL,m]};have y:mdo e.V ⟨14,3,1,2⟩ ⟨c.pc+1+1,aL c.aC 1<|UInt32.ofNat<|a+1,aL c.mem a 0,c.rd,c.out,c.st+1+1,0⟩=⟨c.pc+1+1+1,aL (aL c.aC 1<|UInt32.ofNat<|a+1) 3 (if a+1<b then 1 else 0),aL c.mem a 0,c.rd,c.out,c.st+1+1+1,0⟩:=tq _ _ _ _ _ _ Z9 Z9 (by show bJ ((14:Nat):Int) (aL c.aC 1 (UInt32.ofNat<|a+1) 1) (aL c.aC 1 (UInt32.ofNat<|a+1) 2)=_;rw[z,aO];exact v);have m1:mdo e.V ⟨17,0,1,0⟩ c=⟨c.pc+1,c.aC,aL c.mem a 0,c.rd,c.out,c.st+1,0⟩:=by{rw[Bz (by rw[q];omega) Z9,q,f.r0];rfl};rw[m1,aH 2 (by exact h.tail) rfl];simp only[aP];rw[m2,aH 1 (by exact h.tail.tail) rfl];simp only[aP];rw[y,aH 0 (by exact h.tail.tail.tail) rfl];simp only[aP,mrun,Je,aO];congr 1;by_cases n:a+1<b;{simp[n]};{simp[n]}};cases r with|zero=>have g:¬a+1<b:=Z9;rw[if_neg g,if_neg g]at run;obtain⟨j,d⟩:=VA (n':=4*(0+1)) (p:=c.pc+4) run rfl rfl (by simp[aL,f.r0]) (by simp[aL,f.js]);refine⟨j,d.run,d.pc,d.mem.trans ?_,d.rd,d.out,d.ok⟩;funext x;unfold yG aL;by_cases i:x=a;{rw[if_pos i,if_pos Z9]};{rw[if_neg i,if_neg Z9]}|succ r=>have g:a+1<b:=Z9;rw[if_pos g,if_pos g]at run;obtain⟨j,d⟩:=wK s c.pc b u h r (a+1) ⟨c.pc,aL (aL c.aC 1<|UInt32.ofNat<|a+1) 3 1,aL c.mem a 0,c.rd,c.out,c.st+4,0⟩ Z9 ⟨rfl,by simp[aL,f.r0],by simp[aL,f.js]⟩ rfl (by simp[aL]) (by simp[aL,m]);refine⟨j,by rw[show 4*(r+1+1)=4+4*(r+1)by omega,au,run];exact d.run,d.pc,d.mem.trans ?_,d.rd,d.out,d.ok⟩;funext x;unfold yG aL;by_cases i:x=a;{subst i;rw[if_neg Z9,if_pos Z9];exact if_pos rfl};{by_cases o:a+1<=x/\x<b;{rw[if_pos o,if_pos Z9]};{rw[if_neg o,if_neg Z9];exact if_neg i}}
def Dc{d:Cg}(n:d.V.D<=32768){p a m s}(e:pq d.V p<|(gv a m<|p+2).map d.res)(u:a+m<=d.V.D)(g:we s)(v:s.pc=p):∃q f,Nx d.V s q (p+(gv a m<|p+2)) (yG s.mem a<|a+m) f/\q<=(gv a m<|p+2)+4*m:=by subst v;by_cases k:m<=6;{have i:gv a m (s.pc+2)=(List.range m).map λj=>gi 17 0 0<|a+j:=by{unfold gv;rw[if_pos k]};rw[i]at e⊢;obtain⟨f,c⟩:=sN n a (List.range m) s (λj t=>by have:=Xq.1 t;omega) g e;refine⟨_,f,⟨c.run,by rw[c.pc];simp,c.mem.trans ?_,c.rd,c.out,c.ok⟩,by simp only[Zi,XX];omega⟩;funext x;unfold yG;by_cases o:a<=x/\x<a+m;{rw[if_pos o,if_pos ⟨x-a,Xq.2 Z9,Z9⟩]};{rw[if_neg o,if_neg (by rintro⟨j,r,w⟩;have:=Xq.1 r;omega)]}};{have i:gv a m (s.pc+2)=[gi 1 1 0 a,gi 1 2 0<|a+m,gi 17 0 1 0,gi 4 1 1 15,gi 14 3 1 2,gi 20 3 0<|s.pc+2]:=by{unfold gv;rw[if_neg k]};rw[i]at e⊢;have run:mrun d.V 2 s=⟨s.pc+2,aL (aL s.aC 1<|UInt32.ofNat a) 2<|UInt32.ofNat<|a+m,s.mem,s.rd,s.out,s.st+2,0⟩:=by{rw[aH 1 e g.bc];simp only[aP,uY];rw[aH 0 (by exact e.tail) rfl];simp only[aP,uY,mrun]};obtain⟨h,y⟩:∃h,m=h+1:=⟨m-1,Z9⟩;obtain⟨f,c⟩:=wK n (s.pc+2) (a+m) u (by exact e.tail.tail) h a ⟨s.pc+2,aL (aL s.aC 1<|UInt32.ofNat a) 2<|UInt32.ofNat<|a+m,s.mem,s.rd,s.out,s.st+2,0⟩ Z9 ⟨rfl,by simp[aL,g.r0],by simp[aL,g.js]⟩ rfl (by simp[aL]) (by simp[aL]);exact⟨2+4*(h+1),f,⟨by rw[au,run];exact c.run,by rw[c.pc];rfl,c.mem,c.rd,c.out,c.ok⟩,Z3⟩}
def dH(c:Cx)(a:Nat):Nat:=c.nv+(c.gj.take a).sum
def iA(e:Cx)(d:Em)(f:Nat)(c:Rd):Nat:=if c.kind=3 then dH e c.n else if c.kind=2 then(if c.loc then d.first f+c.n else c.n)else c.n
def bP:Si:=⟨7,0,0,0⟩
def pd(d:Cx)(e:Em)(f:Nat)(c:Rd):List Si:=if c.kind=1 then[⟨1,0,0,c.num⟩]else if c.kind=2 then[⟨2,iA d e f c,0,0⟩]else if c.kind=3 then[⟨4,iA d e f c,d.gj.getD c.n 0,0⟩]else if c.kind=4 then[⟨10,c.n,0,0⟩]else if c.kind=5 then[⟨12,0,0,0⟩]else if c.kind=6 then[⟨6,c.op.toNat,0,0⟩]else if c.kind=7 then[bP]else[bP,bP]
def low(d:Cx)(c:Em)(f:Nat):Int->Re->Nat->List Si|_,.nil,_=>[]|m,.cons e j i,at_=>let g:=low d c f (if e.kind=8\/e.kind=9 then e.kind else 0) j at_++pd d c f e;if m=0 then g++low d c f 0 i (at_+g.length)else let p:=g++(if m=8 then[bP]else[]);let h:=low d c f 0 i<|at_+p.length+3;p++[⟨9,at_+p.length+3,0,0⟩,⟨1,0,0,if m=8 then 0 else 1⟩,⟨8,at_+p.length+3+h.length+2,0,0⟩]++h
def aK(e:Cx)(d:Em)(f:Nat)(c:Rd)(g:Re)(at_:Nat):List Si:=low e d f (if c.kind=8\/c.kind=9 then c.kind else 0) g at_++pd e d f c
def kh(d c e f)(g h:Re)(at_):low d c e 0 (.cons f g h) at_=aK d c e f g at_++low d c e 0 h (at_+(aK d c e f g at_)):=by(conv=>lhs;rw[low]);rw[if_pos rfl];rfl
def fh(d c f e)(g:Re)(at_):low d c f 0 (.cons e g .nil) at_=aK d c f e g at_:=by rw[kh];show _++[]=_;rw[YL]
def zL(d c e m)(i:m=8\/m=9)(f)(g:Re)(b)(h:Re)(at_):low d c e m (.cons f g<|.cons b h .nil) at_=aK d c e f g at_++(if m=8 then[bP]else[])++[⟨9,at_+(aK d c e f g at_++(if m=8 then[bP]else[])).length+3,0,0⟩,⟨1,0,0,if m=8 then 0 else 1⟩,⟨8,at_+(aK d c e f g at_++(if m=8 then[bP]else[])).length+3+(aK d c e b h<|at_+(aK d c e f g at_++(if m=8 then[bP]else[])).length+3)+2,0,0⟩]++aK d c e b h (at_+(aK d c e f g at_++(if m=8 then[bP]else[])).length+3):=by(conv=>lhs;rw[low]);rw[if_neg Z9];simp only[fh];rfl
def aY(c:Bool):List Si:=(if c then[⟨1,0,0,0⟩]else[])++[⟨11,0,0,0⟩]
def wu(d:Cx)(e:Em)(g:Nat)(h:Bool)(c:Rs)(f:Re):List Si:=if c.kind=1 then[⟨3,if c.loc then e.first g+c.n else c.n,0,0⟩]else if c.kind=2 then[⟨5,dH d c.n,d.gj.getD c.n 0,0⟩]else if c.kind=3 then[⟨13,0,0,0⟩]else if c.kind=6 then[⟨10,c.n,0,0⟩]else if c.kind=7 then(if f.len=0 then aY h else[⟨11,0,0,0⟩])else[]
def Sf.gQ{c d}:Sf c d->Bool|.nil=>true|.cons .. =>false
def lowS(f:Cx)(e:Em)(g:Nat)(h:Bool):Rb->Nat->List Si|.nil,_=>[]|.cons i m q n o,at_=>let c:=low f e g 0 m at_;let d:=lowS f e g h q<|at_+c.length+1;let k:=lowS f e g h n<|at_+c.length+1+d.length+1;let j:=if i.kind=5 then c++[⟨9,at_+c.length+1+d.length+1,0,0⟩]++d++[⟨8,at_,0,0⟩]else if i.kind=4 then(if n.gQ then c++[⟨9,at_+c.length+1+d.length,0,0⟩]++d else c++[⟨9,at_+c.length+1+d.length+1,0,0⟩]++d++[⟨8,at_+c.length+1+d.length+1+k.length,0,0⟩]++k)else c++wu f e g h i m;j++lowS f e g h o (at_+j.length)
def bH(f:Cx)(e:Em)(g:Nat)(i:Bool)(h:Rs)(k:Re)(n m:Rb)(at_:Nat):List Si:=let c:=low f e g 0 k at_;let d:=lowS f e g i n<|at_+c+1;let j:=lowS f e g i m<|at_+c+1+d+1;if h.kind=5 then c++[⟨9,at_+c+1+d+1,0,0⟩]++d++[⟨8,at_,0,0⟩]else if h.kind=4 then(if m.gQ then c++[⟨9,at_+c+1+d,0,0⟩]++d else c++[⟨9,at_+c+1+d+1,0,0⟩]++d++[⟨8,at_+c+1+d+1+j,0,0⟩]++j)else c++wu f e g i h k
def nW(d c e f g)(h:Re)(j i k:Rb)(at_):lowS d c e f (.cons g h j i k) at_=bH d c e f g h j i at_++lowS d c e f k (at_+(bH d c e f g h j i at_)):=rfl
def oQ(l:List Si)(p:Nat)(b:List Si):Prop:=∀c x,b[c]?=some x->l[p+c]?=some x
section
variable{l a b:List Si}{p:Nat}{x:Si}
def oQ.left(d:oQ l p<|a++b):oQ l p a:=λf e c=>d f e (by rw[Y3 (Zm.1 c).1];exact c)
def oQ.right(c:oQ l p<|a++b):oQ l (p+a) b:=λf e d=>by have:=c (a+f) e (by rw[Y0 Z9,XW];exact d);rwa[<-Yq]at this
def oQ.head(c:oQ l p (x::b)):l[p]?=x:=c 0 x rfl
def oQ.tail(d:oQ l p (x::b)):oQ l (p+1) b:=λc f e=>by have:=d (c+1) f e;rwa[show p+(c+1)=p+1+c by omega]at this
end
end
section
structure wB(X)(C:Rc)(G:Cg):Prop where
 wf:OJ X C.fs
 last:C.fs=G.E.last+1
 aE:G.V.aE=C.aE
 fn:∀f F g,C.fs[f]?=some F->X.fi[f]?=some g->G.E.params f=g.params/\G.E.aU f=g.words/\G.E.ai f=g.ai/\G.sc f=lowS X G.E f g.ai F.body 0++aY g.ai
 aq:∀f,f<=G.E.last->dH X X.gj<=G.E.first f
structure Rg(X s)(k:Ks):Prop where
 sw:Sw X s
 aq:∀i x,s.aq[i]?=some x->k.mem i=x
 aj:∀a l j x,s.aj[a]?=some l->l[j]?=some x->k.mem (dH X a+j)=x
 rd:k.rd=s.rd
 out:k.out=s.out
 ok:we k
def Ro(G:Cg)(f:Nat)(own:UJ)(c:Ks):Prop:=∀a b,own[a]?=some b->c.mem (G.E.first f+a)=b
def Al(G:Cg)(f b a:Nat):Prop:=a<G.E.first f+G.E.aU f\/(G.W<=a/\a<G.E.ba f)\/(G.E.base f+b<=a/\a<G.ue f)
def dQ(G:Cg)(f b:Nat)(m c:Nat->UInt32):Prop:=∀a,¬Al G f b a->c a=m a
def dQ.refl(G f a m):dQ G f a m m:=λ_ _=>rfl
def dQ.trans{G f n m m1 m2}(c:dQ G f n m m1)(d:dQ G f n m1 m2):dQ G f n m m2:=λb a=>(d b a).trans<|c b a
def dQ.aA{G f n k m a}(b:dQ G f k m a)(hd:n<=k):dQ G f n m a:=λd c=>b d (λe=>c (by unfold Al at*;omega))
def dh(b:List Nat)(a):(b.take a).sum<=b.sum:=by induction b generalizing a with|nil=>simp|cons d b c=>cases a with|zero=>simp|succ a=>simp only[WC,XH];have:=c a;omega
def eC(b:List Nat)(a c)(d:b[a]?=some c):(b.take<|a+1).sum=(b.take a).sum+c:=by rw[WR,d];simp
def lH(c:List Nat){a b}(d:a<=b):(c.take a).sum<=(c.take b).sum:=by have:=dh (c.take b) a;rwa[List.take_take,XP d]at this
def kL{X a n}(b:X.gj[a]?=some n):dH X a+n=dH X (a+1):=by unfold dH;rw[eC _ _ _ b];omega
def iN(X){a b}(c:a<=b):dH X a<=dH X b:=by unfold dH;have:=lH X.gj c;omega
def vL{X b}(c:Sw X b){a:Nat}{l}(d:b.aj[a]?=some l):X.gj[a]?=l:=by rw[<-c.2,Zh,d];rfl
def EB{X c}(d:Sw X c){a l}(e:c.aj[a]?=some l):X.nv<=dH X a/\dH X a+l.length<=dH X X.gj:=by have b:=vL d e;have g:=kL b;have h:=iN X (a:=a+1) (b:=X.gj) (Zm.1 b).1;exact⟨by unfold dH;omega,Z9⟩
def Rg.congr{X k g e}(b:Rg X k g)(j:∀c,c<dH X X.gj->e.mem c=g.mem c)(n:e.rd=g.rd)(m:e.out=g.out)(l:we e):Rg X k e:=by refine⟨b.sw,λh c d=>?_,λa p o c i d=>?_,n.trans b.rd,m.trans b.out,l⟩;{have q:h<X.nv:=by{rw[<-b.sw.1];exact(Zm.1 d).1};have:X.nv<=dH X X.gj:=by{unfold dH;omega};rw[j h Z9];exact b.aq h c d};{have r:=(Zm.1 d).1;have:=EB b.sw i;rw[j _ Z9];exact b.aj a p o c i d}
def Ro.congr{G f own c d}(e:Ro G f own c)(g:∀a,G.E.first f<=a->a<G.E.first f+own->d.mem a=c.mem a):Ro G f own d:=λh a b=>by have:=(Zm.1 b).1;rw[g _ Z9 Z9];exact e h a b
def oR(G:Cg)(K a b:Nat)(g e:Mm)(d:Ks)(c:Nat):Prop:=c=5\/∃n,(mrun G.V n d).bc=c/\(mrun G.V n d).out=e.out/\n+a+K*g.tk<=b+K*e.tk
def oR.pre{G K a i b b1 n h l j k g c}(d:oR G K i b1 l j g c)(e:mrun G.V n k=g)(s:n+a+K*h.tk<=i+K*l.tk)(r:b1<=b):oR G K a b h j k c:=by obtain d|⟨m,o,p,q⟩:=d;{exact .inl d};{exact .inr ⟨n+m,by rw[au,e];exact o,by rw[au,e];exact p,Z9⟩}
def PV(X:Cx)(G:Cg)(K f g b:Nat)(own:UJ)(d:Nat)(i:Mm)(e:Ks)(k:Rv UInt32):Prop:=match k with|.ok v c=>∃h a,mrun G.V h e=a/\a.pc=G.ah f b/\G.dv f b=some (d+1)/\Rg X c a/\Ro G f own a/\a.mem (G.E.base f+d)=v/\dQ G f d e.mem a.mem/\h+G.ah f g+K*i.tk<=G.ah f b+K*c.tk|.stop j c=>oR G K (G.ah f g) (G.ah f b) i c e j
def PC(X:Cx)(G:Cg)(K f g h b:Nat)(own:UJ)(c:Nat)(j:Mm)(e:Ks)(l:Rv UInt32):Prop:=match l with|.ok v d=>∃i a,mrun G.V i e=a/\a.pc=G.ah f b/\(G.E.ai g=true->G.dv f b=some (c+1)/\a.mem (G.E.base f+c)=v)/\(G.E.ai g=false->G.dv f b=c)/\Rg X d a/\Ro G f own a/\dQ G f c e.mem a.mem/\i+G.ah f h+K*j.tk<=G.ah f b+K*d.tk|.stop k d=>oR G K (G.ah f h) (G.ah f b) j d e k
def Left(X:Cx)(G:Cg)(f c:Nat)(v:UT)(b:Mm)(a:Ks):Prop:=(f=G.E.last->a.bc=1/\a.out=b.out)/\(f<G.E.last->a.pc=c/\Rg X b a/\(G.E.ai f=true->a.aC 1=v))
def PS(X:Cx)(G:Cg)(K f g c l:Nat)(h:Mm)(d:Ks)(k:Rv<|List UInt32×Option UInt32):Prop:=match k with|.ok (j,none) b=>∃e a,mrun G.V e d=a/\a.pc=G.ah f c/\G.dv f c=some 0/\Rg X b a/\Ro G f j a/\dQ G f 0 d.mem a.mem/\e+G.ah f g+K*h.tk<=G.ah f c+K*b.tk|.ok (_,some v) b=>∃e a,mrun G.V e d=a/\Left X G f l v b a/\dQ G f 0 d.mem a.mem/\e+G.ah f g+K*h.tk<=G.ah f c+K*b.tk|.stop i b=>oR G K (G.ah f g) (G.ah f c) h b d i
def uj(a:Rv UInt32):Prop:=match a with|.ok v _=>v=0\/v=1|.stop _ _=>True
section
variable{X:Cx}{C:Rc}{G:Cg}(hG:nK G)(hL:wB X C G){f:Nat}(hf:f<=G.E.last)
include hG hL hf
def iu:dH X X.gj<=G.E.first f/\G.E.first f+G.E.aU f<=G.W/\G.W<=G.E.ba f/\G.E.ba f<=G.E.base f:=⟨hL.aq f hf,hG.words f hf,(hG.ba f hf).1,(hG.ba f hf).2.1⟩
def eF{own n d a k' v}(g:Rg X d a)(i:Ro G f own a)(r:own<=G.E.aU f)(b:k'.mem=aL a.mem (G.E.base f+n) v)(k:k'.rd=a.rd)(j:k'.out=a.out)(h:we k')(hd:G.E.base f+n<G.ue f):Rg X d k'/\Ro G f own k'/\k'.mem (G.E.base f+n)=v/\dQ G f n a.mem k'.mem:=by have⟨m,o,p,q⟩:=iu hG hL hf;refine⟨g.congr (λe c=>?_) k j h,i.congr<|λe c s=>?_,?_,λe c=>?_⟩;{rw[b];exact dI _ _ Z9};{rw[b];exact dI _ _ Z9};{rw[b];exact aO _ _ _};{rw[b];exact dI _ _<|λl=>c (by unfold Al;omega)}
def lT{n k m a}(b:dQ G f n m a)(h:k<n):a (G.E.base f+k)=m (G.E.base f+k):=by have⟨c,d,e,g⟩:=iu hG hL hf;exact b _ (by unfold Al;omega)
end
structure Ku(X G K)(F:Mf):Prop where
 val:∀f fi t own d k s r i dp ks,f<=G.E.last->X.fi[f]?=some fi->F.val own d k s=some r->Dl X f fi.words t d k.len->mc X f fi.words (decide (7<=d.kind)) k->own.length=fi.words->oQ (G.sc f) i (aK X G.E f d k i)->G.dv f i=some dp->ks.pc=G.ah f i->Rg X s ks->Ro G f own ks->PV X G K f i (i+(aK X G.E f d k i)) own dp s ks r
 call:∀f fi g gi own e s r i dp ks,f<=G.E.last->X.fi[f]?=some fi->g<f->X.fi[g]?=some gi->gi.params=e.len->F.call g e own s=some r->mc X f fi.words false e->own=fi.words->oQ (G.sc f) i (low X G.E f 0 e i++[⟨10,g,0,0⟩])->G.dv f i=some dp->ks.pc=G.ah f i->Rg X s ks->Ro G f own ks->PC X G K f g i (i+(low X G.E f 0 e i++[(⟨10,g,0,0⟩:Si)]).length) own dp s ks r
 eG:∀f fi own b s r i ra ks,f<=G.E.last->X.fi[f]?=some fi->F.eG b own s=some r->ov X f fi.words fi.ai b->own=fi.words->(f<G.E.last->ks.mem (G.E.ba f)=UInt32.ofNat ra/\ra<65536)->oQ (G.sc f) i (lowS X G.E f fi.ai b i)->G.dv f i=some 0->ks.pc=G.ah f i->Rg X s ks->Ro G f own ks->PS X G K f i (i+(lowS X G.E f fi.ai b i)) ra s ks r
 ej:∀f fi own d e t o s r i ra ks,f<=G.E.last->X.fi[f]?=some fi->F.ej d e t o own s=some r->Gf X f fi.words fi.ai d e.len->mc X f fi.words (decide<|d.kind=4\/d.kind=5) e->ov X f fi.words fi.ai t->ov X f fi.words fi.ai o->own=fi.words->(f<G.E.last->ks.mem (G.E.ba f)=UInt32.ofNat ra/\ra<65536)->oQ (G.sc f) i (bH X G.E f fi.ai d e t o i)->G.dv f i=some 0->ks.pc=G.ah f i->Rg X s ks->Ro G f own ks->PS X G K f i (i+(bH X G.E f fi.ai d e t o i)) ra s ks r
 nF:∀f fi own d e t o s r i ra ks,f<=G.E.last->X.fi[f]?=some fi->F.nF e t own s=some r->d.kind=5->e.len=1->mc X f fi.words true e->ov X f fi.words fi.ai t->own=fi.words->(f<G.E.last->ks.mem (G.E.ba f)=UInt32.ofNat ra/\ra<65536)->oQ (G.sc f) i (bH X G.E f fi.ai d e t o i)->G.dv f i=some 0->ks.pc=G.ah f i->Rg X s ks->Ro G f own ks->PS X G K f i (i+(bH X G.E f fi.ai d e t o i)) ra s ks r
def yW(c a b)(d:c=14\/c=15):(bJ c a b).1=0\/(bJ c a b).1=1:=by rw[(by unfold bJ;rw[if_neg Z9,if_neg Z9,if_neg Z9,if_neg Z9,if_neg Z9,if_neg Z9,if_pos d]:bJ c a b=(jU c a b,0))];unfold jU;split;{split<;>simp};{split;{split<;>simp};{simp}}
def Ek(X:Cx)(d:Mf):Prop:=∀f nw own a b e c,d.val own a b e=some c->Dl X f nw true a b.len->mc X f nw (decide (7<=a.kind)) b->uj c
def EO{X C n}(o:Ek X n){f nw own j k s r}(e:valM C n own j k s=some r)(t:Dl X f nw true j k.len)(p:mc X f nw (decide (7<=j.kind)) k):uj r:=by unfold valM at e;obtain⟨_,c,_⟩|⟨_,c,_⟩|⟨_,c,_⟩|⟨_,c,_⟩|⟨_,c,_⟩|⟨i,c,g,B,A⟩|⟨i,c,g⟩|⟨i,c,g⟩:=t;{cases c};{cases c};{cases c};{cases c};{cases c};{rw[if_neg Z9,if_neg Z9,if_neg Z9,if_neg Z9,if_neg Z9,if_pos i]at e;obtain⟨a,l,b,q,rfl⟩:=Vb g;obtain⟨_,_,_,rfl⟩|⟨v,m,_,d⟩:=XN e;{trivial};{obtain⟨_,_,_,rfl⟩|⟨F,D,_,h⟩:=XN d;{trivial};{split at h<;>injection h with h<;>subst h;{exact yW _ _ _<|of_decide_eq_true c.symm};{trivial}}}};{rw[if_neg Z9,if_neg Z9,if_neg Z9,if_neg Z9,if_neg Z9,if_neg Z9,if_pos i]at e;obtain⟨a,l,rfl⟩:=VB g;obtain⟨_,_,_,rfl⟩|⟨v,m,_,d⟩:=XN e;{trivial};{cases d;show(if v=0 then(1:UT)else 0)=0\/_;split<;>simp}};{rw[if_neg Z9,if_neg Z9,if_neg Z9,if_neg Z9,if_neg Z9,if_neg Z9,if_neg Z9]at e;obtain⟨a,l,b,q,rfl⟩:=Vb g;rw[decide_eq_true Z9]at p;have⟨w,x,y,z,_⟩:=p;obtain⟨_,_,_,rfl⟩|⟨v,m,u,d⟩:=XN e;{trivial};{split at d;{cases d;exact o f nw own a l s _ u w x};{exact o f nw own b q m _ d y z}}}
theorem xz(X C):∀n,Ek X (mfn C n)|0=>λ_ _ _ _ _ _ _ a=>absurd a (by simp[mfn,Mf.zero])|n+1=>λ_ _ _ _ _ _ _ a b c=>EO (xz X C n) a b c
section
variable{X:Cx}{C:Rc}{G:Cg}(hG:nK G)(hL:wB X C G){K:Nat}
include hG hL
omit hL in theorem PV.bind{f i i1 e dp:Nat}{own:List UInt32}{s:Mm}{ks:Ks}{r1:Option (Rv UInt32)}{g:UInt32->Mm->Option (Rv UInt32)}{r:Rv UInt32}(hr:Rv.bind r1 g=some r)(he:i1<=e)(h1:∀y,r1=some y->PV X G K f i i1 own dp s ks y)(h2:∀v s1 n k1,r1=some (.ok v s1)->g v s1=some r->mrun G.V n ks=k1->k1.pc=G.ah f i1->G.dv f i1=some (dp+1)->Rg X s1 k1->Ro G f own k1->k1.mem (G.E.base f+dp)=v->dQ G f dp ks.mem k1.mem->PV X G K f i1 e own dp s1 k1 r):PV X G K f i e own dp s ks r:=by obtain⟨er,s1,hr1,rfl⟩|⟨v,s1,hr1,hg⟩:=XN hr;{exact(h1 _ hr1).pre (n:=0) (k:=ks) rfl Z9<|hG.dN f he};{obtain⟨n,k1,q1,q2,q3,q4,q5,q6,q7,q8⟩:=h1 _ hr1;have hh:=h2 v s1 n k1 hr1 hg q1 q2 q3 q4 q5 q6 q7;cases r with|stop er s2=>exact oR.pre hh q1 q8 (Zq _)|ok w s2=>obtain⟨m,k2,p1,p2,p3,p4,p5,p6,p7,p8⟩:=hh;exact⟨n+m,k2,by rw[au,q1];exact p1,p2,p3,p4,p5,p6,q7.trans p7,Z9⟩}
def sim_val{a7}(hB:Ek X a7)(hS:Ku X G K a7){f D i5 own c a2 J a3 n k I}(hf:f<=G.E.last)(Q:X.fi[f]?=some D)(h:valM C a7 own c a2 J=some a3)(h0:Dl X f D.words i5 c a2.len)(W:mc X f D.words (decide (7<=c.kind)) a2)(ho:own=D.words)(q:oQ (G.sc f) n<|aK X G.E f c a2 n)(hd:G.dv f n=some k)(hp:I.pc=G.ah f n)(O:Rg X J I)(T:Ro G f own I):PV X G K f n (n+(aK X G.E f c a2 n)) own k J I a3:=by have⟨b1,b2,b3,b4⟩:=iu hG hL hf;have e':f<C.fs:=by{rw[hL.last];omega};have⟨g0,d0,e1,e2,e3⟩:=hL.wf.fn f _<|Zp e';rw[Q]at d0;injection d0 with d0;subst d0;have⟨l1,l2,l3,l4⟩:=hL.fn f _ D (Zp e') Q;have R:own<=G.E.aU f:=Z9;have i7:=hG.W;have hk:=O.ok;unfold valM at h;obtain⟨j,ht,r⟩|⟨j,ht,r,V⟩|⟨j,ht,r,V⟩|⟨j,ht,V,e4,i,f8,f9⟩|⟨j,ht,r⟩|⟨j,ht,r,h4,i6⟩|⟨j,ht,r⟩|⟨d5,ht,r⟩:=h0;{rw[if_pos j]at h;injection h with h;subst h;have c0:=Vn r;subst c0;have B:aK X G.E f c .nil n=[⟨1,0,0,c.num⟩]:=by{unfold aK pd low;rw[if_pos j];rfl};rw[B]at q⊢;have⟨w,d,s⟩:=qK hG hf hd hk hp q.head;have a0:=hG.deep f _ _ hf s;have⟨N,y,z,o⟩:=eF hG hL hf O T R d.mem d.rd d.out d.ok Z9;have hm:=hG.mono f n;exact⟨_,w,d.run,d.pc,s,N,y,z,o,by show _<=G.ah f (n+1)+_;omega⟩};{rw[if_neg Z9,if_pos j]at h;have c0:=Vn r;subst c0;have B:aK X G.E f c .nil n=[⟨2,iA X G.E f c,0,0⟩]:=by{unfold aK pd low;rw[if_neg Z9,if_pos j];rfl};rw[B]at q⊢;have j5:X.nv<=dH X X.gj:=by{unfold dH;omega};have key:∃v,a3=.ok v J/\I.mem (iA X G.E f c)=v/\iA X G.E f c<G.V.D:=by{obtain⟨r,V⟩|⟨r,V⟩:=V;{rw[if_pos r]at h;cases F:own[c.n]? with|none=>rw[F]at h;exact absurd h Z5|some p=>rw[F]at h;injection h with h;have es:iA X G.E f c=G.E.first f+c.n:=by{unfold iA;rw[if_neg Z9,if_pos j,if_pos r]};exact⟨p,h.symm,by rw[es];exact T c.n p F,by rw[es];omega⟩};{rw[if_neg (by simp[r])]at h;cases F:J.aq[c.n]? with|none=>rw[F]at h;exact absurd h Z5|some p=>rw[F]at h;injection h with h;have es:iA X G.E f c=c.n:=by{unfold iA;rw[if_neg Z9,if_pos j,if_neg (by simp[r])]};exact⟨p,h.symm,by rw[es];exact O.aq c.n p F,by rw[es];omega⟩}};obtain⟨v,rfl,f',h6⟩:=key;have⟨w,d,s⟩:=FY hG hf hd hk hp q.head h6;have a0:=hG.deep f _ _ hf s;have⟨N,y,z,o⟩:=eF hG hL hf O T R d.mem d.rd d.out d.ok Z9;have hm:=hG.mono f n;exact⟨_,w,d.run,d.pc,s,N,y,by rw[z,f'],o,by show _<=G.ah f (n+1)+_;omega⟩};{rw[if_neg Z9,if_neg Z9,if_pos j]at h;obtain⟨a,e,rfl⟩:=VB r;rw[j]at W;have⟨w1,w2,_⟩:=W;have es:iA X G.E f c=dH X c.n:=by{unfold iA;rw[if_pos j]};have B:aK X G.E f c (.cons a e .nil) n=aK X G.E f a e n++[(⟨4,dH X c.n,X.gj.getD c.n 0,0⟩:Si)]:=by{(conv=>lhs;unfold aK pd);rw[if_neg Z9,if_neg Z9,if_neg Z9,if_pos j,fh,es]};rw[B]at q⊢;refine PV.bind hG h (i1:=n+(aK X G.E f a e n).length) ZD (λl H=>(hS.val f D _ own a e J l n k I hf Q H w1 w2 ho q.left hd hp O T)) (λv A c9 x d2 i N y z o Z q6 q7=>?_);obtain⟨p,hx⟩:∃p,X.gj[c.n]?=some p:=⟨X.gj[c.n],Zp V⟩;have i1:X.gj.getD c.n 0=p:=by{rw[YS,hx];rfl};have j7:=kL hx;have j8:=iN X (a:=c.n+1) (b:=X.gj.length) V;have e9:=q.right.head;rw[i1]at e9;have⟨M,a6,a',b5⟩:=Db hG hf z o.ok y e9 Z9;obtain rfl:k=M:=Z9;rw[q6]at a' b5;unfold atM at i;have⟨f4,d6⟩:=km (l:=A.aj) (n:=c.n) (by rw[o.sw.2];exact V);have d7:=vL o.sw d6;rw[hx]at d7;injection d7 with d7;rw[d6]at i;dsimp only at i;have e2:n+(aK X G.E f a e n++[(⟨4,dH X c.n,X.gj.getD c.n 0,0⟩:Si)]).length=n+(aK X G.E f a e n).length+1:=ZD;rw[e2];have d8:=hG.mono f<|n+(aK X G.E f a e n).length;cases F:f4[v.toNat]? with|none=>rw[F]at i;injection i with i;subst i;have⟨m,m1,m2,m3⟩:=b5 (by have:=XS.1 F;omega);exact .inr ⟨m,m2,m3.trans o.out,Z9⟩|some l=>rw[F]at i;injection i with i;subst i;have i8:=(Zm.1 F).1;have⟨w,d,s⟩:=a' Z9;have a0:=hG.deep f _ _ hf s;have⟨P,p2,p3,Y⟩:=eF hG hL hf o Z R d.mem d.rd d.out d.ok Z9;refine⟨_,w,d.run,d.pc,s,P,p2,?_,Y,Z9⟩;rw[p3,Xh];exact o.aj c.n f4 v.toNat l d6 F};{rw[if_neg Z9,if_neg Z9,if_neg Z9,if_pos j]at h;have B:aK X G.E f c a2 n=low X G.E f 0 a2 n++[(⟨10,c.n,0,0⟩:Si)]:=by{unfold aK pd;rw[if_neg (by omega:¬(c.kind=8\/c.kind=9)),if_neg Z9,if_neg Z9,if_neg Z9,if_pos j]};rw[B]at q⊢;rw[j]at W;have hc:=hS.call f D c.n e4 own a2 J a3 n k I hf Q V i f8 h W ho q hd hp O T;have f3:G.E.ai c.n=true:=by{obtain⟨F',f5⟩:∃F',C.fs[c.n]?=some F':=⟨C.fs[c.n]'(Z9),Zp _⟩;rw[(hL.fn c.n F' e4 f5 i).2.2.1,f9]};cases a3 with|stop er s'=>exact hc|ok v s'=>have⟨c9,w,P,p2,p3,Y,p5,p6,p7,p8⟩:=hc;exact⟨c9,w,P,p2,(p3 f3).1,p5,p6,(p3 f3).2,p7,p8⟩};{rw[if_neg Z9,if_neg Z9,if_neg Z9,if_neg Z9,if_pos j]at h;injection h with h;have c0:=Vn r;subst c0;have B:aK X G.E f c .nil n=[⟨12,0,0,0⟩]:=by{unfold aK pd low;rw[if_neg Z9,if_neg Z9,if_neg Z9,if_neg Z9,if_pos j];rfl};rw[B]at q⊢;obtain⟨v,rd,d3⟩:∃v rd,(match G.V.aE[I.rd]? with|none=>((256:UInt32),I.rd)|some p=>(UInt32.ofNat p.toNat,I.rd+1))=(v,rd):=⟨_,_,rfl⟩;have⟨w,g1,g2,g3,g4,g5,g6,g7⟩:=mac_get hG hf hd hk hp q.head v rd d3;have a0:=hG.deep f _ _ hf g7;have hm:=hG.mono f n;have h5:a3=.ok v {J with rd:=rd}:=by{rw[<-h];unfold getM;rw[hL.aE,O.rd]at d3;split at d3<;>(rename_i F;injection d3 with v1 v2;subst v1;subst v2;first|rfl|(rw[F]))};subst h5;have⟨N,y,z,o⟩:=eF hG hL hf (k':={w with rd:=I.rd}) O T R g3 rfl g5 ⟨g6.bc,g6.r0,g6.js⟩ Z9;exact⟨_,w,g1,g2,g7,⟨N.sw,N.aq,N.aj,g4,N.out,g6⟩,y,z,o,by show _<=G.ah f (n+1)+K*J.tk;omega⟩};{rw[if_neg Z9,if_neg Z9,if_neg Z9,if_neg Z9,if_neg Z9,if_pos j]at h;obtain⟨a,e,b,L,rfl⟩:=Vb r;rw[j]at W;have⟨w1,w2,w3,w4,_⟩:=W;have B:aK X G.E f c (.cons a e<|.cons b L .nil) n=aK X G.E f a e n++(aK X G.E f b L (n+(aK X G.E f a e n).length)++[(⟨6,c.op.toNat,0,0⟩:Si)]):=by{(conv=>lhs;unfold aK pd);rw[if_neg Z9,if_neg Z9,if_neg Z9,if_neg Z9,if_neg Z9,if_neg Z9,if_pos j,kh,fh,Y8]};rw[B]at q⊢;refine PV.bind hG h (i1:=n+(aK X G.E f a e n).length) ZD (λl H=>(hS.val f D _ own a e J l n k I hf Q H w1 w2 ho q.left hd hp O T)) (λv A c9 x d2 i N y z o Z q6 q7=>?_);have U:=q.right;obtain⟨er,s2,d9,rfl⟩|⟨c',s2,d9,a1⟩:=XN i;{have:=hS.val f D _ own b L A _ _ (k+1) x hf Q d9 w3 w4 ho U.left z y o Z;exact oR.pre (n:=0) this rfl Z9<|hG.dN f ZD};{have⟨m,S,P,p2,p3,Y,p5,p6,p7,p8⟩:=hS.val f D _ own b L A _ _ (k+1) x hf Q d9 w3 w4 ho U.left z y o Z;have f6:=U.right.head;have⟨M,a6,a',b5⟩:=L3 hG hf p3 Y.ok p2 f6 Z9 Z9;obtain rfl:k=M:=Z9;have m1:S.mem (G.E.base f+k)=v:=by{rw[lT hG hL hf p7<|YP k];exact q6};have m2:S.mem (G.E.base f+k+1)=c':=p6;rw[m1,m2,show((c.op.toNat:Nat):Int)=c.op by omega]at a' b5;have e2:n+(aK X G.E f a e n++(aK X G.E f b L (n+(aK X G.E f a e n).length)++[(⟨6,c.op.toNat,0,0⟩:Si)])).length=n+(aK X G.E f a e n).length+(aK X G.E f b L<|n+(aK X G.E f a e n).length).length+1:=ZD;rw[e2];have d8:=hG.mono f<|n+(aK X G.E f a e n).length+(aK X G.E f b L<|n+(aK X G.E f a e n).length).length;by_cases hz:(bJ c.op v c').2=0;{rw[if_pos hz]at a1;injection a1 with a1;subst a1;have⟨w,d,s⟩:=a' hz;have a0:=hG.deep f _ _ hf s;have⟨u1,u2,u3,u4⟩:=eF hG hL hf Y p5 R d.mem d.rd d.out d.ok Z9;exact⟨m+_,w,by rw[au,P];exact d.run,d.pc,s,u1,u2,u3,(p7.aA Z9).trans u4,Z9⟩};{rw[if_neg hz]at a1;injection a1 with a1;subst a1;have⟨m',j9,i2,i3⟩:=b5 hz;exact .inr ⟨m+m',by rw[au,P];exact i2,by rw[au,P];exact i3.trans Y.out,Z9⟩}}};{rw[if_neg Z9,if_neg Z9,if_neg Z9,if_neg Z9,if_neg Z9,if_neg Z9,if_pos j]at h;obtain⟨a,e,rfl⟩:=VB r;have⟨w1,w2,_⟩:=W;have B:aK X G.E f c (.cons a e .nil) n=aK X G.E f a e n++[bP]:=by{(conv=>lhs;unfold aK pd);rw[if_neg Z9,if_neg Z9,if_neg Z9,if_neg Z9,if_neg Z9,if_neg Z9,if_neg Z9,if_pos j,fh]};rw[B]at q⊢;refine PV.bind hG h (i1:=n+(aK X G.E f a e n).length) ZD (λl H=>(hS.val f D _ own a e J l n k I hf Q H w1 w2 ho q.left hd hp O T)) (λv A c9 x d2 i N y z o Z q6 q7=>?_);injection i with i;subst i;have⟨M,w,a6,d,s⟩:=pD hG hf z o.ok y q.right.head;obtain rfl:k=M:=Z9;have a0:=hG.deep f _ _ hf s;have⟨u1,u2,u3,u4⟩:=eF hG hL hf o Z R d.mem d.rd d.out d.ok Z9;have e2:n+(aK X G.E f a e n++[bP]).length=n+(aK X G.E f a e n).length+1:=ZD;rw[e2];have d8:=hG.mono f<|n+(aK X G.E f a e n).length;exact⟨_,w,d.run,d.pc,s,u1,u2,by rw[u3,q6],u4,Z9⟩};{rw[if_neg Z9,if_neg Z9,if_neg Z9,if_neg Z9,if_neg Z9,if_neg Z9,if_neg Z9]at h;obtain⟨a,e,b,L,rfl⟩:=Vb r;have h7:decide (7<=c.kind)=true:=decide_eq_true Z9;rw[h7]at W;have⟨w1,w2,w3,w4,_⟩:=W;obtain⟨nt,c6⟩:∃nt:List Si,nt=if c.kind=8 then[bP]else[]:=⟨_,rfl⟩;obtain⟨kn,c5⟩:∃kn:UInt32,kn=if c.kind=8 then 0 else 1:=⟨_,rfl⟩;obtain⟨g,hz⟩:∃g,g=n+(aK X G.E f a e n++nt).length:=⟨_,rfl⟩;obtain⟨t,d4⟩:∃t,t=aK X G.E f b L (g+3):=⟨_,rfl⟩;have B:aK X G.E f c (.cons a e<|.cons b L .nil) n=aK X G.E f a e n++(nt++([(⟨9,g+3,0,0⟩:Si),⟨1,0,0,kn⟩,⟨8,g+3+t.length+2,0,0⟩]++(t++[bP,bP]))):=by{have eo:pd X G.E f c=[bP,bP]:=by{unfold pd;rw[if_neg Z9,if_neg Z9,if_neg Z9,if_neg Z9,if_neg Z9,if_neg Z9,if_neg Z9]};(conv=>lhs;unfold aK);rw[if_pos d5,zL X G.E f c.kind d5,eo,<-c6,<-c5,<-hz,<-d4];simp only[Y8]};rw[B]at q⊢;have e0:g=n+(aK X G.E f a e n).length+nt.length:=by{rw[hz,Zn];omega};have f7:n+(aK X G.E f a e n++(nt++([(⟨9,g+3,0,0⟩:Si),⟨1,0,0,kn⟩,⟨8,g+3+t.length+2,0,0⟩]++(t++[bP,bP])))).length=g+3+t.length+2:=by{simp only[Zn,Ze,YX];omega};rw[f7];have e8:=q.right;have b':=e8.right;rw[show n+(aK X G.E f a e n).length+nt.length=g from e0.symm]at b';have U:=b'.right;rw[show[(⟨9,g+3,0,0⟩:Si),⟨1,0,0,kn⟩,⟨8,g+3+t.length+2,0,0⟩].length=3 from rfl,d4]at U;have f2:∀l,a7.val own a e J=some l->PV X G K f n (n+(aK X G.E f a e n).length) own k J I l/\uj l:=λl H=>⟨hS.val f D _ own a e J l n k I hf Q H w1 w2 ho q.left hd hp O T,hB f D.words own a e J l H w1 w2⟩;have h':∀A x l,a7.val own b L A=some l->G.dv f (g+3)=some k->x.pc=G.ah f (g+3)->Rg X A x->Ro G f own x->PV X G K f (g+3) (g+3+(aK X G.E f b L<|g+3).length) own k A x l/\uj l:=λA x l H c1 c2 c3 c4=>⟨hS.val f D _ own b L A l _ k x hf Q H w3 w4 ho U.left c1 c2 c3 c4,hB f D.words own b L A l H w3 w4⟩;{refine PV.bind hG h (i1:=n+(aK X G.E f a e n).length) Z9 (λl H=>(f2 l H).1) (λv A c9 x d2 i N y z o Z q6 q7=>?_);have d1:v=0\/v=1:=(f2 _ d2).2;have hx:∃m S p,mrun G.V m x=S/\S.pc=G.ah f g/\G.dv f g=some (k+1)/\Rg X A S/\Ro G f own S/\S.mem (G.E.base f+k)=p/\dQ G f k x.mem S.mem/\m+G.ah f (n+(aK X G.E f a e n).length)<=G.ah f g/\(p=0↔¬(decide (v=0)=decide (c.kind=8)))/\(p≠0->v=kn):=by{obtain h8|h9:=d5;{rw[if_pos h8]at c6 c5;subst c6 c5;have⟨M,w,a6,d,s⟩:=pD hG hf z o.ok y e8.left.head;obtain rfl:k=M:=Z9;have a0:=hG.deep f _ _ hf s;have⟨u1,u2,u3,u4⟩:=eF hG hL hf o Z R d.mem d.rd d.out d.ok Z9;have ez:n+(aK X G.E f a e n).length+1=g:=e0.symm;rw[ez]at d s;have d8:=hG.dN f (show n+(aK X G.E f a e n).length<=g by omega);refine⟨_,w,_,d.run,d.pc,s,u1,u2,u3,u4,Z9,?_,?_⟩;{rw[q6];rcases d1 with rfl|rfl<;>simp[h8]};{rw[q6];rcases d1 with rfl|rfl<;>simp}};{rw[if_neg Z9]at c6 c5;subst c6 c5;have ez:n+(aK X G.E f a e n).length=g:=by{rw[e0];rfl};rw[ez]at y z⊢;refine⟨0,x,v,rfl,y,z,o,Z,q6,dQ.refl _ _ _ _,Z9,?_,?_⟩;{rcases d1 with rfl|rfl<;>simp[h9]};{rcases d1 with rfl|rfl<;>simp}}};have⟨m,S,p,P,p2,p3,Y,p5,p6,p7,p8,p9,i4⟩:=hx;have⟨M,k3,a6,d,g8,g9,j4⟩:=mO hG hf p3 Y.ok p2 b'.left.head;obtain rfl:k=M:=Z9;have i9:=hG.dN f (show g+1<=g+2 by omega);have j0:=hG.dN f (show g+2<=g+3 by omega);have j1:=hG.dN f (show g+3<=g+3+t.length+2 by omega);have e7:Rg X A k3:=Y.congr (λp _=>by rw[d.mem]) d.rd d.out d.ok;have e6:Ro G f own k3:=p5.congr (λp _ _=>by rw[d.mem]);have e5:dQ G f k x.mem k3.mem:=λl H=>by{rw[d.mem];exact p7 l H};rw[p6]at d;by_cases c8:p=0;{have c7:=d.pc;rw[if_pos c8]at c7;rw[if_neg<|p9.1 c8]at i;have hb:=(h' A k3 a3 i g8 c7 e7 e6);rw[<-d4]at hb U;cases a3 with|stop er s2=>exact oR.pre (n:=m+2) hb.1 (by rw[au,P];exact d.run) Z9 (hG.dN f Z9)|ok c' s2=>have⟨n4,k4,t1,t2,t3,t4,t5,t6,t7,t8⟩:=hb.1;have i0:c'=0\/c'=1:=hb.2;have⟨M,k5,a6,u,f1⟩:=pD hG hf t3 t4.ok t2 U.right.head;obtain rfl:k=M:=Z9;have a0:=hG.deep f _ _ hf f1;have⟨u1,u2,u3,u4⟩:=eF hG hL hf t4 t5 R u.mem u.rd u.out u.ok Z9;have⟨M,k6,a6,a5,h2⟩:=pD hG hf f1 u1.ok u.pc U.right.tail.head;obtain rfl:k=M:=Z9;have⟨v1,v2,v3,v4⟩:=eF hG hL hf u1 u2 R a5.mem a5.rd a5.out a5.ok Z9;have j2:=hG.mono f<|g+3+t.length;have j3:=hG.mono f<|g+3+t.length+1;refine⟨(m+2)+(n4+(G.ah f (g+3+t.length+1)-G.ah f (g+3+t.length)+(G.ah f (g+3+t.length+1+1)-G.ah f (g+3+t.length+1)))),k6,?_,a5.pc,h2,v1,v2,?_,e5.trans<|t7.trans<|u4.trans v4,?_⟩;{rw[au,au G.V m,P,d.run,au,t1,au,u.run,a5.run]};{rw[v3,u3,t6];rcases i0 with rfl|rfl<;>simp};{show _<=G.ah f (g+3+t.length+1+1)+_;omega}};{have c7:=d.pc;rw[if_neg c8]at c7;have h1:decide (v=0)=decide (c.kind=8):=V1 λhc=>c8<|p9.2 hc;rw[if_pos h1]at i;injection i with i;subst i;have⟨k4,a4,f0⟩:=qK hG hf g9 d.ok c7 b'.left.tail.head;have a0:=hG.deep f _ _ hf f0;have⟨u1,u2,u3,u4⟩:=eF hG hL hf e7 e6 R a4.mem a4.rd a4.out a4.ok Z9;have⟨k5,u,g',h3⟩:=qJ hG hf f0 u1.ok a4.pc b'.left.tail.tail.head;have j6:G.ah f (g+3)=G.ah f (g+2)+1:=h3;refine⟨(m+2)+((G.ah f (g+1+1)-G.ah f (g+1))+1),k5,?_,u.pc,g',u1.congr (λp _=>by rw[u.mem]) u.rd u.out u.ok,u2.congr<|λp _ _=>by rw[u.mem],?_,?_,?_⟩;{rw[au,au G.V m,P,d.run,au,a4.run,u.run]};{rw[u.mem,u3];exact(i4 c8).symm};{rw[u.mem];exact e5.trans u4};{have:g+1+1=g+2:=rfl;rw[this];omega}}}}
end
def Vd:=@PV.bind
end
section
variable{G:Cg}(hG:nK G){f i d:Nat}{s:Ks}(hf:f<=G.E.last)(hd:G.dv f i=some d)(hk:we s)(hp:s.pc=G.ah f i)
include hG hf hd hk hp
def Jb(j:(G.sc f)[i]?=some ⟨11,0,0,0⟩)(m:f<G.E.last):∃k c,mrun G.V k s=c/\k=G.ah f (i+1)-G.ah f i/\c.pc=(s.mem<|G.E.ba f)/\c.mem=s.mem/\c.rd=s.rd/\c.out=s.out/\we c/\(G.E.ai f=true->∃a,d=a+1/\c.aC 1=s.mem (G.E.base f+a)):=by have⟨b,e⟩:=hG.gP f i _ d hf j hd;have p:=hG.deep f _ _ hf hd;have u:=hG.ue f hf;have o:=hG.data;have q:=((hG.ba f hf).2.2 m).2;have r:=(hG.step f i _ d hf j hd).1;rw[<-hp]at b;by_cases h:G.E.ai f=true;{have t:1<=d:=by{have n:aS G.E f ⟨11,0,0,0⟩=1:=by{unfold aS;simp[h]};omega};obtain⟨a,rfl⟩:∃a,d=a+1:=⟨d-1,Z9⟩;rw[(by show(if f=G.E.last then _ else _)=_;rw[if_neg Z9,if_pos h];rfl:gO G.E f (a+1) ⟨11,0,0,0⟩=[gi 16 1 0<|G.E.base f+a,gi 16 14 0<|G.E.ba f,gi 22 14 0 0])]at b e;exact⟨3,_,(by rw[aH 2 b hk.bc];simp only[aP];rw[dr hk Z9 Z9,aH 1 (by exact b.tail) rfl];simp only[aP];rw[dr ⟨rfl,by simp[aL,hk.r0],by simp[aL,hk.js]⟩ Z9 Z9,aH 0 (by exact b.tail.tail) rfl];simp only[aP,mrun,By,aO]:mrun G.V 3 s=⟨(s.mem<|G.E.ba f),aL (aL s.aC 1<|s.mem<|G.E.base f+a) 14<|s.mem<|G.E.ba f,s.mem,s.rd,s.out,s.st+1+1+1,0⟩),by rw[e];simp,rfl,rfl,rfl,rfl,⟨rfl,by simp[aL,hk.r0],by simp[aL,hk.js]⟩,λ_=>⟨a,rfl,by simp[aL]⟩⟩};{rw[(by show(if f=G.E.last then _ else _)=_;rw[if_neg Z9,if_neg h];rfl:gO G.E f d ⟨11,0,0,0⟩=[gi 16 14 0<|G.E.ba f,gi 22 14 0 0])]at b e;exact⟨2,_,(by rw[aH 1 b hk.bc];simp only[aP];rw[dr hk Z9 Z9,aH 0 (by exact b.tail) rfl];simp only[aP,mrun,By,aO]:mrun G.V 2 s=⟨(s.mem<|G.E.ba f),aL s.aC 14<|s.mem<|G.E.ba f,s.mem,s.rd,s.out,s.st+1+1,0⟩),by rw[e];simp,rfl,rfl,rfl,rfl,⟨rfl,by simp[aL,hk.r0],by simp[aL,hk.js]⟩,λl=>absurd l h⟩}
def FX(e:(G.sc f)[i]?=some ⟨11,0,0,0⟩)(c:f=G.E.last):G.ah f (i+1)=G.ah f i+1/\(mrun G.V 1 s).bc=1/\(mrun G.V 1 s).out=s.out/\(mrun G.V 1 s).mem=s.mem:=by have⟨a,b⟩:=hG.gP f i _ d hf e hd;rw[<-hp]at a;rw[(by show(if f=G.E.last then _ else _)=_;rw[if_pos c]:gO G.E f d ⟨11,0,0,0⟩=[gi 26 0 0 0])]at a b;have run:mrun G.V 1 s={s with st:=s.st+1,bc:=1}:=by{rw[aH 0 a hk.bc];rfl};exact⟨by rw[b];rfl,Zx,Zx,Zx⟩
end
theorem Bx{G:Cg}(n:G.V.D<=32768){f g dp:Nat}(q:G.E.first g+G.E.params g<=G.E.base f)(p:G.E.base f+dp+G.E.params g<=G.V.D):∀(m a:Nat)(s:Ks),a+m=G.E.params g->we s->pq G.V s.pc ((gA G.E f (dp+G.E.params g) g a m).map G.res)->∃h,Nx G.V s (2*m) (s.pc+2*m) (λb=>if G.E.first g+a<=b/\b<G.E.first g+a+m then s.mem (G.E.base f+dp+(b-G.E.first g))else s.mem b) h|0,a,s,_,hk,_=>⟨s,rfl,rfl,by funext b;rw[if_neg (by omega)],rfl,rfl,hk⟩|m+1,a,s,r,hk,o=>by have e:pq G.V s.pc (⟨16,1,0,G.E.base f+(dp+G.E.params g)-(G.E.params g-a)⟩::⟨17,1,0,G.E.first g+a⟩::((gA G.E f (dp+G.E.params g) g (a+1) m).map G.res)):=o;have l:G.E.base f+(dp+G.E.params g)-(G.E.params g-a)=G.E.base f+dp+a:=Z9;rw[l]at e;have run:mrun G.V 2 s=⟨s.pc+1+1,aL s.aC 1<|s.mem<|G.E.base f+dp+a,aL s.mem (G.E.first g+a)<|s.mem<|G.E.base f+dp+a,s.rd,s.out,s.st+1+1,0⟩:=by{rw[aH 1 e hk.bc,dr hk Z9 Z9,aH 0 (by exact e.tail) rfl,gm ⟨rfl,by simp[aL,hk.r0],by simp[aL,hk.js]⟩ Z9 Z9];simp only[aO,mrun]};obtain⟨h,c⟩:=Bx n q p m (a+1) ⟨s.pc+1+1,aL s.aC 1<|s.mem<|G.E.base f+dp+a,aL s.mem (G.E.first g+a)<|s.mem<|G.E.base f+dp+a,s.rd,s.out,s.st+1+1,0⟩ Z9 ⟨rfl,by simp[aL,hk.r0],by simp[aL,hk.js]⟩ e.tail.tail;refine⟨h,by rw[show 2*(m+1)=2+2*m by omega,au,run];exact c.run,by rw[c.pc];show s.pc+1+1+2*m=_;omega,c.mem.trans ?_,c.rd,c.out,c.ok⟩;funext b;show(if G.E.first g+(a+1)<=b/\b<G.E.first g+(a+1)+m then aL s.mem (G.E.first g+a) (s.mem<|G.E.base f+dp+a) (G.E.base f+dp+(b-G.E.first g))else aL s.mem (G.E.first g+a) (s.mem<|G.E.base f+dp+a) b)=_;by_cases j:G.E.first g+(a+1)<=b/\b<G.E.first g+(a+1)+m;{rw[if_pos j,if_pos Z9,dI _ _ Z9]};{rw[if_neg j];by_cases k:b=G.E.first g+a;{subst k;rw[aO,if_pos Z9,show G.E.first g+a-G.E.first g=a by omega]};{rw[dI _ _ k,if_neg Z9]}}
section
variable{G:Cg}(hG:nK G){f i dp:Nat}{s:Ks}(hf:f<=G.E.last){g:Nat}(hgf:g<f)(hd:G.dv f i=some (dp+G.E.params g))(hk:we s)(hp:s.pc=G.ah f i)
include hG hf hd hk hp hgf
def FW(v:(G.sc f)[i]?=some ⟨10,g,0,0⟩):∃c,mrun G.V (2*G.E.params g+1) s=c/\c.pc=G.entry g/\c.mem=(λh=>if G.E.first g<=h/\h<G.E.first g+G.E.params g then s.mem (G.E.base f+dp+(h-G.E.first g))else s.mem h)/\c.rd=s.rd/\c.out=s.out/\we c/\c.aC 14=UInt32.ofNat (G.ah f i+2*G.E.params g+1)/\G.ah f (i+1)=G.ah f i+2*G.E.params g+1+(if G.E.ai g then 1 else 0)/\(∀e,we e->e.pc=G.ah f i+2*G.E.params g+1->G.E.ai g=true->∃A,Nx G.V e 1 (G.ah f<|i+1) (aL e.mem (G.E.base f+dp)<|e.aC 1) A):=by have⟨j,n⟩:=hG.gP f i _ _ hf v hd;have D:=hG.deep f _ _ hf hd;have J:=hG.ue f hf;have x:=hG.data;have I:=hG.Lp g Z9;have H:=hG.first g f hgf hf;have L:=hG.words f hf;have⟨b1,B,_⟩:=hG.ba f hf;have p:gO G.E f (dp+G.E.params g) ⟨10,g,0,0⟩=gA G.E f (dp+G.E.params g) g 0 (G.E.params g)++([⟨⟨21,14,0,0⟩,some (g,none)⟩]++(if G.E.ai g then[gi 17 1 0<|G.E.base f+dp]else[])):=by{show gA G.E f (dp+G.E.params g) g 0 (G.E.params g)++[⟨⟨21,14,0,0⟩,some (g,none)⟩]++(if G.E.ai g then[gi 17 1 0<|G.E.base f+(dp+G.E.params g)-G.E.params g]else[])=_;rw[Y8,show G.E.base f+(dp+G.E.params g)-G.E.params g=G.E.base f+dp by omega]};have hlen:∀(k m:Nat),(gA G.E f (dp+G.E.params g) g k m)=2*m:=by{intro k m;induction m generalizing k with|zero=>rfl|succ m z=>show(gA G.E f (dp+G.E.params g) g (k+1) m).length+1+1=_;rw[z];omega};rw[p,YC,YC]at j;rw[p]at n;rw[<-hp]at j;have⟨b,a⟩:=Bx x (g:=g) (dp:=dp) (f:=f) Z9 Z9 (G.E.params g) 0 s Z9 hk j.left;have q:=j.right;rw[Zi,hlen]at q;have r:pq G.V b.pc (⟨21,14,0,G.entry g⟩::((if G.E.ai g then[gi 17 1 0<|G.E.base f+dp]else[]).map G.res)):=by{rw[a.pc];exact q};refine⟨_,(by rw[au,a.run,aH 0 r a.ok.bc];rfl:mrun G.V (2*G.E.params g+1) s=⟨G.entry g,aL b.aC 14<|UInt32.ofNat<|b.pc+1,b.mem,b.rd,b.out,b.st+1,0⟩),rfl,?_,a.rd,a.out,⟨rfl,by simp[aL,a.ok.r0],by simp[aL,a.ok.js]⟩,?_,?_,?_⟩;{rw[a.mem];funext h;simp only[Yy]};{show aL b.aC 14 (UInt32.ofNat<|b.pc+1) 14=_;rw[aO,a.pc,hp]};{rw[n];simp only[Zn,hlen];split<;>simp<;>omega};{intro e l w o;have t:=r.tail;rw[o,if_pos rfl,a.pc,hp,<-w]at t;have y:pq G.V e.pc (⟨17,1,0,G.E.base f+dp⟩::[]):=t;have u:=(hG.step f i _ _ hf v hd).2 (i+1) YV;rw[(by unfold gX;simp[o]:gX G.E ⟨10,g,0,0⟩=1),(by unfold aS;simp:aS G.E f ⟨10,g,0,0⟩=G.E.params g),V5]at u;have F:=hG.deep f _ _ hf u;exact VA (by rw[aH 0 y l.bc,gm l Z9 Z9];rfl) rfl (by rw[(by rw[n];simp only[Zn,hlen,o,if_pos];simp;omega:G.ah f (i+1)=G.ah f i+2*G.E.params g+1+1),<-w]) l.r0 l.js}
end
def JA(c m b)(e:UT)(a:(c++List.replicate m 0)[b]?=e):(b<c.length/\c[b]?=some e)\/(c<=b/\b<c+m/\e=0):=by by_cases h:b<c;{rw[Y3 h]at a;exact .inl ⟨h,a⟩};{rw[Y0 Z9,Yd]at a;split at a;{injection a with a;exact .inr ⟨Z9,Z9,a.symm⟩};{cases a}}
section
variable{X:Cx}{C:Rc}{G:Cg}(hG:nK G)(hL:wB X C G){K:Nat}
include hG hL
omit hL in theorem vF{f i d ra:Nat}{s:Mm}{ks:Ks}{v:UInt32}(hf:f<=G.E.last)(hra:f<G.E.last->ks.mem (G.E.ba f)=UInt32.ofNat ra/\ra<65536)(hs:(G.sc f)[i]?=some ⟨11,0,0,0⟩)(hd:G.dv f i=some d)(hp:ks.pc=G.ah f i)(hR:Rg X s ks)(hv:G.E.ai f=true->∀d',d=d'+1->ks.mem (G.E.base f+d')=v):∃n k',mrun G.V n ks=k'/\Left X G f ra v s k'/\k'.mem=ks.mem/\n<=G.ah f (i+1)-G.ah f i:=by by_cases hl:f=G.E.last;{obtain⟨h1,h2,h3,h4⟩:=FX hG hf hd hR.ok hp hs hl;exact⟨1,_,rfl,⟨λ_=>⟨h2,h3.trans hR.out⟩,λh=>Z9⟩,h4,Z9⟩};{obtain⟨n,k',h1,h2,h3,h4,h5,h6,h7,h8⟩:=Jb hG hf hd hR.ok hp hs Z9;obtain⟨r1,r2⟩:=hra Z9;refine⟨n,k',h1,⟨λh=>absurd h hl,λ_=>⟨by rw[h3,r1,bY Z9],hR.congr (λx _=>by rw[h4]) h5 h6 h7,λhw=>?_⟩⟩,h4,Z9⟩;obtain⟨d',e1,e2⟩:=h8 hw;rw[e2];exact hv hw d' e1}
def oh{f i ra:Nat}{a s h own}(hf:f<=G.E.last)(x:X.fi[f]?=some a)(p:f<G.E.last->h.mem (G.E.ba f)=UInt32.ofNat ra/\ra<65536)(j:oQ (G.sc f) i<|aY a.ai)(hd:G.dv f i=some 0)(hp:h.pc=G.ah f i)(o:Rg X s h)(w:Ro G f own h)(J:own=a.words):∃k c,mrun G.V k h=c/\Left X G f ra 0 s c/\dQ G f 0 h.mem c.mem/\k<=G.ah f (i+(aY a.ai))-G.ah f i:=by have⟨M,N,y,O⟩:=hL.fn f _ a (Zp (by rw[hL.last];omega)) x;have⟨b1,D,F,H⟩:=iu hG hL hf;by_cases q:a.ai=true;{have r:aY a.ai=[⟨1,0,0,0⟩,⟨11,0,0,0⟩]:=by{unfold aY;rw[q];rfl};rw[r]at j⊢;have⟨L,b,u⟩:=qK hG hf hd o.ok hp j.head;have I:=hG.deep f _ _ hf u;have⟨z,P,A,B⟩:=eF hG hL hf o w Z9 b.mem b.rd b.out b.ok Z9;have⟨k,c,l,m,n,t⟩:=vF hG hf (λe=>⟨by rw[b.mem,dI _ _ (by have:=((hG.ba f hf).2.2 e).1;omega)];exact(p e).1,(p e).2⟩) j.tail.head u b.pc z (v:=0) (λ_ v r=>by obtain rfl:v=0:=Z9;exact A);have m1:=hG.mono f i;have m2:=hG.mono f<|i+1;exact⟨_,c,by rw[au,b.run];exact l,m,by rw[n];exact B,by show _<=G.ah f (i+1+1)-_;omega⟩};{rw[(by unfold aY;rw[if_neg q];rfl:aY a.ai=[⟨11,0,0,0⟩])]at j⊢;have⟨k,c,l,m,n,t⟩:=vF hG hf p j.head hd hp o (v:=0) (λe=>by rw[y]at e;exact absurd e q);exact⟨k,c,l,m,by rw[n];exact dQ.refl _ _ _ _,t⟩}
def yN(h:Mf):Prop:=(∀b own s a c e,h.eG b own s=some (.ok (a,c) e)->a=own.length)/\(∀d j k l own s a c e,h.ej d j k l own s=some (.ok (a,c) e)->a=own.length)/\(∀j k own s a c e,h.nF j k own s=some (.ok (a,c) e)->a=own.length)
def PA(X:Cx)(G:Cg)(K f i b:Nat)(own:UJ)(dp m:Nat)(s:Mm)(e:Ks)(o:Rv<|List UInt32):Prop:=match o with|.ok j c=>∃k a,mrun G.V k e=a/\a.pc=G.ah f b/\G.dv f b=(dp+m)/\Rg X c a/\Ro G f own a/\j=m/\(∀h l,j[h]?=some l->a.mem (G.E.base f+dp+h)=l)/\dQ G f dp e.mem a.mem/\k+G.ah f i+K*s.tk<=G.ah f b+K*c.tk|.stop n c=>oR G K (G.ah f i) (G.ah f b) s c e n
theorem nh{z}(p:Ku X G K z){f j own}(hf:f<=G.E.last)(q:X.fi[f]?=some j)(r:own.length=j.words):∀(a)s t(i dp)c,argsM z own a s=some t->mc X f j.words false a->oQ (G.sc f) i (low X G.E f 0 a i)->G.dv f i=some dp->c.pc=G.ah f i->Rg X s c->Ro G f own c->PA X G K f i (i+(low X G.E f 0 a i)) own dp a.len s c t|.nil,s,t,i,dp,c,k,_,_,hd,hp,o,n=>by injection k with k;subst k;exact⟨0,c,rfl,hp,hd,o,n,rfl,λh O e=>(by cases e),dQ.refl _ _ _ _,by show 0+_+_<=G.ah f (i+0)+_;simp⟩|.cons d b a,s,t,i,dp,c,k,⟨L,M,N⟩,l,hd,hp,o,n=>by rw[kh]at l⊢;have hle:i+(aK X G.E f d b i)<=i+(aK X G.E f d b i++low X G.E f 0 a (i+(aK X G.E f d b i))).length:=ZO;have R:i+(aK X G.E f d b i++low X G.E f 0 a (i+(aK X G.E f d b i))).length=i+(aK X G.E f d b i)+(low X G.E f 0 a<|i+(aK X G.E f d b i)):=ZO;obtain⟨P,y,w,rfl⟩|⟨v,y,w,Q⟩:=XN k;{exact oR.pre (n:=0) (p.val f j _ own d b s _ i dp c hf q w L M r l.left hd hp o n) rfl Z9<|hG.dN f hle};{obtain⟨U,A,D,F,H,I,J,q6,q7,q8⟩:=p.val f j _ own d b s _ i dp c hf q w L M r l.left hd hp o n;rw[R];obtain⟨P,s2,x,rfl⟩|⟨T,s2,x,u⟩:=XN Q;{exact oR.pre (nh p hf q r a y _ _ (dp+1) A x N l.right H F I J) D q8<|Zq _};{obtain⟨m,S,V,W,Y,Z,p5,p6,p7,B,p9⟩:=nh p hf q r a y _ _ (dp+1) A x N l.right H F I J;injection u with u;subst u;refine⟨U+m,S,by rw[au,D];exact V,W,by rw[Y];congr 1;show dp+1+a.len=dp+(a.len+1);omega,Z,p5,by show T+1=a.len+1;rw[p6],λh O e=>?_,q7.trans<|B.aA Z9,Z9⟩;cases h with|zero=>injection e with e;subst e;rw[Yy,lT hG hL hf B<|YP dp];exact q6|succ h=>have:=p7 h O e;rwa[show G.E.base f+(dp+1)+h=G.E.base f+dp+(h+1)by omega]at this}}
def wA(G:Cg)(g:Nat)(m b:Nat->UInt32):Prop:=∀a,¬(a<G.E.first g+G.E.aU g\/(G.W<=a/\a<G.ue g))->b a=m a
theorem BR{I}(hK:G.V.C+4*G.V.D<=K)(b5:yN I)(hS:Ku X G K I){g ra:Nat}{e:Fi}{c:Rf}(y:g<G.E.last)(z:X.fi[g]?=some e)(V:C.fs[g]?=some c){l:UJ}{s:Mm}{a:Ks}{F:Rv (List UInt32×Option UInt32)}(a5:ra<65536)(S:I.eG c.body (l++List.replicate (c.words-l) 0) s=some F)(c8:l=e.params)(hp:a.pc=G.entry g)(a7:a.aC 14=UInt32.ofNat ra)(u:Rg X s a)(hl:∀B b,l[B]?=some b->a.mem (G.E.first g+B)=b):match F with|.ok w q=>∃j n,mrun G.V j a=n/\n.pc=ra/\Rg X q n/\(G.E.ai g=true->n.aC 1=w.2.getD 0)/\wA G g a.mem n.mem/\j+K*s.tk<=K+K*q.tk|.stop J q=>J=5\/∃j,(mrun G.V j a).bc=J/\(mrun G.V j a).out=q.out/\j+K*s.tk<=K+K*q.tk:=by have k:g<=G.E.last:=Z9;obtain⟨l1,l2,l3,l4⟩:=hL.fn g c e V z;obtain⟨d1,A,e1,e2,e3⟩:=hL.wf.fn g c V;rw[z]at A;injection A with A;subst A;obtain⟨b1,b2,b3,b4⟩:=iu hG hL k;obtain⟨c1,c2⟩:=(hG.ba g k).2.2 y;have hD:=hG.data;have hW:=hG.W;obtain⟨W,a4⟩:=hG.P6 g y;have c3:dP G.E g (G.entry g)=gi 17 14 0 (G.E.ba g)::gv (G.E.first g+G.E.params g) (G.E.aU g-G.E.params g) (G.entry g+3):=by{unfold dP;rw[if_neg Z9]};rw[c3]at W a4;rw[Ze]at a4;have Y:pq G.V a.pc (⟨17,14,0,G.E.ba g⟩::((gv (G.E.first g+G.E.params g) (G.E.aU g-G.E.params g)<|G.entry g+1+2).map G.res)):=by{rw[hp];exact W};have c5:mrun G.V 1 a=⟨G.entry g+1,a.aC,aL a.mem (G.E.ba g)<|UInt32.ofNat ra,a.rd,a.out,a.st+1,0⟩:=by{rw[aH 0 Y u.ok.bc,gm u.ok Z9 Z9,a7,hp];rfl};have Z:=Y.tail;rw[hp]at Z;obtain⟨D,o,p,d0⟩:=Dc hD (s:=⟨G.entry g+1,a.aC,aL a.mem (G.E.ba g)<|UInt32.ofNat ra,a.rd,a.out,a.st+1,0⟩) Z Z9 ⟨rfl,u.ok.r0,u.ok.js⟩ rfl;have c6:(gv (G.E.first g+G.E.params g) (G.E.aU g-G.E.params g)<|G.entry g+1+2).length=(gv (G.E.first g+G.E.params g) (G.E.aU g-G.E.params g)<|G.entry g+3).length:=rfl;have ep:G.E.first g+G.E.params g+(G.E.aU g-G.E.params g)=G.E.first g+G.E.aU g:=Z9;rw[ep]at p;have em:∀b,o.mem b=if G.E.first g+G.E.params g<=b/\b<G.E.first g+G.E.aU g then 0 else if b=G.E.ba g then UInt32.ofNat ra else a.mem b:=by{intro b;rw[p.mem];rfl};have b':Rg X s o:=u.congr (λb h=>by rw[em,if_neg Z9,if_neg Z9]) p.rd p.out p.ok;have a':Ro G g (l++List.replicate (c.words-l.length) 0) o:=by{intro B b h;obtain⟨j1,j2⟩|⟨j1,j2,rfl⟩:=JA _ _ _ _ h;{rw[em,if_neg Z9,if_neg Z9];exact hl B b j2};{rw[em,if_pos Z9]}};have a1:o.mem (G.E.ba g)=UInt32.ofNat ra:=by{rw[em,if_neg Z9,if_pos rfl]};have c0:o.pc=G.ah g 0:=by{have a6:=p.pc;rw[a6];show G.entry g+1+(gv (G.E.first g+G.E.params g) (G.E.aU g-G.E.params g)<|G.entry g+1+2).length=_;omega};have a3:(l++List.replicate (c.words-l.length) (0:UT)).length=e.words:=by{rw[Zn,Yv];omega};have a0:oQ (G.sc g) 0<|lowS X G.E g e.ai c.body 0++aY e.ai:=λd2 b hk=>by{rw[Y5,l4];exact hk};have M:=hS.eG g e _ c.body s F 0 ra o k z S e3 a3 (λ_=>⟨a1,a5⟩) a0.left (hG.start g k) c0 b' a';have H:mrun G.V (1+D) a=o:=by{rw[au,c5];exact p.run};have a2:wA G g a.mem o.mem:=λb h=>by{have ht:=hG.deep g 0 0 k<|hG.start g k;rw[em,if_neg Z9,if_neg Z9]};have N:∀m O:Nat->UInt32,dQ G g 0 m O->wA G g m O:=λm O hm b h=>hm b (λha=>h (by have ht:=hG.deep g 0 0 k<|hG.start g k;unfold Al at ha;omega));have c7:G.ah g (0+(lowS X G.E g e.ai c.body 0).length+(aY e.ai).length)<=G.V.C.length:=hG.code g _ k (by rw[l4,Zn];omega);have c9:=hG.dN g (show 0<=0+(lowS X G.E g e.ai c.body 0).length by omega);have c':=hG.dN g (show 0+(lowS X G.E g e.ai c.body 0).length<=0+(lowS X G.E g e.ai c.body 0).length+(aY e.ai).length by omega);cases F with|stop J q=>obtain L|⟨j,r,t,x⟩:=M;{exact .inl L};{exact .inr ⟨1+D+j,by rw[au,H];exact r,by rw[au,H];exact t,Z9⟩}|ok w q=>obtain⟨d3,w⟩:=w;cases w with|some v=>obtain⟨j,n,r,t,x,T⟩:=M;obtain⟨P,Q,R⟩:=t.2 y;exact⟨1+D+j,n,by rw[au,H];exact r,P,Q,R,λb h=>(N _ _ x b h).trans<|a2 b h,Z9⟩|none=>obtain⟨j,k3,r,t,x,T,L,U,h7⟩:=M;have c4:g<G.E.last->k3.mem (G.E.ba g)=UInt32.ofNat ra/\ra<65536:=λ_=>⟨by rw[U _ (by unfold Al;omega)];exact a1,a5⟩;obtain⟨m,n,P,Q,R,p4⟩:=oh hG hL k z c4 a0.right x t T L (by rw[b5.1 _ _ _ _ _ _ S];exact a3);obtain⟨q1,q2,q3⟩:=Q.2 y;exact⟨1+D+j+m,n,by rw[au,au,H,r];exact P,q1,q2,q3,λb h=>((N _ _ R b h).trans<|N _ _ U b h).trans<|a2 b h,Z9⟩
end
section
theorem Gt{h}(l:∀i j n m own g d e f,h.ej i j n m own g=some (.ok (d,e) f)->d.length=own.length):∀(b)own g d e f,doM h b own g=some (.ok (d,e) f)->d.length=own.length|.nil,own,g,d,e,f,c=>by injection c with c;injection c with c _;injection c with c _;rw[c]|.cons i j n m b,own,g,d,e,f,c=>by obtain⟨_,_,_,a⟩|⟨⟨p,q⟩,r,o,a⟩:=XN c;{cases a};{have k:=l _ _ _ _ _ _ _ _ _ o;cases q with|some v=>injection a with a;injection a with a _;injection a with a _;rw[<-a];exact k|none=>rw[<-k];exact Gt l b p r d e f a}
def JB{g}(hF:yN g){k m q n own p l i j}(b:eB g k m q n own p=some (.ok (l,i) j)):l.length=own.length:=by have bc:∀{h:List UInt32}{o:Option UInt32}{c:Mm},some (Rv.ok (h,o) c)=some (Rv.ok (l,i) j)->l=h:=λe=>by{injection e with e;injection e with e _;injection e with e _;exact e.symm};unfold eB at b;split at b;{split at b;{cases b};{obtain⟨_,_,_,a⟩|⟨v,c,_,a⟩:=XN b;{cases a};{split at a;{split at a;{rw[bc a,Xz]};{cases a}};{split at a;{rw[bc a]};{cases a}}}}};split at b;{split at b;{obtain⟨_,_,_,a⟩|⟨v,c,_,a⟩:=XN b;{cases a};{obtain⟨_,_,_,d⟩|⟨v,c,_,d⟩:=XN a;{cases d};{obtain⟨_,_,_,f⟩|⟨v,c,_,f⟩:=XN d;{cases f};{rw[bc f]}}}};{cases b}};split at b;{split at b;{cases b};{obtain⟨_,_,_,a⟩|⟨v,c,_,a⟩:=XN b;{cases a};{obtain⟨_,_,_,d⟩|⟨v,c,_,d⟩:=XN a;{cases d};{rw[bc d]}}}};split at b;{split at b;{cases b};{obtain⟨_,_,_,a⟩|⟨v,c,_,a⟩:=XN b;{cases a};{split at a<;>exact hF.1 _ _ _ _ _ _ a}}};split at b;{exact hF.2.2 _ _ _ _ _ _ _ b};split at b;{obtain⟨_,_,_,a⟩|⟨v,c,_,a⟩:=XN b;{cases a};{rw[bc a]}};split at b;{split at b;{rw[bc b]};{obtain⟨_,_,_,a⟩|⟨v,c,_,a⟩:=XN b;{cases a};{rw[bc a]}}};{rw[bc b]}
def JD{C h}(hF:yN h){n q own p l j k}(c:jD C h n q own p=some (.ok (l,j) k)):l.length=own.length:=by have bc:∀{f}{g:Option UInt32}{m:Mm},some (Rv.ok (f,g) m)=(Rv.ok (l,j) k)->l=f:=λa=>by{injection a with a;injection a with a _;injection a with a _;exact a.symm};unfold jD at c;split at c;{cases c};{obtain⟨_,_,_,e⟩|⟨_,m,_,e⟩:=XN c;{cases e};{obtain⟨_,_,_,b⟩|⟨v,r,_,b⟩:=XN e;{cases b};{split at b;{rw[bc b]};{obtain⟨_,_,_,d⟩|⟨⟨f,g⟩,s,o,d⟩:=XN b;{cases d};{have i:=hF.1 _ _ _ _ _ _ o;cases g with|some v=>rw[bc d];exact i|none=>rw[<-i];exact hF.2.2 _ _ _ _ _ _ _ d}}}}}
theorem vc(C):∀n,yN (mfn C n)|0=>⟨λ_ _ _ _ _ _ a=>(by cases a),λ_ _ _ _ _ _ _ _ _ a=>(by cases a),λ_ _ _ _ _ _ _ a=>(by cases a)⟩|n+1=>by have hF:=vc C n;exact⟨λ_ _ _ _ _ _ a=>Gt hF.2.1 _ _ _ _ _ _ a,λ_ _ _ _ _ _ _ _ _ a=>JB hF a,λ_ _ _ _ _ _ _ a=>JD hF a⟩
section
variable{X:Cx}{C:Rc}{G:Cg}(hG:nK G)(hL:wB X C G){K:Nat}
include hG hL
def G9{F}(Y:G.V.C.length+4*G.V.D<=K)(a1:yN F)(y:Ku X G K F){n w k S own e v c0 a b j}(g:n<=G.E.last)(L:X.fi[n]?=some w)(M:k<n)(N:X.fi[k]?=some S)(d5:S.params=e.len)(o:callM C F k e own v=some c0)(hw:mc X n w.words false e)(ho:own.length=w.words)(q:oQ (G.sc n) a<|low X G.E n 0 e a++[⟨10,k,0,0⟩])(hd:G.dv n a=some b)(hp:j.pc=G.ah n a)(hR:Rg X v j)(Z:Ro G n own j):PC X G K n k a (a+(low X G.E n 0 e a++[(⟨10,k,0,0⟩:Si)]).length) own b v j c0:=by obtain⟨b1,b2,b3,b4⟩:=iu hG hL g;have d2:n<C.fs.length:=by{rw[hL.last];omega};obtain⟨k1,k2,k3,k4⟩:=hL.fn n _ w (Zp d2) L;have d1:k<C.fs.length:=Z9;have x:C.fs[k]?=C.fs[k]:=Zp d1;obtain⟨l1,l2,l3,l4⟩:=hL.fn k _ S x N;unfold callM at o;rw[x]at o;dsimp only at o;split at o;{cases o};rename_i hle;have c':a+(low X G.E n 0 e a++[(⟨10,k,0,0⟩:Si)]).length=a+(low X G.E n 0 e a).length+1:=ZW;rw[c'];have d3:=hG.mono n<|a+(low X G.E n 0 e a).length;obtain⟨W,D,Q,rfl⟩|⟨d9,D,Q,h2⟩:=XN o;{exact oR.pre (n:=0) (nh hG hL y g L ho e v _ a b j Q hw q.left hd hp hR Z) rfl Z9 d3};obtain⟨T,d7,B,q2,q3,q4,q5,q6,q7,q8,q9⟩:=nh hG hL y g L ho e v _ a b j Q hw q.left hd hp hR Z;obtain⟨W,E,d,rfl⟩|⟨_,E,d,h3⟩:=XN h2;{unfold dG at d;split at d;{injection d with d;cases d};{injection d with d;injection d with I _;exact .inl I.symm}};have b5:E={D with tk:=D.tk+1}:=by{unfold dG at d;split at d;{injection d with d;injection d with _ d;exact d.symm};{injection d with d;cases d}};have d':K*E.tk=K*D.tk+K:=by{rw[b5];exact VH _ _};have a':G.dv n (a+(low X G.E n 0 e a).length)=(b+G.E.params k):=by{rw[q3,l1,d5]};obtain⟨h,c1,c2,U,c4,c5,c6,V,u,c9⟩:=FW hG g M a' q4.ok q2 q.right.head;have e4:=hG.first k n M g;have e5:G.E.params k<=G.E.aU k:=hG.Lp k Z9;have e1:=hG.code n (a+(low X G.E n 0 e a).length) g (by have:=(Zm.1 q.right.head).1;omega);have e2:=hG.code n (a+(low X G.E n 0 e a).length+1) g (by have:=(Zm.1 q.right.head).1;omega);have e6:=hG.size;have J:∀c,¬(G.E.first k<=c/\c<G.E.first k+G.E.params k)->h.mem c=d7.mem c:=λc f=>by{rw[U];exact if_neg f};have e8:=hL.aq k Z9;have a2:Rg X E h:=by{have:=q4.congr (λc f=>J c Z9) c4 c5 c6;rw[b5];exact⟨⟨this.sw.1,this.sw.2⟩,this.aq,this.aj,this.rd,this.out,this.ok⟩};have a6:∀t c,d9[t]?=some c->h.mem (G.E.first k+t)=c:=λt c f=>by{have hj:=(Zm.1 f).1;rw[U];show(if _ then _ else _)=_;rw[if_pos Z9,show G.E.first k+t-G.E.first k=t by omega];exact q7 t c f};have a3:k<G.E.last:=Z9;have e0:=hG.nE k n M g;have e7:=hG.deep k 0 0 Z9<|hG.start k Z9;obtain⟨w1,w2,w3⟩:=hG.ba k Z9;have a5:dQ G n b j.mem h.mem:=λc f=>by{rw[J c (λr=>f (by unfold Al;omega))];exact q8 c f};have a0:Ro G n own h:=q5.congr (λc f d6=>J c Z9);have a4:∀l,wA G k h.mem l->dQ G n b h.mem l:=λl O c f=>O c (λr=>f (by unfold Al;omega));have a7:∀l,wA G k h.mem l->∀c,G.E.first n<=c->c<G.E.first n+own.length->l c=h.mem c:=λl O c f d6=>O c Z9;obtain⟨W,s3,R,rfl⟩|⟨e9,s3,R,H⟩:=XN h3;{have d0:=BR hG hL Y a1 y a3 N x (ra:=G.ah n (a+(low X G.E n 0 e a).length)+2*G.E.params k+1) (by split at u<;>omega) R Z9 c2 V a2 a6;obtain I|⟨m,m1,m2,z⟩:=d0;{exact .inl I};{exact .inr ⟨T+(2*G.E.params k+1)+m,by rw[au,au,B,c1];exact m1,by rw[au,au,B,c1];exact m2,Z9⟩}};{obtain⟨m,b',m1,m2,z,m4,A,m6⟩:=BR hG hL Y a1 y a3 N x (ra:=G.ah n (a+(low X G.E n 0 e a).length)+2*G.E.params k+1) (by split at u<;>omega) R Z9 c2 V a2 a6;injection H with H;subst H;have s:=(hG.step n _ _ _ g q.right.head a').2 _ YV;have d4:aS G.E n ⟨10,k,0,0⟩=G.E.params k:=by{unfold aS;simp};rw[d4,V5]at s;by_cases i:G.E.ai k=true;{obtain⟨d8,p⟩:=c9 b' z.ok m2 i;have P:gX G.E ⟨10,k,0,0⟩=1:=by{unfold gX;simp[i]};rw[P]at s;have e3:=hG.deep n _ _ g s;obtain⟨u1,u2,u3,u4⟩:=eF hG hL g z (a0.congr<|a7 _ A) Z9 p.mem p.rd p.out p.ok Z9;rw[if_pos i]at u;exact⟨T+(2*G.E.params k+1)+m+1,d8,by rw[au,au,au,B,c1,m1];exact p.run,p.pc,λ_=>⟨s,by rw[u3];exact m4 i⟩,λr=>(by rw[i]at r;cases r),u1,u2,(a5.trans<|a4 _ A).trans u4,Z9⟩};{have P:gX G.E ⟨10,k,0,0⟩=0:=by{unfold gX;simp[i]};rw[P]at s;rw[if_neg i]at u;exact⟨T+(2*G.E.params k+1)+m,b',by rw[au,au,B,c1];exact m1,by rw[m2,u],λr=>absurd r i,λ_=>s,z,a0.congr<|a7 _ A,a5.trans<|a4 _ A,Z9⟩}}
end
end
section
def PS.seq{X G K n k i1 a b i s t e f p}(c:PS X G K n i1 a b t f p)(d:mrun G.V i e=f)(q:dQ G n 0 e.mem f.mem)(u:i+G.ah n k+K*s.tk<=G.ah n i1+K*t.tk):PS X G K n k a b s e p:=by cases p with|stop z y=>exact oR.pre c d u (Zq _)|ok o y=>obtain⟨A,o⟩:=o;cases o with|none=>obtain⟨m,g,h,j,l,r,w,x,B⟩:=c;exact⟨i+m,g,by rw[au,d];exact h,j,l,r,w,q.trans x,Z9⟩|some v=>obtain⟨m,g,h,j,l,r⟩:=c;exact⟨i+m,g,by rw[au,d];exact h,j,q.trans l,Z9⟩
section
variable{X:Cx}{C:Rc}{G:Cg}(hG:nK G)(hL:wB X C G){K:Nat}
include hG hL
def gE{n k:Nat}(b:n<=G.E.last){d e:Ks}(c:n<G.E.last->d.mem (G.E.ba n)=UInt32.ofNat k/\k<65536)(f:dQ G n 0 d.mem e.mem):n<G.E.last->e.mem (G.E.ba n)=UInt32.ofNat k/\k<65536:=λa=>by obtain⟨b1,g,h,i⟩:=iu hG hL b;have:=((hG.ba n b).2.2 a).1;exact⟨by rw[f _ (by unfold Al;omega)];exact(c a).1,(c a).2⟩
theorem G'{u:Mf}(E:yN u)(w:Ku X G K u){n:Nat}{c:Fi}{k:Nat}(r:n<=G.E.last)(x:X.fi[n]?=some c):∀(b:Rb)(own:UJ)(i:Mm)(l:Rv<|List UInt32×Option UInt32)(a:Nat)(d:Ks),doM u b own i=some l->ov X n c.words c.ai b->own=c.words->(n<G.E.last->d.mem (G.E.ba n)=UInt32.ofNat k/\k<65536)->oQ (G.sc n) a (lowS X G.E n c.ai b a)->G.dv n a=some 0->d.pc=G.ah n a->Rg X i d->Ro G n own d->PS X G K n a (a+(lowS X G.E n c.ai b a)) k i d l|.nil,own,i,l,a,d,j,_,_,_,_,hd,s,p,o=>by injection j with j;subst j;exact⟨0,d,rfl,s,hd,p,o,dQ.refl _ _ _ _,by show 0+_+_<=G.ah n (a+0)+_;simp⟩|.cons e f h g b,own,i,l,a,d,j,⟨N,O,P,Q,Y⟩,F,y,q,hd,s,p,o=>by rw[nW]at q⊢;have R:a+(bH X G.E n c.ai e f h g a++lowS X G.E n c.ai b (a+(bH X G.E n c.ai e f h g a))).length=a+(bH X G.E n c.ai e f h g a)+(lowS X G.E n c.ai b<|a+(bH X G.E n c.ai e f h g a)):=ZO;rw[R];have S:=hG.dN n (show a+(bH X G.E n c.ai e f h g a)<=a+(bH X G.E n c.ai e f h g a)+(lowS X G.E n c.ai b<|a+(bH X G.E n c.ai e f h g a)) by omega);obtain⟨er,M,t,rfl⟩|⟨⟨T,U⟩,M,t,m⟩:=XN j;{exact oR.pre (n:=0) (w.ej n c own e f h g i _ a k d r x t N O P Q F y q.left hd s p o) rfl Z9 S};{have H:=w.ej n c own e f h g i _ a k d r x t N O P Q F y q.left hd s p o;cases U with|some v=>injection m with m;subst m;obtain⟨I,z,A,B,D,J⟩:=H;exact⟨I,z,A,B,D,Z9⟩|none=>obtain⟨I,z,A,B,D,J,V,L,W⟩:=H;have Z:=E.2.1 _ _ _ _ _ _ _ _ _ t;exact PS.seq (G' E w r x b T M l _ z m Y Z9 (gE hG hL r y L) q.right D B J V) A L W}
def J'{P}(hK:G.V.C+4*G.V.D<=K)(b4:yN P)(y:Ku X G K P){n e own q x i B u a0}{k b:Nat}{f}(h:n<=G.E.last)(z:X.fi[n]?=some e)(Q:jD C P x i own u=some a0)(a4:q.kind=5)(hl:x.len=1)(hw:mc X n e.words true x)(Y:ov X n e.words e.ai i)(J:own=e.words)(a6:n<G.E.last->f.mem (G.E.ba n)=UInt32.ofNat b/\b<65536)(s:oQ (G.sc n) k<|bH X G.E n e.ai q x i B k)(hd:G.dv n k=some 0)(hp:f.pc=G.ah n k)(o:Rg X u f)(hO:Ro G n own f):PS X G K n k (k+(bH X G.E n e.ai q x i B k)) b u f a0:=by have b5:=s;obtain⟨a,A,rfl⟩:=VB hl;obtain⟨w1,w2,w3⟩:=hw;obtain⟨d,H⟩:∃d,d=aK X G.E n a A k:=⟨_,rfl⟩;obtain⟨g,I⟩:∃g,g=lowS X G.E n e.ai i (k+d+1):=⟨_,rfl⟩;have ec:bH X G.E n e.ai q (.cons a A .nil) i B k=d++([(⟨9,k+d+1+g+1,0,0⟩:Si)]++(g++[(⟨8,k,0,0⟩:Si)])):=by{unfold bH;dsimp only;rw[if_pos a4,fh,<-H,<-I];simp only[Y8]};have hlen:k+(bH X G.E n e.ai q (.cons a A .nil) i B k)=k+d+1+g+1:=by{rw[ec];simp only[Zn,Ze,YX];omega};rw[ec]at s;have T:=s.left;have b':=s.right.left.head;have F:=s.right.right.left;have U:=s.right.right.right.head;rw[show k+d+[(⟨9,k+d+1+g+1,0,0⟩:Si)].length=k+d+1 from rfl]at F U;rw[I]at F;have hE:=hG.code n (k+d+1+g+1) h (by have:=(Zm.1 U).1;omega);have m1:=hG.dN n (show k+d<=k+d+1+g+1 by omega);have m2:=hG.dN n (show k+d+1<=k+d+1+g+1 by omega);have m3:=hG.dN n (show k+d+1+g<=k+d+1+g+1 by omega);unfold jD at Q;dsimp only at Q;obtain⟨er,w,c,rfl⟩|⟨_,w,c,h2⟩:=XN Q;{unfold dG at c;split at c;{injection c with c;cases c};{injection c with c;injection c with h5 _;exact .inl h5.symm}};have b2:w={u with tk:=u.tk+1}:=by{unfold dG at c;split at c;{injection c with c;injection c with _ c;exact c.symm};{injection c with c;cases c}};have c8:K*w.tk=K*u.tk+K:=by{rw[b2];exact VH _ _};have a3:Rg X w f:=by{rw[b2];exact⟨⟨o.sw.1,o.sw.2⟩,o.aq,o.aj,o.rd,o.out,o.ok⟩};rw[hlen];rw[H]at T;obtain⟨er,O,W,rfl⟩|⟨v,O,W,r⟩:=XN h2;{have:=y.val n e _ own a A w _ k 0 f h z W w1 w2 J T hd hp a3 hO;rw[<-H]at this;exact oR.pre (n:=0) this rfl Z9 m1};have hv:=y.val n e _ own a A w _ k 0 f h z W w1 w2 J T hd hp a3 hO;rw[<-H]at hv;obtain⟨M,k1,q1,q2,q3,q4,q5,q6,q7,q8⟩:=hv;obtain⟨d',p,c9,j,c0,a5,c'⟩:=mO hG h q3 q4.ok q2 b';obtain rfl:0=d':=Z9;have S:Rg X O p:=q4.congr (λa1 _=>by rw[j.mem]) j.rd j.out j.ok;have R:Ro G n own p:=q5.congr (λa1 _ _=>by rw[j.mem]);have E:dQ G n 0 f.mem p.mem:=λc7 hy=>by{rw[j.mem];exact q7 c7 hy};have t:=j.pc;rw[q6]at t;have N:mrun G.V (M+2) f=p:=by{rw[au,q1];exact j.run};by_cases b3:v=0;{rw[if_pos b3]at r t;cases r;exact⟨M+2,p,N,t,c0,S,R,E,Z9⟩};{rw[if_neg b3]at r t;have a7:=gE hG hL h a6 E;obtain⟨er,s3,L,rfl⟩|⟨⟨c5,c6⟩,s3,L,D⟩:=XN r;{have:=y.eG n e own i O _ _ b p h z L Y J a7 F a5 t S R;rw[<-I]at this;exact oR.pre this N Z9 m3};{have V:=y.eG n e own i O _ _ b p h z L Y J a7 F a5 t S R;rw[<-I]at V;cases c6 with|some d1=>cases D;obtain⟨m,k4,p1,p2,p3,p4⟩:=V;exact⟨M+2+m,k4,by rw[au,N];exact p1,p2,E.trans p3,Z9⟩|none=>obtain⟨m,k4,p1,p2,p3,p4,p5,p6,p7⟩:=V;obtain⟨Z,l,c3,d0⟩:=qJ hG h p3 p4.ok p2 U;have e1:=b4.1 _ _ _ _ _ _ L;have a2:dQ G n 0 f.mem Z.mem:=by{rw[l.mem];exact E.trans p6};have a':=y.nF n e c5 q _ i B s3 a0 k b Z h z D a4 hl ⟨w1,w2,w3⟩ Y Z9 (gE hG hL h a6 a2) b5 c3 l.pc (p4.congr (λa1 _=>by rw[l.mem]) l.rd l.out l.ok) (p5.congr<|λa1 _ _=>by rw[l.mem]);rw[hlen]at a';have c4:mrun G.V (M+2+m+1) f=Z:=by{rw[au,au,N,p1];exact l.run};exact PS.seq a' c4 a2 Z9}}
end
def Va:=@PS.seq
end
section
variable{n:Nat}
structure Cd where
 kind:Int
 op:Int
 num:UInt32
 slot:Nat
 size:Nat
structure Cs where
 kind:Int
 slot:Nat
 size:Nat
abbrev Ce:=Ef Cd
abbrev Cb:=Sf Cd Cs
def rT(a:Cd):UN:=[a.kind,a.op,a.num,a.slot,a.size]
def jf(a:Cs):UN:=[a.kind,a.slot,a.size]
def sv(a:Si):UN:=[a.op,a.a,a.b,a.n]
def rU(a:List Si):UN:=a.flatMap sv
def pH(a):(rU a)=a.length*4:=by induction a with|nil=>rfl|cons d b c=>show(sv d++rU b).length=_;rw[Zn,c];show 4+b*4=(b.length+1)*4;omega
def Ka(a b):rU (a++b)=rU a++rU b:=WB
def nz(b a):rU (b::a)=sv b++rU a:=rfl
theorem BV(v):∀(c)a,a<c.length->(rU c).set (a*4+1) (v:Nat)=rU (c.modify a λx=>{x with a:=v})|[],_,b=>absurd b (YK _)|x::d,0,_=>rfl|x::d,a+1,b=>by have e:=BV v d a<|Wt b;rw[Vw,nz,nz,<-e,show(a+1)*4+1=(sv x)+(a*4+1)by show _=4+_;omega,Wo _ _ Z9,XW]
theorem vK:∀(g)c e,g[c]?=some e->∀b d,(sv e)[b]?=some d->(rU g)[c*4+b]?=some d|[],_,_,a,_,_,_=>by cases a|y::h,0,e,a,b,d,f=>by injection a with a;subst a;rw[YE,Y5,nz,Y3 (Zm.1 f).1];exact f|y::h,c+1,e,a,b,d,f=>by rw[nz,show(c+1)*4+b=(sv y)+(c*4+b)by show _=4+_;omega,Y0 (by omega),XW];exact vK h c e a b d f
def Cp:Ce->Prop|.nil=>True|.cons a b c=>(1<=a.kind/\a.kind<=9/\0<=a.op/\(8<=a.kind->b.len=2))/\Cp b/\Cp c
def lj:Cb->Prop|.nil=>True|.cons a b e c d=>(1<=a.kind/\a.kind<=7/\(a.kind=5->b.len=1))/\Cp b/\lj e/\lj c/\lj d
def Dm(a:Cd):List Si:=if a.kind=1 then[⟨1,0,0,a.num⟩]else if a.kind=2 then[⟨2,a.slot,0,0⟩]else if a.kind=3 then[⟨4,a.slot,a.size,0⟩]else if a.kind=4 then[⟨10,a.slot,0,0⟩]else if a.kind=5 then[⟨12,0,0,0⟩]else if a.kind=6 then[⟨6,a.op.toNat,0,0⟩]else if a.kind=7 then[bP]else[bP,bP]
def lowC:Int->Ce->Nat->List Si|_,.nil,_=>[]|m,.cons a f e,at_=>let c:=lowC (if a.kind=8\/a.kind=9 then a.kind else 0) f at_++Dm a;if m=0 then c++lowC 0 e (at_+c.length)else let b:=c++(if m=8 then[bP]else[]);let d:=lowC 0 e<|at_+b.length+3;b++[⟨9,at_+b.length+3,0,0⟩,⟨1,0,0,if m=8 then 0 else 1⟩,⟨8,at_+b.length+3+d.length+2,0,0⟩]++d
def bS(a:Cd)(b:Ce)(at_:Nat):List Si:=lowC (if a.kind=8\/a.kind=9 then a.kind else 0) b at_++Dm a
def tm(a)(b c:Ce)(at_):lowC 0 (.cons a b c) at_=bS a b at_++lowC 0 c (at_+(bS a b at_)):=by(conv=>lhs;rw[lowC]);rw[if_pos rfl];rfl
def xq(a)(b:Ce)(at_):lowC 0 (.cons a b .nil) at_=bS a b at_:=by rw[tm];show _++[]=_;rw[YL]
def xp(m)(e:m=8\/m=9)(a)(c:Ce)(b)(d:Ce)(at_):lowC m (.cons a c<|.cons b d .nil) at_=bS a c at_++(if m=8 then[bP]else[])++[⟨9,at_+(bS a c at_++(if m=8 then[bP]else[])).length+3,0,0⟩,⟨1,0,0,if m=8 then 0 else 1⟩,⟨8,at_+(bS a c at_++(if m=8 then[bP]else[])).length+3+(bS b d<|at_+(bS a c at_++(if m=8 then[bP]else[])).length+3)+2,0,0⟩]++bS b d (at_+(bS a c at_++(if m=8 then[bP]else[])).length+3):=by(conv=>lhs;rw[lowC]);rw[if_neg Z9];simp only[xq];rfl
def BD(a):(Dm a).length<=2:=by unfold Dm;(repeat' split)<;>simp
theorem gT:∀(m)e at_,(lowC m e at_)<=6*e.size|_,.nil,_=>Zc _|m,.cons b d c,at_=>by have i:(Ef.cons b d c).size=d.size+c.size+1:=rfl;have k:=BD b;have j:=gT (if b.kind=8\/b.kind=9 then b.kind else 0) d at_;have g:∀a,(lowC 0 c a)<=6*c.size:=λa=>gT 0 c a;rw[lowC,i];simp only;split;{have:=g<|at_+(lowC (if b.kind=8\/b.kind=9 then b.kind else 0) d at_++Dm b).length;generalize lowC 0 c _=q at this⊢;rw[Zn,Zn];omega};{have f:=g<|at_+(lowC (if b.kind=8\/b.kind=9 then b.kind else 0) d at_++Dm b++if m=8 then[bP]else[]).length+3;have h:(if m=8 then[bP]else([])).length<=1:=by{split<;>simp};generalize(if m=8 then[bP]else([]))=N at f h⊢;generalize lowC 0 c _=q at f⊢;simp only[Zn,Ze,YX];omega}
def k8(a b at_):(bS a b at_)<=6*b.size+2:=by have:=BD a;have:=gT (if a.kind=8\/a.kind=9 then a.kind else 0) b at_;unfold bS;rw[Zn];omega
def eh:List (Cd×Ce)->Nat->List Si|[],_=>[]|x::a,at_=>bS x.1 x.2 at_++eh a (at_+(bS x.1 x.2 at_).length)
theorem lW:∀(a)at_,lowC 0 a at_=eh a.bI at_|.nil,_=>by rw[lowC];rfl|.cons c d b,at_=>by rw[tm,lW b];rfl
theorem sP:∀(a b)at_,eh (a++b) at_=eh a at_++eh b (at_+(eh a at_))|[],b,at_=>rfl|x::c,b,at_=>by show bS x.1 x.2 at_++eh (c++b) _=(bS x.1 x.2 at_++eh c _)++_;show _=(bS x.1 x.2 at_++eh c (at_+(bS x.1 x.2 at_)))++eh b (at_+(bS x.1 x.2 at_++eh c (at_+(bS x.1 x.2 at_))).length);rw[sP c b,Y8,Zn,Yq]
def pY{a:List (Cd×Ce)}{b}(c:a[n]?=some b)(at_):eh (a.take<|n+1) at_=eh (a.take n) at_++bS b.1 b.2 (at_+(eh (a.take n) at_)):=by rw[WR,c,sP];show _++(_++[])=_;rw[YL]
theorem lL:∀(g:Ce)(e at_:Nat)(c:Cd×Ce),g.bI[e]?=c->(eh (g.bI.take e) at_)+6*(c.2.size+1)<=6*g.size|.nil,_,_,_,b=>by cases b|.cons d a f,0,at_,c,b=>by injection b with b;subst b;show 0+6*(a.size+1)<=6*(a.size+f.size+1);omega|.cons d a f,e+1,at_,c,b=>by have:=lL f e (at_+(bS d a at_)) c b;have:=k8 d a at_;show(bS d a at_++eh (f.bI.take e) (at_+(bS d a at_))).length+6*(c.2.size+1)<=6*(a.size+f.size+1);rw[Zn];omega
theorem Cp.at_:∀{d},Cp d->∀(c:Nat)(b:Cd×Ce),d.bI[c]?=b->Cp (.cons b.1 b.2 .nil)|.nil,_,_,_,a=>by cases a|.cons e k i,⟨f,g,_⟩,0,b,a=>by injection a with a;subst a;exact⟨f,g,trivial⟩|.cons e k i,⟨_,_,h⟩,c+1,b,a=>Cp.at_ h c b a
def Dn(c:Bool)(a:Cs)(b:Nat):List Si:=if a.kind=1 then[⟨3,a.slot,0,0⟩]else if a.kind=2 then[⟨5,a.slot,a.size,0⟩]else if a.kind=3 then[⟨13,0,0,0⟩]else if a.kind=6 then[⟨10,a.slot,0,0⟩]else if a.kind=7 then(if b=0 then aY c else[⟨11,0,0,0⟩])else[]
def lowCs(c:Bool):Cb->Nat->List Si|.nil,_=>[]|.cons d g j h i,at_=>let a:=lowC 0 g at_;let b:=lowCs c j<|at_+a.length+1;let f:=lowCs c h<|at_+a.length+1+b.length+1;let e:=if d.kind=5 then a++[⟨9,at_+a.length+1+b.length+1,0,0⟩]++b++[⟨8,at_,0,0⟩]else if d.kind=4 then(if h.gQ then a++[⟨9,at_+a.length+1+b.length,0,0⟩]++b else a++[⟨9,at_+a.length+1+b.length+1,0,0⟩]++b++[⟨8,at_+a.length+1+b.length+1+f.length,0,0⟩]++f)else a++Dn c d g.len;e++lowCs c i (at_+e.length)
def bK(d:Bool)(c:Cs)(f:Ce)(h g:Cb)(at_:Nat):List Si:=let a:=lowC 0 f at_;let b:=lowCs d h<|at_+a+1;let e:=lowCs d g<|at_+a+1+b+1;if c.kind=5 then a++[⟨9,at_+a+1+b+1,0,0⟩]++b++[⟨8,at_,0,0⟩]else if c.kind=4 then(if g.gQ then a++[⟨9,at_+a+1+b,0,0⟩]++b else a++[⟨9,at_+a+1+b+1,0,0⟩]++b++[⟨8,at_+a+1+b+1+e,0,0⟩]++e)else a++Dn d c f.len
def qH(a b)(c:Ce)(e d f:Cb)(at_):lowCs a (.cons b c e d f) at_=bK a b c e d at_++lowCs a f (at_+(bK a b c e d at_)):=rfl
def xS(c a b):(Dn c a b).length<=2:=by unfold Dn aY;(repeat' split)<;>simp
theorem cQ(b):∀(g)at_,(lowCs b g at_)<=6*g.size|.nil,_=>Zc _|.cons e a c d f,at_=>by have h:(Sf.cons e a c d f).size=a.size+c.size+d.size+f.size+1:=rfl;have j:=gT 0 a at_;have n:=cQ b c<|at_+(lowC 0 a at_)+1;have k:=cQ b d<|at_+(lowC 0 a at_)+1+(lowCs b c<|at_+(lowC 0 a at_)+1)+1;have m:=cQ b f<|at_+(bK b e a c d at_);have l:=xS b e a.len;have i:(bK b e a c d at_)<=6*(a.size+c.size+d.size)+2:=by{unfold bK;simp only;(repeat' split)<;>simp only[Zn,Ze,YX]<;>omega};rw[qH,Zn,h];omega
def zJ(b e a c d at_):(bK b e a c d at_)<=6*(a.size+c.size+d.size)+2:=by have f:=gT 0 a at_;have i:=cQ b c<|at_+(lowC 0 a at_)+1;have g:=cQ b d<|at_+(lowC 0 a at_)+1+(lowCs b c<|at_+(lowC 0 a at_)+1)+1;have h:=xS b e a.len;unfold bK;simp only;(repeat' split)<;>simp only[Zn,Ze,YX]<;>omega
def eM(a:Bool):List (Cs×Ce×Cb×Cb)->Nat->List Si|[],_=>[]|x::b,at_=>bK a x.1 x.2.1 x.2.2.1 x.2.2.2 at_++eM a b (at_+(bK a x.1 x.2.1 x.2.2.1 x.2.2.2 at_).length)
theorem oI(a):∀(b)at_,lowCs a b at_=eM a b.bI at_|.nil,_=>rfl|.cons d e g f c,at_=>by rw[qH,oI a c];rfl
theorem sQ(c):∀(a b)at_,eM c (a++b) at_=eM c a at_++eM c b (at_+(eM c a at_))|[],b,at_=>rfl|x::d,b,at_=>by show bK c x.1 x.2.1 x.2.2.1 x.2.2.2 at_++eM c (d++b) _=(bK c x.1 x.2.1 x.2.2.1 x.2.2.2 at_++eM c d _)++_;show _=(bK c x.1 x.2.1 x.2.2.1 x.2.2.2 at_++eM c d (at_+(bK c x.1 x.2.1 x.2.2.1 x.2.2.2 at_)))++eM c b (at_+(bK c x.1 x.2.1 x.2.2.1 x.2.2.2 at_++eM c d (at_+(bK c x.1 x.2.1 x.2.2.1 x.2.2.2 at_))).length);rw[sQ c d b,Y8,Zn,Yq]
def ze{c}{b:List (Cs×Ce×Cb×Cb)}{a}(d:b[n]?=some a)(at_):eM c (b.take<|n+1) at_=eM c (b.take n) at_++bK c a.1 a.2.1 a.2.2.1 a.2.2.2 (at_+(eM c (b.take n) at_)):=by rw[WR,d,sQ];show _++(_++[])=_;rw[YL]
theorem pZ(f):∀(j:Cb)(h at_:Nat)(a:Cs×Ce×Cb×Cb),j.bI[h]?=a->(eM f (j.bI.take h) at_)+6*(a.2.1.size+a.2.2.1.size+a.2.2.2.size+1)<=6*j.size|.nil,_,_,_,e=>by cases e|.cons g b d c i,0,at_,a,e=>by injection e with e;subst e;show 0+6*(b.size+d.size+c.size+1)<=6*(b.size+d.size+c.size+i.size+1);omega|.cons g b d c i,h+1,at_,a,e=>by have:=pZ f i h (at_+(bK f g b d c at_)) a e;have:=zJ f g b d c at_;show(bK f g b d c at_++eM f (i.bI.take h) (at_+(bK f g b d c at_))).length+6*(a.2.1.size+a.2.2.1.size+a.2.2.2.size+1)<=6*(b.size+d.size+c.size+i.size+1);rw[Zn];omega
theorem lj.at_:∀{e},lj e->∀(d:Nat)(a:Cs×Ce×Cb×Cb),e.bI[d]?=a->lj (.cons a.1 a.2.1 a.2.2.1 a.2.2.2 .nil)|.nil,_,_,_,b=>by cases b|.cons f g n l m,⟨h,i,c,j,_⟩,0,a,b=>by injection b with b;subst b;exact⟨h,i,c,j,trivial⟩|.cons f g n l m,⟨_,_,_,_,c⟩,d+1,a,b=>lj.at_ c d a b
end
section
structure Tp(B w)(tb:Nat)(wd l):Prop where
 ge:B<=tb
 row:∃A c,ag w tb 239 #[.bool wd,.slice A l.length c]/\w.ownsRow B 290 4 (.slice A l.length c) l.length (rU l)
def ja(w:U0)(tb:Nat):Option Nat:=match w ⟨tb,1,none⟩with|some v=>v.ownBlock|none=>none
def nH(tb:Nat)(w w':U0):Prop:=(∀a,a<w.heap.size->a≠tb->ja w tb≠some a->w'.heap[a]?=w.heap[a]?)/\∀a,a<w.heap.size->ja w' tb=a->ja w tb=a
section
variable{B tb:Nat}{w w' w2:World}{wd:Bool}{l:List Si}
def Tp.lt(a:Tp B w tb wd l):tb<w:=by have⟨_,_,b,_⟩:=a.row;exact b.lt
def Tp.base(a:Tp B w tb wd l):B<=w:=YT<|WV a.ge a.lt
def Tp.aa(a:Tp B w tb wd l)(c:UB w w w'):Tp B w' tb wd l:=by have⟨d,e,b,f⟩:=a.row;exact⟨a.ge,d,e,b.aa c b.lt,bN f rfl c⟩
def Tp.drew(a:Tp B w tb wd l):Tp B w.drew tb wd l:=a.aa (Zo _ w).drew
def fN{t x v}(a:ag w tb t #[x,v]):ja w tb=v.ownBlock:=by unfold ja;rw[show w ⟨tb,1,none⟩=v from a.cell 1]
def Tp.yg(b:Tp B w tb wd l){n}(a:ja w tb=some n):(∃cs,w.heap[n]?=some (.cells cs 290))/\B<=n/\n<w:=by have⟨e,f,c,d⟩:=b.row;rw[fN c]at a;exact bq d a
def Tp.G0(d:Tp B w tb wd l){b t cs}(e:ag w b t cs)(f:t≠290):ja w tb≠some b:=λc=>by obtain⟨⟨g,a⟩,-⟩:=d.yg c;rw[show w.heap[b]?=_ from e]at a;simp only[XG,Wd]at a;exact f a.2.1
def oN(a:UB w w w')(b:tb<w):ja w' tb=ja w tb:=by unfold ja;rw[a.cell (p:=⟨tb,1,none⟩) b]
def nH.refl:nH tb w w:=⟨λ_ _ _ _=>rfl,λ_ _ a=>a⟩
def nH.aB(b:UB w w w')(d:tb<w):nH tb w w':=⟨λc a _ _=>b.block c a,λc _ a=>by rw[oN b d]at a;exact a⟩
def nH.trans(d:nH tb w w')(e:nH tb w' w2)(h:w.heap.size<=w'):nH tb w w2:=⟨λa b g f=>(e.1 a Z9 g<|λc=>f<|d.2 a b c).trans<|d.1 a b g f,λa b c=>d.2 a b<|e.2 a Z9 c⟩
def ag.Pv{b t cs}(a:ag w b t cs)(c:nH tb w w')(d:b≠tb)(e:ja w tb≠some b):ag w' b t cs:=(c.1 b a.lt d e).trans a
end
def C4:((prog).info? 290).map (λa=>(a.zero,a.size,a.bytes))=some (some<|.agg #[U6,U6,U6,U8],4,32):=Z7
def Kb(l):∀c∈rU l,c.oneCell'=true:=by intro c b;unfold rU at b;have⟨d,_,a⟩:=Wh.1 b;unfold sv at a;obtain rfl|a:=YO.1 a;{rfl};obtain rfl|a:=YO.1 a;{rfl};obtain rfl|a:=YO.1 a;{rfl};obtain rfl|a:=YO.1 a;{rfl};cases a
def dF(B tb wd l aM cs m z w b)(P:b.heap.size=z)(S:w=b.alloc (.cells cs 290))(g:cs.toList=rU aM)(n:aM.length=m)(R:0<m)(Y:m<=2)(Q:l.length<=1000000000)(k:Tp B b tb wd l):UD 191 #[.pointer tb,.slice (some ⟨z,0,none⟩) m m] w λa w'=>a=.returned (.tuple #[])/\Tp B w' tb wd (l++aM)/\UB B b w'/\nH tb b w':=by subst S P;have⟨h,j,f,t⟩:=k.row;have C:=k.ge;have V:(b.alloc<|.cells cs 290) tb=wd:=(f.alloc _).cell 0;have c1:(b.alloc<|.cells cs 290) ⟨tb,1,none⟩=some (.slice h l.length j):=(f.alloc _).cell 1;have v:some tb≠(Value.slice h l.length j).ownBlock:=by{obtain⟨s,_⟩|⟨M,L,cur,o,N,c,rest⟩:=t.2;{rw[s];exact λr=>by cases r};{rw[o];intro r;have a:=Yp r;subst a;rw[show b.heap[tb]?=_ from f]at c;simp only[XG,Wd]at c;exact absurd c.2.1 Z8}};have i:=Zs f;have U:=Zs k;have y:=Zs v;obtain⟨e,I⟩:=Z' l.length;rw[I]at t c1 Q y i;go_enter func191,ntmps191;go_wp2_with(at_builtin;apply aX rfl _ _ 151 rfl B (.agg #[U6,U6,U6,U8]) 4 32 underlying151 C4 rfl Z8 (.slice h e j) e _ rfl t m rfl (by rw[g,pH,n]) (by rw[g];exact Kb aM) Z9 Z9 k.base R;intro d q p K O E T;have u:=(E tb f.lt y).trans i;have X:=(show ag p tb _ _ from u).af 1;have W:=(show ag p tb _ _ from u).cell 1);go_returns;have G:ag p tb 239 #[wd,.slice h e j]:=u;have⟨g,n⟩:=(Zs<|Zr g n).out;have F:(l++aM).length=e+m:=by{rw[Zn,(Zs I).out,n]};have H:=G.set 1<|.slice d (e+m) q;refine⟨rfl,⟨C,d,q,?_,?_⟩,O.setCell (p:=⟨tb,1,none⟩) C _,λx D v J=>?_,λx D a=>?_⟩;{rw[F];exact H};{rw[F,Ka,<-g];exact aI K (λa=>(by rintro rfl;obtain⟨s,_⟩|⟨M,L,cur,o,N,c,rest⟩:=K.2;{cases s};{simp only[Value.slice.injEq,XG,Addr.mk.injEq]at o;obtain⟨⟨rfl,-,-⟩,-,-⟩:=o;rw[show p.heap[d]?=_ from G]at c;simp only[XG,Wd]at c;exact absurd c.2.1 Z8}:d≠tb) (Yp a).symm) _};{rw[Zk _ _ _ _ v];rw[fN i.out]at J;exact E x D<|λa=>J a.symm};{rw[fN (x:=wd) (v:=.slice d (e+m) q) H]at a;rw[fN i.out];have a:d=x:=Yp a;obtain A|A:=T;{rw[A,a]};{omega}}
def il(l:List Si)(a v:Nat):List Si:=l.modify a λb=>{b with a:=v}
def dY(l a v):(il l a v).length=l.length:=Wy ..
def Ay(B tb b1 h wd l a w)(q:a<l.length)(P:l.length<=1000000000)(o:Tp B w tb wd l)(t:ag w b1 300 #[.pointer tb])(u:ag w h 3 #[(a:Nat)]):UD 243 #[.pointer b1,.pointer h] w λc w'=>c=.returned (.tuple #[])/\Tp B w' tb wd (il l a l.length)/\UB B w w'/\nH tb w w':=by have⟨F,m,d,e⟩:=o.row;have A:=o.ge;have⟨b,G,f,z,M,L⟩:=cI e Z9;injection f with f _ hc;subst f hc;obtain⟨k,g⟩:=Z' l.length;have y:∃v,w ⟨b,a*4+1,none⟩=some v:=by{have E:=vK l a l[a] (Zp q) 1 _ rfl;exact⟨_,bO e E⟩};have⟨R,T⟩:=y;have S:w.frozen? ⟨b,a*4+1,none⟩=false:=xU e _;have H:w ⟨b1,0,none⟩=some (.pointer tb):=t.cell 0;have c1:w ⟨h,0,none⟩=(a:Nat):=u.cell 0;have c2:w ⟨tb,1,none⟩=some (.slice b l.length m):=d.cell 1;have N:(a:Int)<k:=Z9;have O:(0:Int)<=a:=Z9;rw[g]at c2 q;have r:=Zs<|Zr d<|Zr e g;go_enter func243,ntmps243;go_region;go_returns;have⟨d,e,g⟩:=r.out;have p:tb≠b:=λc=>by{subst c;obtain⟨s,_⟩|⟨J,I,cur,f,K,i,rest⟩:=e.2;{cases s};{simp only[Value.slice.injEq,XG,Addr.mk.injEq]at f;obtain⟨⟨rfl,-,-⟩,-,-⟩:=f;rw[show w.heap[tb]?=_ from d]at i;simp only[XG,Wd]at i;exact absurd i.2.1 Z8}};refine⟨rfl,Tp.drew ⟨A,b,m,?_,?_⟩,(((Zo B w).setCell (p:=⟨b,a*4+1,none⟩) z _)).drew,λj C Q D=>?_,λj C c=>?_⟩;{rw[dY];exact d.bV (p:=⟨b,a*4+1,none⟩) p _};{rw[dY,il,<-BV _ l a Z9,g];rw[g]at e;exact Gw e _ _};{refine Zk _ _ _ _ (λc=>D ?_);rw[fN d];have c:j=b:=c;rw[c];rfl};{have x:=d.bV (p:=⟨b,a*4+1,none⟩) p<|.int .i64 (k:Nat);rw[fN d];have n:ja (w.setCell ⟨b,a*4+1,none⟩<|.int .i64 (k:Nat)) tb=some j:=c;rw[fN x]at n;exact n}
structure Jp(B w' tb b1 b at_):Prop where
 t:ag w' b1 300 #[.pointer<|some ⟨tb,0,none⟩]
 a:ag w' b 3 #[(at_:Nat)]
 ne:b1≠tb/\b≠tb
 ge:B<=b1/\B<=b
def Jp.kp{B tb b1 n at_ w w' wd l}(a:Jp B w tb b1 n at_)(b:Tp B w tb wd l)(c:nH tb w w'):Jp B w' tb b1 n at_:=⟨a.t.Pv c a.ne.1<|b.G0 a.t Z8,a.a.Pv c a.ne.2<|b.G0 a.a Z8,a.ne,a.ge⟩
def eP(B tb b1 b a wd l w)(f:a<l.length)(g:l.length<=1000000000)(e:Tp B w tb wd l)(c:Jp B w tb b1 b a):UD 243 #[.pointer b1,.pointer b] w λd w'=>d=.returned (.tuple #[])/\Tp B w' tb wd (il l a l.length)/\UB B w w'/\nH tb w w':=Ay B tb b1 b wd l a w f g e c.t c.a
def fR(B tb j wd l w)(r:l.length<=100000000)(e:Tp B w tb wd l):UD 227 #[.pointer tb,(j:Nat)] w λm w'=>∃b1 k,m=.returned (.func (.func 243) #[] #[.pointer<|some ⟨b1,0,none⟩,.pointer<|some ⟨k,0,none⟩])/\Jp B w' tb b1 k l.length/\Tp B w' tb wd (l++[⟨j,0,0,0⟩])/\UB B w w'/\nH tb w w':=by have n:=e.base;have s:=e.lt;have g:=Zs e;have⟨t,u,q,v⟩:=e.row;have c1:=q.cell 1;obtain⟨c,o⟩:=Z' l.length;rw[o]at c1 r⊢;go_enter func227,ntmps227;go_wp2_with fail;have x:=(g.aa<|(Zo w.heap.size w).alloc (Zq _)<|.cells #[.pointer tb] 300);have a:UB w w<|(w.alloc<|.cells #[.pointer tb] 300).alloc<|.cells #[c] 3:=(((Zo w w).alloc (Zq _) _).alloc Z5 _);have b:=ag.aM w 300 #[.pointer tb];have d:=ag.aM (w.alloc<|.cells #[.pointer tb] 300) 3 #[c];rw[Y9]at d;replace b:=b.alloc<|.cells #[c] 3;have p:((w.alloc<|.cells #[.pointer tb] 300).alloc<|.cells #[c] 3)=w.heap.size+1+1:=Z5;generalize(w.alloc<|.cells #[.pointer tb] 300).alloc (.cells #[c] 3)=w1 at a b d p⊢;refine(dF B tb wd l [⟨j,0,0,0⟩] _ 1 _ _ w1 p rfl rfl rfl Z8 Z8 (by rw[(Zs o).out];omega)<|g.aa a).mono ?_;rintro m w2⟨rfl,h,i,f⟩;go_wp2;go_returns;have⟨h,i,f,a,b,d⟩:=(Zs<|Zr h<|Zr i<|Zr f<|Zr a<|Zr b d).out;exact⟨_,_,rfl,(⟨b,d,⟨Z9,Z9⟩,⟨n,Z9⟩⟩:Jp B w1 tb w (w+1) c).kp (g.aa a) f,h,(a.mono n).trans i,(nH.aB a s).trans f a.size⟩
def rJ(B tb wd l w)(r:l.length<=100000000)(g:Tp B w tb wd l):UD 114 #[.pointer tb] w λa w'=>a=.returned (.tuple #[])/\Tp B w' tb wd (l++aY wd)/\UB B w w'/\nH tb w w':=by have f:=Zs g;have⟨n,o,i,q⟩:=g.row;have p:w ⟨tb,0,none⟩=wd:=i.cell 0;cases wd with|false=>go_enter func114,ntmps114;go_wp2_with fail;refine(dF B tb false l [⟨11,0,0,0⟩] _ 1 _ _ w rfl rfl rfl rfl Z8 Z8 Z9 f).mono ?_;rintro a w2⟨rfl,d,b,e⟩;go_wp2;go_returns;exact⟨rfl,d,b,e⟩|true=>go_enter func114,ntmps114;go_wp2_with fail;refine(dF B tb true l [⟨1,0,0,0⟩] _ 1 _ _ w rfl rfl rfl rfl Z8 Z8 Z9 f).mono ?_;rintro a w2⟨rfl,d,b,e⟩;have c:=Zs<|Zr d<|Zr b e;have m:=b.size;go_wp2_with fail;refine(dF B tb true (l++[⟨1,0,0,0⟩]) [⟨11,0,0,0⟩] _ 1 _ _ w2 rfl rfl rfl rfl Z8 Z8 (by rw[Zn];show _+1<=_;omega) c.1).mono ?_;rintro a s⟨rfl,h,j,k⟩;go_wp2;go_returns;refine⟨rfl,?_,c.2.1.trans j,c.2.2.trans k m⟩;rw[Y8]at h;exact h
end
section
variable{α:Type}{n:Nat}{k:Nat}
def Kt(b c:Nat)(g:Bool)(f:List Si)(d:U0):Ending->World->Prop:=λe a=>e=Uv (Ut #[])/\Tp b a c g f/\UB b d a/\nH c d a
def Kq(j:Nat):Prop:=∀(f)(a:Ce)(b h c g)i d e,a.size<j->b<c->eu rT e (·<c) (f,a) b h->Cp (.cons f a .nil)->Tp c e g i d->d+6*(a.size+1)<=100000000->UD 226 #[Ux g,Ux<|some ⟨b,h,Um⟩] e (Kt c g i (d++bS f a d) e)
def Ef.PQ{a:Ef α}(d:a.len=2):∃b e c m,a=.cons b e (.cons c m .nil):=by cases a with|nil=>cases d|cons b e f=>cases f with|nil=>cases d|cons c m g=>cases g with|nil=>exact⟨b,e,c,m,rfl⟩|cons _ _ h=>exact absurd d (by show h.len+1+1+1≠2;omega)
def eu.aa{cs w w' b}{d:α×Ef α}(a:eu cs w (·<n) d b k)(e:b<n)(c:UB n w w'):eu cs w' (·<n) d b k:=a.ay (λg _=>c.cell (p:=⟨b,k+g,Um⟩) e) (λh f=>c.block h f)<|λ_ a=>a
def gL(a b c v):il (a++c::b) a.length v=a++{c with a:=v}::b:=by unfold il;induction a with|nil=>rfl|cons f e d=>rw[Ze,Yb,Vw,d];rfl
def oB(m)(E:m=8\/m=9)(n)(C:n=if m=8 then[bP]else[])(e)(D:e=if m=8 then 0 else 1)(b g d h f)(hd:b.kind=m)(c w a x l i j y k)(o:c++bS g h c.length=w)(p:w++n=a)(q:a++[⟨9,0,0,0⟩]=x)(r:x++[⟨1,0,0,e⟩]=l)(z:l++[⟨8,0,0,0⟩]=i)(t:il i a i=j)(A:j++bS d f j=y)(B:y++[bP,bP]=k):il k l k=c++bS b (.cons g h<|.cons d f .nil) c:=by have s:i=a++⟨9,0,0,0⟩::[⟨1,0,0,e⟩,⟨8,0,0,0⟩]:=by{rw[<-z,<-r,<-q];simp};have v:i=a.length+3:=by{rw[s,Zn];rfl};have u:k=(a++[⟨9,a+3,0,0⟩,⟨1,0,0,e⟩])++⟨8,0,0,0⟩::(bS d f (a+3)++[bP,bP]):=by{rw[<-B,<-A,(by rw[<-t,dY,v]:j=a.length+3),(by rw[<-t,v,s,gL];simp:j=a++[⟨9,a+3,0,0⟩,⟨1,0,0,e⟩]++[⟨8,0,0,0⟩])];simp};rw[(by rw[<-r,<-q];simp:l.length=(a++[⟨9,a.length+3,0,0⟩,(⟨1,0,0,e⟩:Si)]).length),(by rw[u];simp;omega:k.length=a.length+3+(bS d f<|a.length+3).length+2),u,gL,show bS b (.cons g h<|.cons d f .nil) c.length=lowC (if b.kind=8\/b.kind=9 then b.kind else 0) (.cons g h<|.cons d f .nil) c.length++Dm b from rfl,if_pos (show b.kind=8\/b.kind=9 by omega),(by unfold Dm;rw[if_neg Z9,if_neg Z9,if_neg Z9,if_neg Z9,if_neg Z9,if_neg Z9,if_neg Z9]:Dm b=[bP,bP]),hd,xp m E,<-C,<-D,<-(by rw[<-p,<-o,Y8,Zn]:a.length=c.length+(bS g h c.length++n).length)];rw[<-p,<-o];simp
structure Ei(B a nb b w l W):Prop where
 t:Tp B W a b l
 aw:UB B w W
 nt:ag W nb 290 #[(7:Int),U6,U6,U8]
 nr:ja W a≠some nb
 kp:nH a w W
 ne:nb≠a
 sz:w.heap.size<=W
def Ei.step{nb c w W W' h e}(a:Ei n k nb c w h W)(g:Tp n W' k c e)(d:UB n W W')(b:nH k W W'):Ei n k nb c w e W':=⟨g,a.aw.trans d,a.nt.Pv b a.ne a.nr,λf=>a.nr<|b.2 nb a.nt.lt f,a.kp.trans b a.sz,a.ne,Zb a.sz d.size⟩
theorem yq(f1)(ih:Kq f1)(m)(hm:m=8\/m=9)(U)(a6:Ce)(hd:U.kind=m)(b r a c d q e)(hn:a6.size<=f1)(hb:b<a)(s:eu rT e (·<a) (U,a6) b r)(a5:Cp<|.cons U a6 .nil)(hT:Tp a e c d q)(hl:q+6*(a6.size+1)<=100000000):UD 242 #[Ux c,Ux<|some ⟨b,r,Um⟩] e<|Kt a c d (q++bS U a6 q) e:=by obtain⟨F,t,A,p,rfl⟩:=Ef.PQ<|a5.1.2.2.2 Z9;have g1:(Ef.cons F t<|Ef.cons A p .nil).size=t.size+(p.size+0+1)+1:=rfl;rw[g1]at hn hl;obtain⟨g2,g3⟩:Cp (.cons F t .nil)/\Cp (.cons A p .nil):=⟨⟨a5.2.1.1,a5.2.1.2.1,trivial⟩,⟨a5.2.1.2.2.1,a5.2.1.2.2.2.1,trivial⟩⟩;have⟨Z,g6,a7,f6,hk⟩:=s;obtain⟨E,H,rfl,a',e'⟩:=hk (by show 0<_+1;omega);have e0:e.cell? ⟨b,r,none⟩=m:=by{rw[<-hd];exact Z 0 _ rfl};have e5:e.cell? ⟨b,r+5,none⟩=some (.slice (some ⟨E,H,none⟩) 2 a7):=f6;have hx:eu rT e (·<a) (F,t) E H:=by{have N:=e'.el (m:=5) (λ_=>rfl) 0 _ rfl;rwa[YE,Yy]at N};have hy:eu rT e (·<a) (A,p) E<|H+6:=by{have N:=e'.el (m:=5) (λ_=>rfl) 1 _ rfl;rwa[XB]at N};have KX:=Zs (λ(M:World)(N:Below a e M)(T:List Si)(d1:Tp a M c d T)(h2:T.length+6*(t.size+1)<=100000000)=>ih F t E H a c d T M Z9 a' (hx.aa a' N) g2 d1 h2);have KY:=Zs (λ(M:World)(N:Below a e M)(T:List Si)(d1:Tp a M c d T)(h2:T.length+6*(p.size+1)<=100000000)=>ih A p E (H+6) a c d T M Z9 a' (hy.aa a' N) g3 d1 h2);have f9:=k8 F t;have f':=k8 A p;have c9:=Zs<|Zr f9 f';have HT:=Zs hT;have HD:=Zs hd;have HB:=hT.base;have f0:c<e.heap.size:=hT.lt;have g8:b<e.heap.size:=Z9;have E1:Ei a c e.heap.size d e q<|e.alloc<|.cells #[.int .i64 7,.int .i64 0,.int .i64 0,.int .u32 0] 290:=by{have Y:=(Zo e.heap.size e).alloc (Zq _)<|.cells #[.int .i64 7,.int .i64 0,.int .i64 0,.int .u32 0] 290;refine⟨HT.aa Y,Y.mono HB,ag.aM _ _ _,?_,nH.aB Y f0,Z9,Y.size⟩;rw[oN Y f0];intro h;have:=(HT.yg h).2.2;omega};have b5:=Zs E1;have HW:=Zs<|Zr e0 e5;have g7:(e.alloc<|.cells #[.int .i64 7,.int .i64 0,.int .i64 0,.int .u32 0] 290).cell? ⟨b,r+5,none⟩=some (.slice (some ⟨E,H,none⟩) 2 a7):=(E1.aw.cell (p:=⟨b,r+5,none⟩) hb).trans e5;go_enter func242,ntmps242;go_wp2_with fail;refine(KX _ b5.aw q b5.t Z9).mono ?_;rintro h I⟨rfl,f2,f4,f7⟩;have D:=b5.step f2 f4 f7;obtain⟨nb,g0⟩:=Z' e.heap.size;rw[g0]at D⊢;obtain⟨G,e9⟩:=Z'<|q++bS F t q.length;rw[e9]at D;have q1:G.length<=q.length+(6*t.size+2):=by{rw[<-e9,Zn];have:=c9.1 q.length;omega};have H1:=Zs e9;have c3:=Zs D;have e0:I.cell? ⟨b,r,none⟩=m:=(D.aw.cell (p:=⟨b,r,none⟩) hb).trans HW.1;have n0:I.cell? nb=some (.int .i64 7):=D.nt.cell 0;have n1:I.cell? ⟨nb,1,none⟩=some (.int .i64 0):=D.nt.cell 1;have n2:I.cell? ⟨nb,2,none⟩=some (.int .i64 0):=D.nt.cell 2;have n3:I.cell? ⟨nb,3,none⟩=some (.int .u32 0):=D.nt.cell 3;obtain rfl|rfl:=hm;{go_wp2_with fail;refine(dF a c d G [⟨7,0,0,0⟩] _ 1 _ _ I rfl rfl rfl rfl Z8 Z8 Z9 c3.t).mono ?_;rintro h w3⟨rfl,f3,f5,f8⟩;have J:=Zs<|c3.step f3 f5 f8;obtain⟨f,O⟩:=Z'<|G++[bP];replace J:Hid<|Ei a c nb d e f w3:=Zs (by rw[<-O];exact J);have q2:f.length<=G.length+1:=by{rw[<-O,Zn];exact Zq _};have H2:=Zs O;go_wp2_with fail;refine(fR a c 9 d f w3 Z9 J.t).mono ?_;rintro h w4⟨b1,b2,rfl,c',d3,d',e8⟩;have w:=Zs<|J.step d3 d' e8;have c4:=Zs c';obtain⟨k,P⟩:=Z'<|f++[(⟨9,0,0,0⟩:Si)];rw[P]at w;have q3:k.length=f.length+1:=by{rw[<-P,Zn];rfl};have H3:=Zs P;have Q3:=Zs q3;have g4:k.length<=f.length+1:=Ys q3;go_wp2_with fail;refine(dF a c d k [⟨1,0,0,0⟩] _ 1 _ _ w4 rfl rfl rfl rfl Z8 Z8 Z9 w.t).mono ?_;rintro h w5⟨rfl,d4,e1,a0⟩;have x:=Zs<|w.step d4 e1 a0;have c5:=Zs<|c4.kp w.t a0;obtain⟨i,Q⟩:=Z'<|k++[(⟨1,0,0,0⟩:Si)];rw[Q]at x;have W:Hid<|i.length=k.length+1:=Zs (by rw[<-Q,Zn];rfl);have q4:i.length<=k.length+1:=Ys W;have H4:=Zs Q;go_wp2_with fail;refine(fR a c 8 d i w5 Z9 x.t).mono ?_;rintro h w6⟨b3,b4,rfl,d0,d5,e2,a1⟩;have y:=Zs<|x.step d5 e2 a1;have V:=Zs<|Zr (c5.kp x.t a1) d0;obtain⟨j,R⟩:=Z'<|i++[(⟨8,0,0,0⟩:Si)];rw[R]at y;have L:Hid<|j.length=i.length+1:=Zs (by rw[<-R,Zn];rfl);have q5:j.length<=i.length+1:=Ys L;have H5:=Zs R;go_wp2_with fail;refine(eP a c b1 b2 f.length d j w6 (by have:=Q3.out;have:=W.out;have:=L.out;omega) Z9 y.t V.1).mono ?_;rintro h w7⟨rfl,d6,e3,a2⟩;have o:=Zs<|y.step d6 e3 a2;have c6:=Zs<|V.2.kp y.t a2;obtain⟨g,B⟩:=Z'<|il j f.length j.length;rw[B]at o;have q6:g.length<=j.length:=by{rw[<-B,dY];exact Zq _};have Q6:Hid<|g.length=j.length:=Zs (by rw[<-B,dY]);have H6:=Zs B;have e5:w7.cell? ⟨b,r+5,none⟩=some (.slice (some ⟨E,H,none⟩) 2 a7):=(o.aw.cell (p:=⟨b,r+5,none⟩) hb).trans HW.2;go_wp2_with fail;refine(KY _ o.aw g o.t Z9).mono ?_;rintro h v⟨rfl,d7,e4,a3⟩;have n:=o.step d7 e4 a3;have c7:=Zs<|c6.kp o.t a3;obtain⟨l,C⟩:=Z'<|g++bS A p g.length;rw[C]at n;have q7:l.length<=g.length+(6*p.size+2):=by{rw[<-C,Zn];have:=c9.2 g.length;omega};have Q7:Hid<|g.length<=l.length:=Zs (by rw[<-C,Zn];omega);have H7:=Zs C;have n0:v.cell? nb=some (.int .i64 7):=n.nt.cell 0;have n1:v.cell? ⟨nb,1,none⟩=some (.int .i64 0):=n.nt.cell 1;have n2:v.cell? ⟨nb,2,none⟩=some (.int .i64 0):=n.nt.cell 2;have n3:v.cell? ⟨nb,3,none⟩=some (.int .u32 0):=n.nt.cell 3;have K:=Zs n;go_wp2_with fail;refine(dF a c d l [⟨7,0,0,0⟩,⟨7,0,0,0⟩] _ 2 _ _ v rfl rfl rfl rfl Z8 Z8 Z9 K.t).mono ?_;rintro h w9⟨rfl,d8,e6,a4⟩;have z:=Zs<|K.step d8 e6 a4;have c8:=Zs<|c7.kp K.t a4;obtain⟨u,S⟩:=Z'<|l++[bP,bP];replace z:Hid<|Ei a c nb d e u w9:=Zs (by rw[<-S];exact z);have X:Hid<|u.length=l.length+2:=Zs (by rw[<-S,Zn];rfl);have q8:u.length<=l.length+2:=Ys X;have H8:=Zs S;go_wp2_with fail;refine(eP a c b3 b4 i.length d u w9 (by have:=L.out;have:=Q6.out;have:=Q7.out;have:=X.out;omega) Z9 z.t c8).mono ?_;rintro h g5⟨rfl,d2,d9,e7⟩;have c0:=Zs<|z.step d2 d9 e7;go_wp2;go_returns;have s:=c0.out;have Z:=oB 8 Z8 [bP] rfl 0 rfl U F A t p HD q G f k i j g l u H1 H2 H3 H4 H5 H6 H7 H8;rw[Z]at s;exact⟨rfl,s.t,s.aw,s.kp⟩};{go_wp2_with fail;obtain⟨f,O⟩:=Z'<|G++([]:List Si);have J:Hid<|Ei a c nb d e f I:=Zs (by rw[<-O,YL];exact c3);have q2:f.length<=G.length+1:=by{rw[<-O,YL];omega};have H2:=Zs O;refine(fR a c 9 d f I Z9 J.t).mono ?_;rintro h w4⟨b1,b2,rfl,c',d3,d',e8⟩;have w:=Zs<|J.step d3 d' e8;have c4:=Zs c';obtain⟨k,P⟩:=Z'<|f++[(⟨9,0,0,0⟩:Si)];rw[P]at w;have q3:k.length=f.length+1:=by{rw[<-P,Zn];rfl};have H3:=Zs P;have Q3:=Zs q3;have g4:k.length<=f.length+1:=Ys q3;go_wp2_with fail;refine(dF a c d k [⟨1,0,0,1⟩] _ 1 _ _ w4 rfl rfl rfl rfl Z8 Z8 Z9 w.t).mono ?_;rintro h w5⟨rfl,d4,e1,a0⟩;have x:=Zs<|w.step d4 e1 a0;have c5:=Zs<|c4.kp w.t a0;obtain⟨i,Q⟩:=Z'<|k++[(⟨1,0,0,1⟩:Si)];rw[Q]at x;have W:Hid<|i.length=k.length+1:=Zs (by rw[<-Q,Zn];rfl);have q4:i.length<=k.length+1:=Ys W;have H4:=Zs Q;go_wp2_with fail;refine(fR a c 8 d i w5 Z9 x.t).mono ?_;rintro h w6⟨b3,b4,rfl,d0,d5,e2,a1⟩;have y:=Zs<|x.step d5 e2 a1;have V:=Zs<|Zr (c5.kp x.t a1) d0;obtain⟨j,R⟩:=Z'<|i++[(⟨8,0,0,0⟩:Si)];rw[R]at y;have L:Hid<|j.length=i.length+1:=Zs (by rw[<-R,Zn];rfl);have q5:j.length<=i.length+1:=Ys L;have H5:=Zs R;go_wp2_with fail;refine(eP a c b1 b2 f.length d j w6 (by have:=Q3.out;have:=W.out;have:=L.out;omega) Z9 y.t V.1).mono ?_;rintro h w7⟨rfl,d6,e3,a2⟩;have o:=Zs<|y.step d6 e3 a2;have c6:=Zs<|V.2.kp y.t a2;obtain⟨g,B⟩:=Z'<|il j f.length j.length;rw[B]at o;have q6:g.length<=j.length:=by{rw[<-B,dY];exact Zq _};have Q6:Hid<|g.length=j.length:=Zs (by rw[<-B,dY]);have H6:=Zs B;have e5:w7.cell? ⟨b,r+5,none⟩=some (.slice (some ⟨E,H,none⟩) 2 a7):=(o.aw.cell (p:=⟨b,r+5,none⟩) hb).trans HW.2;go_wp2_with fail;refine(KY _ o.aw g o.t Z9).mono ?_;rintro h v⟨rfl,d7,e4,a3⟩;have n:=o.step d7 e4 a3;have c7:=Zs<|c6.kp o.t a3;obtain⟨l,C⟩:=Z'<|g++bS A p g.length;rw[C]at n;have q7:l.length<=g.length+(6*p.size+2):=by{rw[<-C,Zn];have:=c9.2 g.length;omega};have Q7:Hid<|g.length<=l.length:=Zs (by rw[<-C,Zn];omega);have H7:=Zs C;have n0:v.cell? nb=some (.int .i64 7):=n.nt.cell 0;have n1:v.cell? ⟨nb,1,none⟩=some (.int .i64 0):=n.nt.cell 1;have n2:v.cell? ⟨nb,2,none⟩=some (.int .i64 0):=n.nt.cell 2;have n3:v.cell? ⟨nb,3,none⟩=some (.int .u32 0):=n.nt.cell 3;have K:=Zs n;go_wp2_with fail;refine(dF a c d l [⟨7,0,0,0⟩,⟨7,0,0,0⟩] _ 2 _ _ v rfl rfl rfl rfl Z8 Z8 Z9 K.t).mono ?_;rintro h w9⟨rfl,d8,e6,a4⟩;have z:=Zs<|K.step d8 e6 a4;have c8:=Zs<|c7.kp K.t a4;obtain⟨u,S⟩:=Z'<|l++[bP,bP];replace z:Hid<|Ei a c nb d e u w9:=Zs (by rw[<-S];exact z);have X:Hid<|u.length=l.length+2:=Zs (by rw[<-S,Zn];rfl);have q8:u.length<=l.length+2:=Ys X;have H8:=Zs S;go_wp2_with fail;refine(eP a c b3 b4 i.length d u w9 (by have:=L.out;have:=Q6.out;have:=Q7.out;have:=X.out;omega) Z9 z.t c8).mono ?_;rintro h g5⟨rfl,d2,d9,e7⟩;have c0:=Zs<|z.step d2 d9 e7;go_wp2;go_returns;have s:=c0.out;have Z:=oB 9 Z8 [] rfl 1 rfl U F A t p HD q G f k i j g l u H1 H2 H3 H4 H5 H6 H7 H8;rw[Z]at s;exact⟨rfl,s.t,s.aw,s.kp⟩}
end
structure El(B a b w l)(F:Ce)(i W):Prop where
 t:Tp B W a b (l++eh (F.bI.take i) l.length)
 aw:UB B w W
 kp:nH a w W
 sz:w.heap.size<=W
def uc:∀H,Kq H:=by intro H;induction H with|zero=>intro h d b a j r s g e E;exact absurd E (YK _)|succ H S=>intro h d b a j r s g e hn n O G Q Z;have F:=G.1;by_cases z:h.kind=8\/h.kind=9;{obtain⟨m,q⟩:=Z' h.kind;have J:e ⟨b,a,Um⟩=m:=by{rw[<-q];exact O.1 0 _ rfl};have c7:m=8\/m=9:=by{rw[<-q];exact z};have KI:=Zs<|yq H S m c7 h d q b a j r s g e Z9 n O G Q Z;clear O G Q F z q S Z;obtain rfl|rfl:=c7;{go_enter func226,ntmps226;go_wp2_with fail;refine KI.out.mono ?_;rintro l w2⟨rfl,c⟩;have i:=Zs c;clear c;go_wp2;go_returns;exact⟨rfl,i.out⟩};{go_enter func226,ntmps226;go_wp2_with fail;refine KI.out.mono ?_;rintro l w2⟨rfl,c⟩;have i:=Zs c;clear c;go_wp2;go_returns;exact⟨rfl,i.out⟩}};{obtain⟨m,q⟩:=Z' h.kind;obtain⟨A,c',a3,b2,hk⟩:=O;have J:e ⟨b,a,Um⟩=m:=by{rw[<-q];exact A 0 _ rfl};have K:e ⟨b,a+1,Um⟩=h.op:=A 1 _ rfl;have L:e ⟨b,a+2,Um⟩=h.num:=A 2 _ rfl;have M:e ⟨b,a+3,Um⟩=(h.slot:Nat):=A 3 _ rfl;have N:e ⟨b,a+4,Um⟩=(h.size:Nat):=A 4 _ rfl;have D:e ⟨b,a+5,Um⟩=some (Uz c' d.len a3):=b2;obtain⟨x,P⟩:=Z' d.len;rw[P]at D;have t:=Zs<|Zr J<|Zr K<|Zr L<|Zr M<|Zr N D;have e7:x<=d.size:=by{rw[<-P];exact Wv d};have h8:¬m=8:=λl=>z<|YA<|q.trans l;have h9:¬m=9:=λl=>z<|YQ<|q.trans l;have d3:(m==8)=false:=by{simp[h8]};have d4:(m==9)=false:=by{simp[h9]};have c5:1<=m:=by{rw[<-q];exact F.1};have c6:m<=9:=by{rw[<-q];exact F.2.1};have C:=Zs<|Zr q<|Zr z<|Zr c5<|Zr c6 F;have HK:=Zs hk;have d1:=Zs G;have HT:=Zs Q;have U:=Zs P;have HL:=Zs Z;have IH:=Zs S;have HN:=Zs hn;clear A b2 hk G Q P q z F S K L M N c5 c6;have c3:El j r s e g d 0 e:=⟨by rw[Yx];show Tp j e r s (g++[]);rw[YL];exact HT.out,Zo _ _,nH.refl,Zq _⟩;have a2:=Zs c3;clear c3;go_enter func226,ntmps226;go_wp2;go_loopw[25](λa0 wr=>∃f:Nat,f<=x/\a0=.int .i64 f/\Hid (El j r s e g d f wr))(λa0 _=>x-(intOf a0).toNat);(case atStart=>exact⟨0,Zc _,rfl,a2⟩);case round=>clear a2 J D;obtain⟨f,hj,rfl,o⟩:=hrel;by_cases c4:f<x;{have c0:f<d.bI.length:=by{rw[Wu,U.out];exact c4};obtain⟨V,o',rfl,a',a7⟩:=HK.out (by have:=U.out;show 0<d.len;omega);obtain⟨⟨W,kx⟩,R⟩:∃I,d.bI[f]=I:=⟨_,rfl⟩;have B:d.bI[f]?=some (W,kx):=by{rw[Zp c0,R]};have b3:eu rT e (·<j) (W,kx) V<|o'+f*6:=a7.el (m:=5) (λ_=>rfl) f _ B;have c9:=Ve d f _ B;have c8:=lL d f g.length _ B;simp only at c9 c8;have D:wr ⟨b,a+5,Um⟩=some (Uz (some ⟨V,o',Um⟩) x a3):=(o.out.aw.cell (p:=⟨b,a+5,Um⟩) n).trans t.out.2.2.2.2.2;have KX:=Zs (IH.out W kx V (o'+f*6) j r s (g++eh (d.bI.take f) g.length) wr (by have:=HN.out;omega) a' (b3.aa a' o.out.aw) (d1.out.2.1.at_ f _ B) o.out.t (by rw[Zn];have:=HL.out;omega));have d2:=Zs B;have e9:(f:Int)<x:=Z9;have e':(0:Int)<=f:=Z9;clear a7 R B b3 c9 c8 c0;go_wp2_with fail;refine KX.out.mono ?_;rintro l w2⟨rfl,a5,Y,b4⟩;have d5:Hid<|El j r s e g d (f+1) w2:=Zs ⟨by rw[pY d2.out,<-Y8,<-Zn];exact a5,o.out.aw.trans Y,o.out.kp.trans b4 o.out.sz,Zb o.out.sz Y.size⟩;clear a5 Y b4 o KX D;go_wp2;go_roundw;(case rel=>exact⟨f+1,c4,Z1,d5⟩);case measure=>simp[intOf];omega};{obtain rfl:f=x:=Z9;have a6:d.bI.take f=d.bI:=Y2 (by rw[Wu,U.out];exact Zq _);have v:=o.out.aw;have X:=o.out.t;rw[a6,<-lW]at X;have u:Hid<|Tp j wr r s (g++lowC 0 d g.length)/\UB j e wr/\nH r e wr/\e.heap.size<=wr:=Zs ⟨X,v,o.out.kp,o.out.sz⟩;have J:wr ⟨b,a,Um⟩=m:=(v.cell (p:=⟨b,a,Um⟩) n).trans t.out.1;have K:wr ⟨b,a+1,Um⟩=h.op:=(v.cell (p:=⟨b,a+1,Um⟩) n).trans t.out.2.1;have L:wr ⟨b,a+2,Um⟩=h.num:=(v.cell (p:=⟨b,a+2,Um⟩) n).trans t.out.2.2.1;have M:wr ⟨b,a+3,Um⟩=(h.slot:Nat):=(v.cell (p:=⟨b,a+3,Um⟩) n).trans t.out.2.2.2.1;have N:wr ⟨b,a+4,Um⟩=(h.size:Nat):=(v.cell (p:=⟨b,a+4,Um⟩) n).trans t.out.2.2.2.2.1;have d8:=gT 0 d g.length;have b5:(g++lowC 0 d g.length).length<=1000000000:=by{rw[Zn];have:=HL.out;omega};have d9:Hid<|bS h d g.length=lowC 0 d g.length++Dm h:=Zs (by unfold bS;rw[if_neg C.out.2.1]);have k:=Zs (λ(I:Si)(R:Dm h=[I])(cs:Array Value)(d7:cs.toList=rU [I])(p T:World)(n:UB wr wr T)(hW:p=T.alloc (.cells cs 290))(a4:Nat)(hg:T=a4)=>(dF j r s (g++lowC 0 d g.length) [I] cs 1 a4 p T hg hW d7 rfl Z8 Z8 b5<|u.out.1.aa n).mono (R':=Kt j r s (g++bS h d g.length) e) (by rintro l w'⟨rfl,h1,h2,h3⟩;refine⟨rfl,?_,u.out.2.1.trans<|(n.mono u.out.1.base).trans h2,u.out.2.2.1.trans ((nH.aB n u.out.1.lt).trans h3 n.size) u.out.2.2.2⟩;rw[d9.out,R,<-Y8];exact h1));obtain⟨w,op,num,slot,size⟩:=h;obtain rfl:w=m:=C.out.1;simp only at K L M N;have d':w=1\/w=2\/w=3\/w=4\/w=5\/w=6\/w=7:=by{have:=C.out.2.2.1;have:=C.out.2.2.2.1;omega};have e6:=C.out.2.2.2.2.2.2.1;simp only at e6;clear X v a6 d8 b5 o h8 h9 d3 d4;obtain⟨a1,rfl⟩:∃a1:Nat,op=a1:=⟨op.toNat,Z9⟩;have d0:Hid (∀p,UB j e p->(p ⟨b,a+3,Um⟩=(slot:Nat)/\p ⟨b,a+4,Um⟩=(size:Nat))/\UB j e p):=Zs λp E=>⟨⟨(E.cell (p:=⟨b,a+3,Um⟩) n).trans t.out.2.2.2.1,(E.cell (p:=⟨b,a+4,Um⟩) n).trans t.out.2.2.2.2.1⟩,E⟩;obtain rfl|rfl|rfl|rfl|rfl|rfl|rfl:=d';{go_wp2_with fail;refine(k.out ⟨1,0,0,num⟩ (by rfl) _ rfl _ wr (Zo _ _) rfl _ rfl).mono ?_;rintro l y⟨rfl,c⟩;have i:=Zs c;clear c k;go_wp2;go_returns;exact⟨rfl,i.out⟩};{go_wp2_with fail;refine(k.out ⟨2,slot,0,0⟩ (by rfl) _ rfl _ wr (Zo _ _) rfl _ rfl).mono ?_;rintro l y⟨rfl,c⟩;have i:=Zs c;clear c k;go_wp2;go_returns;exact⟨rfl,i.out⟩};{go_wp2_with fail;have e8:=u.out.2.1;have d6:j<=wr:=u.out.1.base;go_region_held3(λp=>(p ⟨b,a+3,Um⟩=(slot:Nat)/\p ⟨b,a+4,Um⟩=(size:Nat))/\UB j e p)((with_reducible refine d0.out _ ?_;repeat(first|(with_reducible assumption)|(with_reducible refine Vk ?_)|(with_reducible refine Below.alloc ?_ d6 _))))((go_at_call 191;(refine(k.out ⟨4,slot,size,0⟩ (by rfl) _ (by rfl) _ wr.drew (Zo _ wr).drew (by rfl) _ (by rfl)).mono ?_);rintro l y⟨rfl,c⟩;have i:=Zs c;clear c;have v:UB j e y:=i.out.2.1));clear k;go_wp2;go_returns;exact⟨rfl,i.out⟩};{go_wp2_with fail;refine(k.out ⟨10,slot,0,0⟩ (by rfl) _ rfl _ wr (Zo _ _) rfl _ rfl).mono ?_;rintro l y⟨rfl,c⟩;have i:=Zs c;clear c k;go_wp2;go_returns;exact⟨rfl,i.out⟩};{go_wp2_with fail;refine(k.out ⟨12,0,0,0⟩ (by rfl) _ rfl _ wr (Zo _ _) rfl _ rfl).mono ?_;rintro l y⟨rfl,c⟩;have i:=Zs c;clear c k;go_wp2;go_returns;exact⟨rfl,i.out⟩};{go_wp2_with fail;refine(k.out ⟨6,a1,0,0⟩ (by rfl) _ rfl _ wr (Zo _ _) rfl _ rfl).mono ?_;rintro l y⟨rfl,c⟩;have i:=Zs c;clear c k;go_wp2;go_returns;exact⟨rfl,i.out⟩};{go_wp2_with fail;refine(k.out ⟨7,0,0,0⟩ (by rfl) _ rfl _ wr (Zo _ _) rfl _ rfl).mono ?_;rintro l y⟨rfl,c⟩;have i:=Zs c;clear c k;go_wp2;go_returns;exact⟨rfl,i.out⟩}}}
end Go.Proofs.YtoenedcfojlooaaGreatDoor
