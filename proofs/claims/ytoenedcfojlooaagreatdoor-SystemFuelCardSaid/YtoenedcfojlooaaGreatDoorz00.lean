/- The compiler's promise on fuel, SystemFuel, proved; part 0. -/
import Derived.WalkKit
import Derived.Handy
import Derived.WalkSpells
import Derived.WalkLawsBesides
import Derived.Lib.Hide
import Derived.Deep.Light
import Derived.Deep.QuietTactic
import Derived.BigQuiet
import Derived.Deep.RegionLaw
import Derived.Deep.RegionHeld3
import Derived.Test.YtoenedcfojlooaaGreatDoorChecked
namespace Go.Proofs.YtoenedcfojlooaaGreatDoor
open Go.RowKit Go.Proofs.Tryz
set_option maxRecDepth 100000
set_option maxHeartbeats 0
set_option linter.all false
def Z'{α:Sort _}(x:α):∃y,x=y:=⟨x,rfl⟩
def Zs:=@Lib.hid
def Zr:=@And.intro
def Zq:=@Nat.le_refl
def Zp:=@List.getElem?_eq_getElem
def Zo:=@Below.refl
def Zn:=@List.length_append
def Zm:=@List.getElem?_eq_some_iff
def Zl:=@List.setIfInBounds_toArray
def Zk:=@Below.heap_setCell
def Zj:=@Nat.lt_of_lt_of_le
def Zi:=@List.length_map
def Zh:=@List.getElem?_map
def Zg:=@List.getElem_cons_zero
def Zf:=@List.getElem_cons_succ
def Ze:=@List.length_cons
def Zd:=@List.set_cons_zero
def Zc:=@Nat.zero_le
def Zb:=@Nat.le_trans
def Za:=@List.set_cons_succ
def Y':=@List.getElem_toArray
def Y9:=@World.size_alloc
def Y8:=@List.append_assoc
def Y7:=@AllReadyH.cons
def Y6:=@List.mem_of_getElem?
def Y5:=@Nat.zero_add
def Y4:=@List.mem_append_right
def Y3:=@List.getElem?_append_left
def Y2:=@List.take_of_length_le
def Y1:=@Bool.and_eq_true
def Y0:=@List.getElem?_append_right
def YZ:=@AllReadyH.nil
def YY:=@List.mem_singleton
def YX:=@List.length_nil
def YW:=@Array.getElem?_eq_some_iff
def YV:=@List.mem_cons_self
def YU:=@List.getElem_mem
def YT:=@Nat.le_of_lt
def YS:=@List.getD_eq_getElem?_getD
def YR:=@Array.getElem?_eq_getElem
def YQ:=@Or.inr
def YP:=@Nat.lt_succ_self
def YO:=@List.mem_cons
def YN:=@List.mem_append
def YM:=@Option.map_eq_some_iff
def YL:=@List.append_nil
def YK:=@Nat.not_lt_zero
def YJ:=@List.getElem?_toArray
def YI:=@List.mem_append_left
def YH:=@Nat.le_succ
def YF:=@List.take_succ_eq_append_getElem
def YE:=@Nat.zero_mul
def YD:=@List.mem_cons_of_mem
def YC:=@List.map_append
def YB:=@List.all_eq_true
def YA:=@Or.inl
def Yz:=@List.drop_eq_getElem_cons
def Yy:=@Nat.add_zero
def Yx:=@List.take_zero
def Yw:=@List.mem_iff_getElem?
def Yv:=@List.length_replicate
def Yu:=@Nat.le_of_ble_eq_true
def Yt:=@List.tail_drop
def Ys:=@Nat.le_of_eq
def Yr:=@Bool.and_assoc
def Yq:=@Nat.add_assoc
def Yp:=@Option.some.inj
def Yo:=@List.map_cons
def Yn:=@List.not_mem_nil
def Ym:=@World.ownsRow_nil
def Yl:=@List.getElem?_cons_succ
def Yk:=@List.length_take
def Yj:=@Nat.le_add_right
def Yi:=@List.getElem?_cons_zero
def Yh:=@List.getElem?_range
def Yg:=@Nat.sub_self
def Yf:=@Nat.lt_irrefl
def Ye:=@List.prefix_refl
def Yd:=@List.getElem?_replicate
def Yc:=@UInt32.toNat_ofNat'
def Yb:=@List.cons_append
def Ya:=@List.nil_append
def X':=@Bool.and_false
def X8:=@Int.toNat_natCast
def X7:=@List.drop_of_length_le
def X6:=@World.cell?_alloc_lt
def X5:=@Int.toNat_of_nonneg
def X4:=@List.map_congr_left
def X1:=@Bool.and_true
def X0:=@Array.getElem?_eq_none
def XZ:=@List.length_drop
def XY:=@List.size_toArray
def XX:=@List.length_range
def XW:=@Nat.add_sub_cancel_left
def XV:=@Array.getElem?_setIfInBounds_ne
def XU:=@Bool.eq_iff_iff
def XT:=@List.drop_length
def XS:=@List.getElem?_eq_none_iff
def XR:=@List.eq_nil_of_length_eq_zero
def XQ:=@List.getElem?_eq_none
def XP:=@Nat.min_eq_left
def XM:=@Nat.mod_eq_of_lt
def XL:=@Array.toArray_toList
def XK:=@IntKind.wrap_i64
def XJ:=@Array.replicate_succ
def XI:=@Array.replicate_zero
def XH:=@List.sum_cons
def XG:=@Option.some.injEq
def XF:=@List.mem_map
def XE:=@List.all_eq_false
def XD:=@List.reverse_append
def XC:=@List.append_toArray
def XB:=@Nat.one_mul
def XA:=@Int.natCast_add
def Xz:=@List.length_set
def Xy:=@Below.heap_alloc
def Xx:=@UInt32.toNat_inj
def Xw:=@Array.getElem?_setIfInBounds_self_of_lt
def Xv:=@Array.size_setIfInBounds
def Xu:=@List.map_nil
def Xs:=@List.drop_zero
def Xr:=@Nat.mul_one
def Xq:=@List.mem_range
def Xp:=@Result.andThen_ok
def Xo:=@List.getElem?_set
def Xn:=@List.push_toArray
def Xm:=@Nat.succ_pos
def Xk:=@Nat.ne_of_lt
def Xj:=@List.length_singleton
def Xi:=@DataW.trod_string
def Xh:=@Nat.add_comm
def Xf:=@Exists.intro
def Xe:=@Bool.true_and
def Xb:=@List.takeWhile_cons
def Xa:=@Bool.false_and
def WZ:=@List.getElem_map
def WY:=@Nat.and_two_pow_sub_one_eq_mod
def WX:=@Nat.add_mul
def WW:=@Bool.false_ne_true
def WV:=@Nat.lt_of_le_of_lt
def WU:=@Ne.symm
def WT:=@List.take_append_drop
def WR:=@List.take_add_one
def WO:=@List.isPrefixOf_iff_prefix
def WN:=@IntWalk.u32_in
def WM:=@Nat.mul_le_mul_right
def WL:=@List.getElem?_modify
def WK:=@NoPanic.normal
def WJ:=@UInt32.toNat_add
def WI:=@Sem.run_bind
def WH:=@Sem.run_pure
def WG:=@List.map_toArray
def WE:=@List.countP_cons
def WC:=@List.take_succ_cons
def WB:=@List.flatMap_append
def WA:=@Array.length_toList
def Wz:=@WideMaps.keyOf_string_mk
def Wy:=@List.length_modify
def Wx:=@Array.ext_getElem?
def Ww:=@List.pairwise_cons
def Wt:=@Nat.lt_of_succ_lt_succ
def Ws:=@Nat.le_of_succ_le
def Wq:=@DataW.trod_int
def Wp:=@Array.getElem?_modify
def Wo:=@List.set_append_right
def Wm:=@Array.toList_inj
def Wj:=@List.take_length
def Wh:=@List.mem_flatMap
def Wf:=@List.all_cons
def Wd:=@Obj.cells.injEq
def Wb:=@Array.getElem?_setIfInBounds
def Wa:=@Exit.noGoto_ret
def V':=@List.replicate_succ
def V8:=@UInt8.toNat_ofNat'
def V7:=@Nat.eq_zero_or_pos
def V6:=@Array.toList_setIfInBounds
def V5:=@Nat.add_sub_cancel
def V4:=@Bool.false_eq_true
def V3:=@List.map_replicate
def V2:=@List.getLast?_eq_getElem?
def V1:=@Classical.byContradiction
def V0:=@Bool.eq_false_iff
def VY:=@List.ext_getElem?
def VX:=@List.flatten_cons
def VW:=@Nat.mod_one
def VV:=@DataW.trod_struct
def VU:=@UInt32.toNat_and
def VR:=@Nat.succ_lt_succ
def VQ:=@List.prefix_iff_eq_take
def VO:=@Nat.shiftLeft_eq
def VN:=@Int.eq_ofNat_of_zero_le
def VM:=@List.head?_eq_getElem?
def VK:=@Bool.or_true
def VJ:=@List.drop_eq_nil_of_le
def VI:=@UInt32.toNat_shiftLeft
def VH:=@Nat.mul_succ
def VG:=@List.map_map
def VF:=@List.map_set
def VE:=@List.all_nil
def VD:=@Int.natCast_mul
def VC:=@Bool.or_eq_true
def Vz:=@List.range_succ
def Vx:=@List.takeWhile_prefix
def Vw:=@List.modify_succ_cons
def Vv:=@Classical.choose_spec
def Vu:=@Nat.mul_le_mul
def Vp:=@List.any_cons
def Vo:=@ByteArray.ext
def Vl:=@DataW.trod_lt
def Vk:=@Below.drew
def Vj:=@Int.le_trans
def Vi:=@Nat.lt_trans
def Z9{p:Prop}(h:p:=by omega):p:=h
def Z8{p:Prop}(h:p:=by decide):p:=h
def Z7{p:Prop}(h:p:=by kernel_rfl):p:=h
def Z6{p:Prop}(h:p:=by rw[XK];omega):p:=h
def Z5{p:Prop}(h:p:=by simp):p:=h
def Z4{p:Prop}(h:p:=by first|omega|(simp only[Zn,Ze,YX];omega)):p:=h
def Z3{p:Prop}(h:p:=by simp;omega):p:=h
def Z2{p:Prop}(h:p:=by rw[beq_eq_false_iff_ne];omega):p:=h
def Z1{p:Prop}(h:p:=by go_num):p:=h
def Z0{p:Prop}(h:p:=by simp only[Act.put,Y',Zf,Zg,Zl,Zd,Za]<;>rfl):p:=h
def ZZ{p:Prop}(h:p:=by simp[Value.oneCell']):p:=h
def ZY{p:Prop}(h:p:=by rw[Zi];omega):p:=h
def ZX{p:Prop}(h:p:=by unfold maxLen;omega):p:=h
def ZW{p:Prop}(h:p:=by rw[Zn];rfl):p:=h
def ZV{p:Prop}(h:p:=by unfold Addr.add;split<;>simp_all):p:=h
def ZU{p:Prop}(h:p:=by simp only[XY,Ze,YX,Nat.reduceAdd,Nat.reduceSub]<;>rfl):p:=h
def ZT{p:Prop}(h:p:=by first|(simp only[Zl,Zd,Za]<;>rfl)|rfl):p:=h
def ZS{p:Prop}(h:p:=by rw[WX,XB];omega):p:=h
def ZR{p:Prop}(h:p:=by rw[WN _ (by omega),Yc,XM (by omega)]):p:=h
def ZQ{p:Prop}(h:p:=by rw[Y9];omega):p:=h
def ZP{p:Prop}(h:p:=by assumption):p:=h
def ZO{p:Prop}(h:p:=by rw[Zn];omega):p:=h
def ZN{p:Prop}(h:p:=by rw[IntKind.wrap_u64];omega):p:=h
def ZM{p:Prop}(h:p:=by rw[Ze];omega):p:=h
def ZL{p:Prop}(h:p:=by split<;>assumption):p:=h
def ZK{p:Prop}(h:p:=by simpa[Y8]using·):p:=h
def ZJ{p:Prop}(h:p:=by simp[results,results80,go_sem];try rfl):p:=h
def ZI{p:Prop}(h:p:=by rw[Yc,XM (by omega)]):p:=h
def ZH{p:Prop}(h:p:=by rw[bne_iff_ne];omega):p:=h
def ZG{p:Prop}(h:p:=by rw[ByteArray.size_extract];omega):p:=h
def ZF{p:Prop}(h:p:=by rw[Y9,Y9];omega):p:=h
def ZE{p:Prop}(h:p:=by rw[<-UInt8.toNat_inj];apply propext;omega):p:=h
def ZD{p:Prop}(h:p:=by simp<;>omega):p:=h
def ZC{p:Prop}(h:p:=by show(0:Nat)≠1;omega):p:=h
def ZB{p:Prop}(h:p:=by rw[XX];omega):p:=h
def ZA{p:Prop}(h:p:=by rw[Zi];exact Zq _):p:=h
def Zz{p:Prop}(h:p:=by simp[results,results106,go_sem];try rfl):p:=h
def Zy{p:Prop}(h:p:=by rw[XZ];omega):p:=h
def Zx{p:Prop}(h:p:=by rw[run]):p:=h
def Zw{p:Prop}(h:p:=by simp[results,results99,go_sem];try rfl):p:=h
def Zv{p:Prop}(h:p:=by decide+kernel):p:=h
def Zu{p:Prop}(h:p:=by split<;>omega):p:=h
def Zt{p:Prop}(h:p:=by simp[go_sem]):p:=h
instance:Coe Int Value:=⟨.int .i64⟩
instance:Coe Nat Value:=⟨λn=>.int .i64 n⟩
instance:Coe ByteArray Value:=⟨.string⟩
instance:Coe Bool Value:=⟨.bool⟩
instance:Coe UInt32 Value:=⟨λv=>.int .u32 v.toNat⟩
instance:Coe World Nat:=⟨λw=>w.heap.size⟩
instance:Coe Nat Addr:=⟨λb=>⟨b,0,none⟩⟩
structure U9
def U8:U9:=⟨⟩
instance:Coe U9 Value:=⟨λ_=>.int .u32 0⟩
structure U7
def U6:U7:=⟨⟩
instance:Coe U7 Value:=⟨λ_=>.int .i64 0⟩
structure U5
def U4:U5:=⟨⟩
instance:Coe U5 Value:=⟨λ_=>.slice none 0 0⟩
structure U3
def U2:U3:=⟨⟩
instance:Coe U3 Value:=⟨λ_=>.string ⟨#[]⟩⟩
structure U1
def U0:U1:=⟨⟩
instance:CoeSort U1 Type:=⟨λ_=>World⟩
instance:Coe U1 Type:=⟨λ_=>World⟩
structure UZ
def UY:UZ:=⟨⟩
instance:CoeSort UZ Type:=⟨λ_=>Value⟩
instance:Coe UZ Type:=⟨λ_=>Value⟩
structure UX
def UW:UX:=⟨⟩
instance:CoeSort UX Type:=⟨λ_=>ByteArray⟩
instance:Coe UX Type:=⟨λ_=>ByteArray⟩
structure UU
def UT:UU:=⟨⟩
instance:CoeSort UU Type:=⟨λ_=>UInt32⟩
instance:Coe UU Type:=⟨λ_=>UInt32⟩
structure US
def UR:US:=⟨⟩
instance:CoeSort US Type:=⟨λ_=>Option Addr⟩
instance:Coe US Type:=⟨λ_=>Option Addr⟩
structure UQ
def UP:UQ:=⟨⟩
instance:CoeSort UQ Type:=⟨λ_=>Array Value⟩
instance:Coe UQ Type:=⟨λ_=>Array Value⟩
structure UO
def UN:UO:=⟨⟩
instance:CoeSort UO Type:=⟨λ_=>List Value⟩
instance:Coe UO Type:=⟨λ_=>List Value⟩
structure UM
def UL:UM:=⟨⟩
instance:CoeSort UM Type:=⟨λ_=>List UInt8⟩
instance:Coe UM Type:=⟨λ_=>List UInt8⟩
structure UK
def UJ:UK:=⟨⟩
instance:CoeSort UK Type:=⟨λ_=>List UInt32⟩
instance:Coe UK Type:=⟨λ_=>List UInt32⟩
structure UI
def UH:UI:=⟨⟩
instance:CoeSort UI Type:=⟨λ_=>Nat->Prop⟩
instance:Coe UI Type:=⟨λ_=>Nat->Prop⟩
structure UG
def UF:UG:=⟨⟩
instance:CoeSort UG Type:=⟨λ_=>TypeId⟩
instance:Coe UG Type:=⟨λ_=>TypeId⟩
structure UE
def UD:UE:=⟨⟩
instance:CoeFun UE (λ_=>FuncId->Array Value->World->(Ending->World->Prop)->Prop):=⟨λ_=>Calls Go.Proofs.Tryz.prog⟩
structure UC
def UB:UC:=⟨⟩
instance:CoeFun UC (λ_=>Nat->World->World->Prop):=⟨λ_=>Below⟩
instance:CoeFun World (λ_=>Addr->Option Value):=⟨World.cell?⟩
structure UA
def Uz:UA:=⟨⟩
instance:CoeFun UA (λ_=>Option Addr->Nat->Nat->Value):=⟨λ_=>.slice⟩
structure Uy
def Ux:Uy:=⟨⟩
instance:CoeFun Uy (λ_=>Option Addr->Value):=⟨λ_=>.pointer⟩
structure Uw
def Uv:Uw:=⟨⟩
instance:CoeFun Uw (λ_=>Value->Ending):=⟨λ_=>.returned⟩
structure Uu
def Ut:Uu:=⟨⟩
instance:CoeFun Uu (λ_=>Array Value->Value):=⟨λ_=>.tuple⟩
structure Ur
def Uq:Ur:=⟨⟩
instance:CoeFun Ur (λ_=>World->Obj->World):=⟨λ_=>World.alloc⟩
structure Up
def Uo:Up:=⟨⟩
instance:CoeFun Up (λ_=>World->Addr->Value->World):=⟨λ_=>World.setCell⟩
structure Un
def Um:Un:=⟨⟩
instance:Coe Un (Option Nat):=⟨λ_=>none⟩
instance{α:Type}:CoeOut (List α) Nat:=⟨List.length⟩
instance{α:Type}:CoeOut (Array α) Nat:=⟨Array.size⟩
instance:Coe ByteArray (List UInt8):=⟨λs=>s.data.toList⟩
instance:Coe ByteArray Nat:=⟨ByteArray.size⟩
instance:Coe UInt32 Nat:=⟨UInt32.toNat⟩
instance:Coe UInt8 Nat:=⟨UInt8.toNat⟩
end Go.Proofs.YtoenedcfojlooaaGreatDoor
