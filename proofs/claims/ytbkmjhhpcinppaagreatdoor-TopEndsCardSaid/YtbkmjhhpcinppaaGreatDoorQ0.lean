import Derived.ArgAppend
import Derived.BigQuiet
import Derived.ChangeOld
import Derived.ChangeSame
import Derived.ChangeVars
import Derived.Deep.DeepCutAuto
import Derived.Deep.MidRow
import Derived.Deep.QuietTactic
import Derived.Deep.RegionHeld
import Derived.Deep.RegionHeld3
import Derived.Deep.RegionLaw
import Derived.Deep.RegionWith
import Derived.Deep.SlicePairs
import Derived.JoinedOf
import Derived.LaidEql
import Derived.LaidHandle
import Derived.LaidLaws
import Derived.Laws.AppendOwnNone
import Derived.Laws.EntriesVeiled
import Derived.Laws.MakeOwn
import Derived.Laws.StructEq
import Derived.Lib.Hide
import Derived.Lib.SmallJoins
import Derived.Maps.AppendAt
import Derived.Maps.Keyed
import Derived.Maps.OwnSet
import Derived.Maps.Range
import Derived.Maps.RangeWalk
import Derived.OneCell
import Derived.OpenShut
import Derived.OrdersHeld
import Derived.ProofKit
import Derived.RowKit
import Derived.RowKitTokens
import Derived.SevenTiedAt
import Derived.ShutString
import Derived.SizedLaws
import Derived.StillTailTactics
import Derived.Stop.Asserts
import Derived.Stop.Joined
import Derived.Test.YtbkmjhhpcinppaaGreatDoorRows
import Derived.WalkKit
import Derived.WalkLawsBesides
import Derived.WalkSpells
namespace Go.Proofs.YtbkmjhhpcinppaaGreatDoor
set_option linter.unusedVariables false
set_option linter.defProp false
set_option linter.unusedSimpArgs false
set_option maxRecDepth 100000
set_option maxHeartbeats 40000000
open Go.BigFrame Go.RowKit Go.WideShapes
instance:Coe (List Value) (Array Value):=⟨List.toArray⟩
instance:Coe World Nat:=⟨fun a=>a.heap.size⟩
instance:Coe Nat Addr:=⟨fun b=>⟨b,0,none⟩⟩
instance:Coe Int Value:=⟨.int .i64⟩
instance:Coe ByteArray Value:=⟨.string⟩
instance:Coe Bool Value:=⟨.bool⟩
def kb:= @if_true
def aS:= @if_neg
def ke:= @decide_eq_true_eq
def hH:= @decide_eq_false_iff_not
def a9:= @if_pos
def fY:= @List.length_cons
def dC:= @Nat.lt_or_ge
def rZ:= @List.take_succ_cons
def uQ:= @List.setIfInBounds_toArray
def uU:= @Go.World.drewN_drewN
def aG:= @Nat.le_refl
def rA:= @Nat.add_assoc
def hj:= @Array.getElem?_eq_none
def uA:= @Array.length_toList
def h2:= @List.getD_eq_getElem?_getD
def cP:= @List.getElem?_eq_getElem
def aJ:= @Nat.zero_le
def N:= @Go.Lib.hid
def iY:= @Bool.eq_iff_iff
def rN:= @UInt8.lt_iff_toNat_lt
def ma:= @beq_iff_eq
def ey:= @beq_eq_false_iff_ne
def dp:= @decide_eq_true_iff
def fP:= @Int.eq_ofNat_of_zero_le
def jD:= @Go.World.cell?_alloc_new
def oh:= @Go.wpQuiet_nil
def dz:= @decide_eq_false
def eo:= @decide_eq_true
def bd:= @List.mem_cons
def cv:= @Nat.zero_add
def rU:= @List.getElem?_take_of_lt
def kN:= @List.getElem?_append_left
def jE:= @List.getElem?_append_right
def dR:= @Nat.lt_of_lt_of_le
def kO:= @Go.info_parts
def dG:= @List.length_append
def oj:= @Go.Proofs.Tryz.underlying37
def gH:= @List.length_eq_zero_iff
def gm:= @Nat.eq_zero_or_pos
def om:= @List.take_succ_eq_append_getElem
def uN:= @List.map_append
def oo:= @List.flatten_append
def mS:= @List.take_length
def jF:= @List.take_append_drop
def kP:= @Go.RowKit.Below.grown
def rV:= @List.getElem?_drop
def hl:= @List.length_drop
def iz:= @Option.map_some
def bZ:= @Nat.le_trans
def uO:= @Go.run_append_owned_none
def rW:= @Go.wpList_plain
def bH:= @Go.bodyPost_ret
def jG:= @Nat.zero_mul
def gI:= @Nat.add_zero
def pN:= @Go.Proofs.Tryz.func95
def pO:= @Go.Proofs.Tryz.ntmps95
def cu:= @List.mem_append
def fZ:= @Bool.and_eq_true
def gn:= @List.filter_append
def kg:= @List.length_filter_le
def pP:= @List.take_of_length_le
def rX:= @List.take_left'
def oq:= @List.getElem_of_mem
def lp:= @List.pairwise_iff_getElem
def rY:= @Nat.add_sub_cancel
def hI:= @List.getElem_mem
def hJ:= @List.pairwise_cons
def uP:= @List.drop_succ_cons
def gJ:= @List.nil_append
def pQ:= @List.cons_append
def kQ:= @List.drop_eq_getElem_cons
def lq:= @List.append_assoc
def aO:= @List.mem_singleton
def pR:= @List.drop_sublist
def me:= @List.append_nil
def bB:= @congrArg
def r0:= @List.find?_eq_none
def lr:= @List.find?_append
def h6:= @List.pairwise_append
def pS:= @List.pairwise_singleton
def mT:= @List.all_eq_true
def mU:= @List.mem_of_mem_take
def pT:= @List.mem_of_mem_drop
def uR:= @List.Sublist.refl
def uS:= @List.drop_drop
def e0:= @Go.IntWalk.i64_in
def uT:= @Go.World.cell?_of_block
def ot:= @Go.World.cell?_setCell_other
def jH:= @Go.cell_of_one
def kR:= @Nat.le_add_right
def z2:= @Array.getElem?_setIfInBounds
def eS:= @Option.some.injEq
def c3:= @List.getElem?_eq_some_iff
def mV:= @List.getElem?_cons_zero
def uV:= @List.flatten_cons
def jI:= @Nat.add_mul
def iA:= @Go.Value.slice.injEq
def kS:= @Nat.mul_le_mul_right
def mW:= @List.getElem?_map
def uW:= @List.getElem?_range
def pA:= @List.mem_iff_getElem
def pB:= @Nat.mul_comm
def n4:= @Go.Sem.run_bind
def uy:= @Go.Result.andThen_ok
def uz:= @List.map_toArray
def kc:= @List.map_cons
def rz:= @List.map_nil
def pC:= @Option.isSome_iff_exists
def zU:= @Array.getElem?_eq_getElem
def l5:= @List.getElem?_set_self
def ll:= @List.getElem?_set_ne
def jz:= @List.length_set
def rB:= @Go.World.rangeAt_setCells_same
def rC:= @Go.World.there_setCells
def eg:= @Go.World.rangeAt_setCells_apart
def kD:= @Go.run_loadVar_mid
def fX:= @Go.wpAnyH_take
def rD:= @Array.getElem?_modify
def n5:= @Go.Proofs.Tryz.func72
def n6:= @Go.Proofs.Tryz.ntmps72
def hG:= @Nat.le_of_eq
def e8:= @Go.wpList_load_mid
def dn:= @Go.Proofs.Tryz.underlying119
def dY:= @Go.wpList_store_mid
def rE:= @Bool.not_false
def pD:= @Bool.not_true
def rF:= @List.length_pos_iff
def rG:= @List.drop_eq_nil_of_le
def kE:= @List.mem_map
def iV:= @List.mem_of_getElem?
def uB:= @List.getLast?_eq_getElem?
def fM:= @List.length_map
def fm:= @List.length_take
def uC:= @List.length_singleton
def cG:= @Go.Proofs.Tryz.underlying85
def mJ:= @Int.le_refl
def dk:= @Nat.lt_irrefl
def fE:= @Nat.le_of_lt
def rH:= @List.mem_cons_self
def rI:= @Option.map_none
def mK:= @Prod.mk.injEq
def fo:= @Option.some.inj
def c0:= @List.not_mem_nil
def db:= @or_false
def pE:= @List.filter_eq_nil_iff
def mL:= @List.filter_congr
def iW:= @List.mem_append_left
def n7:= @List.cons.injEq
def rJ:= @List.findIdx?_eq_some_iff_getElem
def zV:= @Option.isNone_iff_eq_none
def zW:= @List.set_eq_take_append_cons_drop
def h3:= @List.filter_cons
def fN:= @List.nodup_cons
def iX:= @List.nodup_nil
def kd:= @Int.toNat_natCast
def kF:= @Option.getD_some
def h4:= @List.nodup_iff_pairwise_ne
def l6:= @List.pairwise_map
def gW:= @List.mem_filter
def lm:= @List.mem_range
def gG:= @Go.wp_region_held_drew
def cj:= @Go.yieldsIf_load_mid
def cL:= @Go.wpAnyH_ready
def cy:= @Go.AllReadyH.cons
def cM:= @Go.AllReadyH.nil
def dQ:= @Go.wp_store_mid
def fx:= @Go.wpAnyH_done
def mM:= @List.length_range
def uD:= @Go.DataW.trod_struct
def pF:= @Go.Proofs.Tryz.underlying40
def l7:= @Go.DataW.trod_int
def jA:= @Go.Proofs.Tryz.underlying3
def rK:= @Go.Proofs.Tryz.underlying27
def fO:= @Go.Proofs.Tryz.underlying23
def uE:= @List.getLast?_singleton
def l8:= @List.sum_cons
def rL:= @List.filter_eq_self
def jB:= @Nat.lt_of_le_of_lt
def uF:= @List.getElem_take
def uG:= @List.filter_sublist
def n8:= @Nat.one_mul
def ln:= @List.length_replicate
def rM:= @List.getElem?_take
def pG:= @Nat.min_eq_left
def pH:= @Go.Proofs.Tryz.underlying139
def dB:= @Go.Proofs.Tryz.underlying95
def mN:= @Go.Proofs.Tryz.underlying174
def n9:= @Go.ready_mono
def mO:= @Go.mem_ready
def jC:= @Go.getD_set_ne
def rO:= @Array.any_eq_true'
def uH:= @Go.Region.noSelect_spec
def uI:= @Go.Region.free_spec
def l9:= @Go.wpOp_step
def rP:= @Go.Proofs.Tryz.ntmps107
def zX:= @Decidable.byContradiction
def gl:= @Nat.le_succ
def oc:= @Nat.lt_succ_self
def dm:= @Go.Proofs.Tryz.underlying78
def zY:= @List.findIdx?_eq_none_iff
def h5:= @List.mem_cons_of_mem
def zZ:= @Option.isNone_eq_false_iff
def kH:= @List.take_add_one
def dt:= @Go.Proofs.Tryz.underlying170
def hk:= @List.mem_append_right
def uJ:= @of_decide_eq_true
def z1:= @List.sublist_append_right
def kI:= @List.nodup_append
def pI:= @Go.Proofs.Tryz.func184
def pJ:= @Go.Proofs.Tryz.ntmps184
def uK:= @Go.IntWalk.i64_left
def eG:= @Go.Proofs.Tryz.underlying239
def od:= @Go.Proofs.Tryz.underlying83
def uL:= @List.size_toArray
def mb:= @Go.Proofs.Tryz.func156
def mc:= @Go.Proofs.Tryz.ntmps156
def kJ:= @Go.Proofs.Tryz.underlying44
def kK:= @Go.Proofs.Tryz.underlying253
def uM:= @List.drop_left'
def pK:= @Go.Proofs.Tryz.func138
def pL:= @Go.Proofs.Tryz.ntmps138
def rQ:= @Nat.lt_trans
def pM:= @Go.Proofs.Tryz.func207
def rR:= @Go.Proofs.Tryz.ntmps207
def rS:= @Go.Proofs.Tryz.underlying284
def mP:= @Go.Proofs.Tryz.func131
def mQ:= @Go.Proofs.Tryz.ntmps131
def mR:= @Go.Proofs.Tryz.underlying97
def kL:= @Go.Proofs.Tryz.func103
def kM:= @Go.Proofs.Tryz.ntmps103
def oe:= @Go.Proofs.Tryz.func124
def og:= @Go.Proofs.Tryz.ntmps124
def rT:= @Nat.sub_le
def kf:= @Go.run_callFunc_extern
theorem G{p:Prop}(a:p:=by kernel_rfl):p:=a
theorem K{p:Prop}(a:p:=by omega):p:=a
theorem J{p:Prop}(a:p:=by simp):p:=a
theorem iC{p:Prop}(a:p:=by repeat (first|with_reducible exact cR.refl _|with_reducible refine cR.step ?_ _|with_reducible refine cR.drew ?_|(with_reducible refine cR.trans ?_ (by assumption)))):p:=a
theorem aq{p:Prop}(a:p:=by rfl):p:=a
theorem c4{p:Prop}(a:p:=by unfold maxLen;omega):p:=a
theorem du{p:Prop}(a:p:=by simp[Value.oneCell']):p:=a
theorem ch{p:Prop}(a:p:=by assumption):p:=a
theorem hK{p:Prop}(a:p:=by simp[go_sem,cF,sU]):p:=a
theorem cJ{p:Prop}(a:p:=by simp;omega):p:=a
theorem dW{p:Prop}(a:p:=by rw[dL]):p:=a
theorem bP{p:Prop}(a:p:=by decide):p:=a
theorem dh{p:Prop}(a:p:=by(exact bz)):p:=a
theorem gX{p:Prop}(a:p:=by show 0≤1000;omega):p:=a
theorem uX{p:Prop}(a:p:=by simp only[fN,aO,c0,not_false_eq_true,iX,and_true];omega):p:=a
theorem gY{p:Prop}(a:p:=by show 0≤100;omega):p:=a
theorem kT{p:Prop}(a:p:=by rw[dL,dL]):p:=a
theorem hn{p:Prop}(a:p:=by simp+contextual):p:=a
theorem lu{p:Prop}(a:p:=by rw[fm];omega):p:=a
theorem mf{p:Prop}(a:p:=by rw[ey];omega):p:=a
theorem iB{p:Prop}(a:p:=by(exact bz);done):p:=a
theorem IX{p:Prop}(a:p:=by with_unfolding_all exact rfl):p:=a
theorem ho{p:Prop}(a:p:=by simp[go_sem]):p:=a
theorem pU{p:Prop}(a:p:=by rw[dL,dL,dL]):p:=a
theorem e9{p:Prop}(a:p:=by go_num):p:=a
theorem IY{p:Prop}(a:p:=by(try simp only[bu]);exact rfl):p:=a
theorem mg{p:Prop}(a:p:=by simp[sU]):p:=a
theorem r1{p:Prop}(a:p:=by rw[dp];omega):p:=a
theorem z4{p:Prop}(a:p:=by simp only[gj,fY,dG];omega):p:=a
theorem IZ{p:Prop}(a:p:=by exact fun _ _ _ a=>a):p:=a
theorem I0{p:Prop}(a:p:=by exact .inl ⟨by rfl,by intro c b;clear b;go_simp⟩):p:=a
theorem pV{p:Prop}(a:p:=by show 0≤maxLen;omega):p:=a
theorem r2{p:Prop}(a:p:=by rw[iu];kernel_rfl):p:=a
theorem r3{p:Prop}(a:p:=by simp[sU];omega):p:=a
theorem uZ{p:Prop}(a:p:=by unfold World.setCell;simp):p:=a
end Go.Proofs.YtbkmjhhpcinppaaGreatDoor
