import Derived.WalkKit
import Derived.WalkSpells
import Derived.WalkLawsBesides
import Derived.Lib.Hide
import Derived.Deep.QuietTactic
import Derived.BigQuiet
import Derived.Deep.AppendLies
import Derived.Deep.Draws
import Derived.Laws.OwnMore
import Derived.Laws.Rows
import Derived.KernelRfl
import Derived.Laws.BytesArg
import Derived.StillTailTactics
import Derived.OrdersHeld
import Derived.Test.YtbfnfkppkmpieaaGreatProg
import Derived.Lib.Strings
import Derived.Lib.EndianBits
import Derived.Deep.CutBlock
import Derived.Deep.DeepCutAuto
import Derived.Deep.LoopGhost
import Derived.Shelf.Small.Bits
import Derived.Lib.ItoaNum
import Derived.Maps.OwnOps
import Derived.Maps.Views
import Derived.StringKeys
import Derived.Deep.WholeRow
import Derived.Test.YtbfnfkppkmpieaaGreatChecked
import GoSem.Claim
import GoSem.ClaimJoined
import GoSem.ClaimMapViews
import Derived.JoinedTies
import Derived.Test.YtbfnfkppkmpieaaGreatRows
import Derived.ProofKit
import Derived.Lib.SmallJoins
import Derived.Deep.Slices
import Derived.Deep.Fields
import Derived.ChangeSame
import Derived.Deep.Strs
import Derived.Deep.Grids
import Derived.WalkMore
import Derived.Laws.CopyRow
import Derived.Deep.MidRow
import Derived.Deep.AppendSrc
set_option linter.unusedVariables false
set_option linter.unusedSimpArgs false
set_option maxHeartbeats 25600000
set_option maxRecDepth 200000
set_option linter.defProp false
namespace Go.Proofs
open Go.Shelf
def Tryz.lays128_ren : Go.Shelf.Ren := ⟨fun | 128 => 227 | n => n, fun | 51 => 208 | 3 => 3 | 4 => 4 | 46 => 236 | 5 => 5 | 9 => 9 | n => n, fun | n => n⟩
theorem Tryz.lays128 : Go.Proofs.Lays.n128 Tryz.prog Tryz.lays128_ren := {
 mixed := by kernel_rfl
 f128 := Tryz.func227.trans (congrArg some (by kernel_rfl))
 t3 := Tryz.underlying3
 a3 := Tryz.isAgg3
 z3 := Tryz.sizeOf3
 v3 := Tryz.zeroValue3
 t4 := Tryz.underlying4
 a4 := Tryz.isAgg4
 z4 := Tryz.sizeOf4
 v4 := Tryz.zeroValue4
 t5 := Tryz.underlying5
 a5 := Tryz.isAgg5
 z5 := Tryz.sizeOf5
 v5 := Tryz.zeroValue5
 t9 := Tryz.underlying9
 a9 := Tryz.isAgg9
 z9 := Tryz.sizeOf9
 v9 := Tryz.zeroValue9
 t46 := Tryz.underlying236
 a46 := Tryz.isAgg236
 z46 := Tryz.sizeOf236
 v46 := Tryz.zeroValue236
 t51 := Tryz.underlying208
 a51 := Tryz.isAgg208
 z51 := Tryz.sizeOf208
 v51 := Tryz.zeroValue208 }
theorem Tryz.bits_Len32 (x : Int) (w : World) (h0 : 0 ≤ x) (h1 : x ≤ 4294967295) :
   Calls Tryz.prog 227 #[.int .u32 x] w fun e w' => e = .returned (.int .i64 (Lib.bitLen x.toNat)) ∧ w' = w := Any.bits_Len32 Tryz.lays128 x w h0 h1
def Tryz.lays133_ren : Go.Shelf.Ren := ⟨fun | 133 => 219 | 128 => 227 | n => n, fun | 51 => 208 | 3 => 3 | 4 => 4 | 46 => 236 | 5 => 5 | 9 => 9 | n => n, fun | n => n⟩
theorem Tryz.lays133 : Go.Proofs.Lays.n133 Tryz.prog Tryz.lays133_ren := {
 mixed := by kernel_rfl
 f128 := Tryz.func227.trans (congrArg some (by kernel_rfl))
 f133 := Tryz.func219.trans (congrArg some (by kernel_rfl))
 t3 := Tryz.underlying3
 a3 := Tryz.isAgg3
 z3 := Tryz.sizeOf3
 v3 := Tryz.zeroValue3
 t4 := Tryz.underlying4
 a4 := Tryz.isAgg4
 z4 := Tryz.sizeOf4
 v4 := Tryz.zeroValue4
 t5 := Tryz.underlying5
 a5 := Tryz.isAgg5
 z5 := Tryz.sizeOf5
 v5 := Tryz.zeroValue5
 t9 := Tryz.underlying9
 a9 := Tryz.isAgg9
 z9 := Tryz.sizeOf9
 v9 := Tryz.zeroValue9
 t46 := Tryz.underlying236
 a46 := Tryz.isAgg236
 z46 := Tryz.sizeOf236
 v46 := Tryz.zeroValue236
 t51 := Tryz.underlying208
 a51 := Tryz.isAgg208
 z51 := Tryz.sizeOf208
 v51 := Tryz.zeroValue208 }
theorem Tryz.bits_LeadingZeros32 (x : Int) (w : World) (h0 : 0 ≤ x) (h1 : x ≤ 4294967295) :
   Calls Tryz.prog 219 #[.int .u32 x] w fun e w' => e = .returned (.int .i64 (32 - (Lib.bitLen x.toNat : Int))) ∧ w' = w := Any.bits_LeadingZeros32 Tryz.lays133 x w h0 h1
end Go.Proofs
namespace Go.Proofs.YtbfnfkppkmpieaaGreat
open Go.RowKit
open Go.Proofs.Tryz
open Option renaming some->γ,none->δ
open Bool renaming true->ε,false->ζ
open Inhabited renaming default->η
open Value renaming slice->aO
open World renaming alloc->aU
def θ:=@if_neg
def ι:=@if_pos
def κ:=@Nat.le_refl
def μ:=@List.getElem?_eq_some_iff
def ν:=@List.getElem?_eq_getElem
def ξ:=@List.drop_succ_cons
def ο:=@Nat.lt_of_lt_of_le
def π:=@decide_eq_false
def ρ:=@Bool.and_eq_true
def σ:=@List.getD_eq_getElem?_getD
def τ:=@List.drop_zero
def υ:=@wpList_load_mid
def φ:=@Nat.mul_assoc
def χ:=@List.take_of_length_le
def ψ:=@Nat.lt_of_le_of_lt
def ω:=@Nat.mul_add
def Γ:=@List.getElem?_toArray
def Δ:=@decide_eq_true
def Θ:=@decide_eq_true_eq
def Λ:=@List.getElem?_append_left
def Ξ:=@Nat.le_trans
def Ω:=@Nat.mul_le_mul_left
def aQ:=@List.setIfInBounds_toArray
def kC:=@List.getElem?_append_right
def lh:=@List.mem_cons
def nk:=@Int.mul_ne_zero
def nC:=@List.mem_cons_of_mem
def nG:=@Nat.mul_comm
def nH:=@List.length_append
def nV:=@List.length_cons
def pq:=@Nat.mul_le_mul_right
def pz:=@Nat.mod_lt
def qa:=@List.getElem?_eq_none
def qb:=@List.all_eq_true
def q8:=@List.mem_cons_self
def q9:=@Nat.zero_le
def wo:=@List.mem_of_getElem?
def wN:=@Nat.pow_succ
def xx:=@Proofs.Tryz.underlying102
def z8:=@List.getElem?_map
def Aa:=@IntWalk.wrap64_in
def Ab:=@Nat.pow_le_pow_right
def Ad:=@List.size_toArray
def A8:=@Proofs.Tryz.underlying45
def Be:=@List.length_take
def Bn:=@Nat.eq_zero_or_pos
def BB:=@List.set_cons_succ
def De:=@List.set_cons_zero
def Ej:=@Int.natAbs_mul
def Ex:=@Int.toNat_natCast
def Ha:=@Nat.gcd_dvd_left
def HV:=@List.append_assoc
def I4:=@Nat.add_zero
def I5:=@List.eq_nil_of_length_eq_zero
def I6:=@List.not_mem_nil
def KP:=@Nat.pow_pos
def Na:=@Nat.lt_or_ge
def Nq:=@List.mem_map
def NK:=@List.getElem?_take_of_lt
def PI:=@World.ownsRow_nil
def RS:=@Bool.false_eq_true
def Zb:=@List.getElem?_drop
def Z4:=@Nat.add_mul
def Z5:=@decide_eq_false_iff_not
def Z6:=@List.append_nil
def aaa:=@Nat.mul_le_mul
def aab:=@Int.ofNat_dvd_left
def aac:=@Rat.intCast_mul
def aad:=@List.map_append
def aae:=@Nat.dvd_trans
def aaf:=@List.getElem?_set_ne
def aag:=@if_true
def aah:=@Nat.gcd_dvd_right
def aai:=@Proofs.Tryz.underlying44
def aaj:=@Nat.le_of_lt
def aak:=@bodyPost_ret
def aal:=@List.drop_eq_nil_of_le
def aam:=@List.ext_getElem?
def aan:=@Nat.zero_add
def aao:=@Nat.min_eq_left
def aap:=@Nat.pow_add
def aaq:=@Nat.mul_one
def aar:=@List.length_map
def aas:=@RowKit.Below.heap_alloc
def aat:=@results_none
def aau:=@Array.getElem?_eq_none
def aav:=@List.mem_range
def aaw:=@Nat.one_mul
def aax:=@Result.andThen_ok
def aay:=@Option.some.injEq
def aaz:=@List.take_succ_cons
def aaA:=@List.getElem?_range
def aaB:=@List.mem_map_of_mem
def aaC:=@List.drop_eq_getElem_cons
def aaD:=@Sem.run_bind
def aaE:=@Nat.gcd_comm
def aaF:=@Region.noSelect_spec
def aaG:=@IntWalk.u64_in
def aaH:=@List.mem_append
def aaI:=@Calls.quiet_of_same
def aaJ:=@List.replicate_succ
def aaK:=@Array.getElem?_eq_some_iff
def aaL:=@Int.mul_assoc
def aaM:=@or_false
def aaN:=@List.take_succ_eq_append_getElem
def aaO:=@Nat.mod_eq_of_lt
def aaP:=@Proofs.Tryz.underlying4
def aaQ:=@Nat.div_lt_iff_lt_mul
def aaR:=@Rat.mul_nonneg
def aaS:=@Lib.run_eql_slice_nil
def aaT:=@Proofs.Tryz.underlying167
def aaU:=@getD_replicate_false
def aaV:=@Nat.zero_mul
def aaW:=@Nat.sub_self
def aaX:=@List.nil_append
def aaY:=@bodyPost_end
def aaZ:=@World.ownsRow_lit
def aa0:=@of_decide_eq_true
def aa1:=@DataW.trod_struct
def aa2:=@List.getElem?_cons_succ
def aa3:=@List.replicate_zero
def aa4:=@Region.free_spec
def aa5:=@IntWalk.i64_in
def aa6:=@wpQuiet_nil
def aa7:=@Sem.run_pure
def aa8:=@Nat.mul_lt_mul_of_pos_right
def aa9:=@Proofs.Tryz.underlying187
def aba:=@Rat.intCast_add
def abb:=@List.length_set
def abd:=@Int.tmod_eq_emod_of_nonneg
def abe:=@Nat.mul_left_comm
def abf:=@Nat.eq_of_mul_eq_mul_left
def abg:=@run_underlying
def abh:=@List.take_zero
def abj:=@Int.mul_le_mul
def abk:=@Nat.lt_trans
def abl:=@Nat.add_comm
def abm:=@Nat.div_eq_of_lt
def abn:=@Int.natCast_ediv
def abo:=@Int.mul_ediv_cancel_left
def abp:=@Nat.lt_succ_self
def abq:=@List.getElem_mem
def abr:=@List.take_set_of_le
def abt:=@Nat.gcd_pos_of_pos_left
def abu:=@Ne.symm
def abv:=@Bool.true_and
def abw:=@Rat.mul_eq_zero
def abx:=@Nat.div_add_mod
def aby:=@Proofs.Tryz.underlying183
def abz:=@Option.map_eq_some_iff
def abA:=@Nat.le_mul_of_pos_left
def abB:=@List.getElem?_set_self
def abC:=@Int.mul_left_comm
def abD:=@Int.natAbs_sub_le
def abE:=@Proofs.Tryz.underlying99
def abF:=@Proofs.Tryz.underlying42
def abG:=@Int.ediv_eq_iff_eq_mul_right
def abH:=@List.set_append_right
def abI:=@Int.mul_nonneg
def abJ:=@mem_ready
def abK:=@List.length_drop
def abL:=@info_parts
def abM:=@List.cons_append
def abN:=@Nat.gcd_mul_left
def abO:=@List.getElem?_of_mem
def abP:=@wpList_mapUpdate_own
def abQ:=@List.all_cons
def abR:=@List.map_cons
def abS:=@Int.tdiv_eq_ediv_of_nonneg
def abT:=@Array.getElem?_setIfInBounds_self_of_lt
def abU:=@Nat.mul_two
def abV:=@Rat.intCast_sub
def abW:=@List.range_succ
def abX:=@List.getLast?_eq_getElem?
def abY:=@Nat.lt_of_mul_lt_mul_left
def abZ:=@RowKit.Below.heap_setCell
def ab0:=@if_false
def ab1:=@List.eq_of_mem_replicate
def ab2:=@Int.sub_eq_add_neg
def ab3:=@seqB_ready
def ab4:=@Bool.false_and
def ab5:=@plainElem_bool
def ab6:=@Nat.lt_trichotomy
def ab7:=@Int.natAbs_add_le
def ab8:=@Proofs.Tryz.underlying38
def ab9:=@Proofs.Tryz.underlying57
def aca:=@Nat.lt_succ_of_lt
def acb:=@Nat.le_succ
def acd:=@Int.neg_dvd
def ace:=@Nat.add_assoc
def acf:=@Addr.mk.injEq
def acg:=@Nat.gcd_assoc
def ach:=@List.take_length
def aci:=@List.take_append_drop
def acj:=@Array.getElem?_setIfInBounds_ne
def ack:=@Int.mul_eq_zero
def acl:=@RowKit.Below.refl
def acm:=@Bool.or_eq_true
def acn:=@ready_mono
def aco:=@wpAny_of_seq
def acp:=@Array.eq_empty_of_size_eq_zero
def acr:=@Nat.mul_add_div
def acs:=@Int.ediv_nonneg
def acu:=@Nat.div_le_self
def acv:=@Proofs.Tryz.ntmps77
def acw:=@Proofs.Tryz.ntmps79
def acx:=@Nat.not_lt_zero
def acy:=@List.mem_filter
def acz:=@World.news_of_block
def acA:=@List.map_congr_left
def acB:=@List.length_pos_iff
def acC:=@World.ownsRow.alloc
def acD:=@List.getElem_of_mem
def acE:=@getD_set_ne
def acF:=@decide_true
def acG:=@Nat.dvd_gcd
def acH:=@Proofs.Tryz.func77
def acI:=@Proofs.Tryz.func79
def acJ:=@wpOp_mono
def acK:=@List.getElem?_take
def acL:=@Nat.gcd_zero_right
def acM:=@Proofs.Tryz.underlying174
def acN:=@wp_region_any
def acO:=@Int.eq_of_mul_eq_mul_right
def acP:=@Bool.true_bne
def acQ:=@Proofs.Tryz.ntmps134
def acR:=@Bool.eq_false_iff
def acS:=@Int.lt_trichotomy
def acT:=@Nat.gcd_mul_right
def acU:=@List.take_add_one
def acV:=@List.foldl_append
def acW:=@Proofs.Tryz.underlying92
def acX:=@Proofs.Tryz.underlying28
def acY:=@Proofs.Tryz.underlying27
def acZ:=@Proofs.Tryz.underlying31
def ac0:=@Proofs.Tryz.underlying96
def ac1:=@Int.mul_neg_of_pos_of_neg
def ac2:=@Int.eq_of_mul_eq_mul_left
def ac3:=@Array.setIfInBounds_comm
def ac4:=@and_true
def ac5:=@Proofs.Tryz.ntmps68
def ac6:=@Nat.dvd_mul_left
def ac7:=@Int.mul_comm
def ac8:=@run_make
def ac9:=@List.mem_flatMap
def ada:=@Proofs.Tryz.underlying9
def adb:=@Proofs.Tryz.ntmps75
def adc:=@Proofs.Tryz.func134
def ade:=@List.filter_cons
def adf:=@List.getLast?_cons_cons
def adg:=@List.getElem?_cons_zero
def adh:=@Nat.mul_add_mod
def adi:=@run_loadVar_row
def adj:=@Proofs.Tryz.func68
def adk:=@Nat.div_div_eq_div_mul
def adl:=@Proofs.Tryz.func75
def adm:=@List.drop_of_length_le
def adn:=@List.singleton_append
def ado:=@Int.natAbs_dvd_natAbs
def adp:=@Nat.mul_div_mul_right
def adq:=@Nat.Coprime.mul_right
def adr:=@List.mem_of_mem_take
def ads:=@List.set_append_left
def adt:=@Nat.add_mul_div_left
def adu:=@Int.ediv_emod_unique
def adv:=@List.forall_mem_cons
def adw:=@ite_self
def adx:=@Proofs.Tryz.ntmps144
def ady:=@Proofs.Tryz.ntmps113
def adz:=@Proofs.Tryz.ntmps216
def adA:=@Proofs.Tryz.ntmps152
def adB:=@bits_join_low
def adC:=@Proofs.Tryz.ntmps180
def adD:=@Proofs.Tryz.ntmps204
def adE:=@Proofs.Tryz.ntmps136
def adF:=@Proofs.Tryz.ntmps132
def adG:=@Proofs.Tryz.ntmps189
def adH:=@Proofs.Tryz.ntmps155
def adI:=@List.flatMap_append
def adJ:=@Nat.lt_mul_div_succ
def adK:=@all_oneCell_toArray
def adL:=@Proofs.Tryz.ntmps31
def adN:=@Proofs.Tryz.func144
def adQ:=@wpList_plain
def adR:=@Proofs.Tryz.ntmps63
def adS:=@Proofs.Tryz.ntmps70
def adT:=@Proofs.Tryz.ntmps67
def adV:=@Rat.le_total
def adW:=@List.map_set
def adX:=@Proofs.Tryz.ntmps97
def adY:=@Proofs.Tryz.func113
def adZ:=@Proofs.Tryz.func216
def ad1:=@decide_false
def ad2:=@Proofs.Tryz.func152
def ad3:=@wraps_u32
def ad4:=@Proofs.Tryz.func180
def ad5:=@Proofs.Tryz.func204
def ad8:=@Int.zero_sub
def aec:=@Proofs.Tryz.func136
def aed:=@Proofs.Tryz.func132
def aee:=@Proofs.Tryz.func189
def aeh:=@Classical.em
def aei:=@List.map_map
def aek:=@Proofs.Tryz.func155
def aen:=@getD_in
def aeE:=@Proofs.Tryz.func31
def aeF:=@Proofs.Tryz.func63
def aeG:=@Proofs.Tryz.func70
def aeH:=@Proofs.Tryz.func67
def aeI:=@Int.one_mul
def aeJ:=@Proofs.Tryz.func97
def aeK:=@Nat.gcd_rec
def aeL:=@setRow_heap
def aeM:=@Rat.mul_pos
def aW{p:Prop}(h:p):Hid p:=Lib.hid h
def _root_.Go.RowKit.Hid.o{p:Prop}(h:Hid p):p:=h.out
instance : Coe Int Value := ⟨.int .i64⟩
instance : Coe Nat Value := ⟨fun k=>.int .i64 k⟩
instance : Coe Bool Value := ⟨.bool⟩
instance : Coe ByteArray Value := ⟨.string⟩
instance : Coe Unit Value := ⟨fun _=>.slice δ 0 0⟩
inductive Mc where
 | aJ
 | aK
 | aQ2
 | aQ3
 | aQ4
 | aQ5
 | aQ6
 | aM (g o : Nat)
 | aN (g o : Nat)
 | aL (w : World) (a : Array Value) (t : Nat)
open Mc
instance : CoeDep Mc aJ Value := ⟨.int .i64 0⟩
instance : CoeDep Mc aK Value := ⟨.int .i64 1⟩
instance : CoeDep Mc aQ2 (Array Value) := ⟨#[.bool ζ,.slice δ 0 0,.bool ζ,.slice δ 0 0]⟩
instance : CoeDep Mc aQ3 (Array Value) := ⟨#[.bool ζ,.slice δ 0 0,.bool ζ,.slice δ 0 0,.bool ζ,.slice δ 0 0]⟩
instance : CoeDep Mc aQ4 (Array Value) := ⟨#[.bool ζ,.slice δ 0 0,.bool ζ,.slice δ 0 0,.bool ζ,.slice δ 0 0,.bool ζ,.slice δ 0 0]⟩
instance : CoeDep Mc aQ5 (Array Value) := ⟨#[.bool ζ,.slice δ 0 0,.bool ζ,.slice δ 0 0,.bool ζ,.slice δ 0 0,.bool ζ,.slice δ 0 0,.bool ζ,.slice δ 0 0]⟩
instance : CoeDep Mc aQ6 (Array Value) := ⟨#[.bool ζ,.slice δ 0 0,.bool ζ,.slice δ 0 0,.bool ζ,.slice δ 0 0,.bool ζ,.slice δ 0 0,.bool ζ,.slice δ 0 0,.bool ζ,.slice δ 0 0]⟩
instance {g o} : CoeDep Mc (aM g o) Addr := ⟨⟨g,o,δ⟩⟩
instance {g o} : CoeDep Mc (aN g o) Value := ⟨.pointer (γ ⟨g,o,δ⟩)⟩
def aT (n : Nat) : Value -> World -> Nat := fun v _=>n-(intOf v).toNat
instance {w a t} : CoeDep Mc (aL w a t) World := ⟨w.alloc (.cells a t)⟩
def AaF{p:Prop}(t:p:=by
 rcases Na j n with h|h
 .exact h
 .exact absurd hj (tail_waits hs hc hn inv _ i rfl D Q j h)):p:=t
def AaX{p:Prop}(t:p:=by rw[aaU] at Z;cases Z):p:=t
def Acb{p:Prop}(t:p:=by cases h):p:=t
def Aci{p:Prop}(t:p:=by simpa using h):p:=t
def Ab5{p:Prop}(t:p:=by
 rw[T] at K;have e:n+(l.toArray.size-n)=l.toArray.size:=by simp at hn⊢;omega
 rw[e] at K;refine acN O ?_;simpa using K):p:=t
def aV{p:Prop}(t:p:=by simp[aT,intOf];omega):p:=t
def Abi{p:Prop}(t:p:=by assumption):p:=t
def Aad{p:Prop}(t:p:=by
 obtain⟨k,hk,rfl,ht⟩:=hrel;have HT:=aW ht;clear ht;by_cases Yp:k<s.size
 .have Yu:=Nl Yp;obtain⟨l,Yr⟩:∃n,wJ s k=n:=⟨_,rfl⟩;have Yw:l<256:=by rw[<-Yr];exact Ew s k
  have Y:=aW (MX Yr);rw[Yr] at Yu;clear Yr;by_cases Ze:k=0
  .subst Ze;by_cases M:l<=47
   .skip;obtain⟨S,L,V,C,P,D,G,B,Q,H,T,J,N,K,R,F,O,U,I⟩:=nc0 l aa aa;have HG:Hid (jd s 0=ζ):=aW (by rw[Y.o];simp[dS,eQ];omega);go_wp2;go_ret;exact⟨bE (dQ Yp HG.o).symm,rfl⟩
   have g0:47<l:=aa;clear M;by_cases W:l<=57
   .skip;obtain⟨S,L,V,C,P,D,G,B,Q,H,T,J,N,K,R,F,O,U,I⟩:=nc1 l aa aa;have HG:Hid (jd s 0=ζ):=aW (by rw[Y.o];simp[dS,eQ];omega);go_wp2;go_ret;exact⟨bE (dQ Yp HG.o).symm,rfl⟩
   have g1:57<l:=aa;clear W;by_cases Zg:l<=64
   .skip;obtain⟨S,L,V,C,P,D,G,B,Q,H,T,J,N,K,R,F,O,U,I⟩:=nc2 l aa aa;have HG:Hid (jd s 0=ζ):=aW (by rw[Y.o];simp[dS,eQ];omega);go_wp2;go_ret;exact⟨bE (dQ Yp HG.o).symm,rfl⟩
   have g2:64<l:=aa;clear Zg;by_cases YM:l<=90
   .skip;obtain⟨S,L,V,C,P,D,G,B,Q,H,T,J,N,K,R,F,O,U,I⟩:=nc3 l aa aa;have HG:Hid (jd s 0=ε):=aW (by rw[Y.o];simp[dS,eQ];omega);go_wp2_with fail
    go_round
    case rel=>exact⟨1,aa,au,jO HT.o HG.o⟩
    case measure=>simp[aT,intOf]<;>omega
   have g3:90<l:=aa;clear YM;by_cases Yq:l<=94
   .skip;obtain⟨S,L,V,C,P,D,G,B,Q,H,T,J,N,K,R,F,O,U,I⟩:=nc4 l aa aa aa;have HG:Hid (jd s 0=ζ):=aW (by rw[Y.o];simp[dS,eQ];omega);go_wp2;go_ret;exact⟨bE (dQ Yp HG.o).symm,rfl⟩
   have g4:94<l:=aa;clear Yq;by_cases Z:l<=95
   .skip;obtain⟨S,L,V,C,P,D,G,B,Q,H,T,J,N,K,R,F,O,U,I⟩:=nc5 l aa aa;have HG:Hid (jd s 0=ζ):=aW (by rw[Y.o];simp[dS,eQ];omega);go_wp2;go_ret;exact⟨bE (dQ Yp HG.o).symm,rfl⟩
   have g5:95<l:=aa;clear Z;by_cases Yt:l<=96
   .skip;obtain⟨S,L,V,C,P,D,G,B,Q,H,T,J,N,K,R,F,O,U,I⟩:=nc4 l aa aa aa;have HG:Hid (jd s 0=ζ):=aW (by rw[Y.o];simp[dS,eQ];omega);go_wp2;go_ret;exact⟨bE (dQ Yp HG.o).symm,rfl⟩
   have g6:96<l:=aa;clear Yt;by_cases YH:l<=122
   .skip;obtain⟨S,L,V,C,P,D,G,B,Q,H,T,J,N,K,R,F,O,U,I⟩:=nc6 l aa aa;have HG:Hid (jd s 0=ε):=aW (by rw[Y.o];simp[dS,eQ];omega);go_wp2_with fail
    go_round
    case rel=>exact⟨1,aa,au,jO HT.o HG.o⟩
    case measure=>simp[aT,intOf]<;>omega
   have g7:122<l:=aa;clear YH;obtain⟨S,L,V,C,P,D,G,B,Q,H,T,J,N,K,R,F,O,U,I⟩:=nc7 l aa aa;have HG:Hid (jd s 0=ζ):=aW (by rw[Y.o];simp[dS,eQ];omega);go_wp2;go_ret;exact⟨bE (dQ Yp HG.o).symm,rfl⟩
  .have z1:((k:Int)==0)=ζ:=ae;have z2:¬(k:Int)=0:=aa;by_cases M:l<=47
   .skip;obtain⟨S,L,V,C,P,D,G,B,Q,H,T,J,N,K,R,F,O,U,I⟩:=nc0 l aa aa;have HG:Hid (jd s k=ζ):=aW (by rw[Y.o];simp[dS,eQ];omega);go_wp2;go_ret;exact⟨bE (dQ Yp HG.o).symm,rfl⟩
   have g0:47<l:=aa;clear M;by_cases W:l<=57
   .skip;obtain⟨S,L,V,C,P,D,G,B,Q,H,T,J,N,K,R,F,O,U,I⟩:=nc1 l aa aa;have HG:Hid (jd s k=ε):=aW (by rw[Y.o];simp[dS,eQ];omega);go_wp2_with fail
    go_round
    case rel=>exact⟨k+1,aa,au,jO HT.o HG.o⟩
    case measure=>simp[aT,intOf]<;>omega
   have g1:57<l:=aa;clear W;by_cases Zg:l<=64
   .skip;obtain⟨S,L,V,C,P,D,G,B,Q,H,T,J,N,K,R,F,O,U,I⟩:=nc2 l aa aa;have HG:Hid (jd s k=ζ):=aW (by rw[Y.o];simp[dS,eQ];omega);go_wp2;go_ret;exact⟨bE (dQ Yp HG.o).symm,rfl⟩
   have g2:64<l:=aa;clear Zg;by_cases YM:l<=90
   .skip;obtain⟨S,L,V,C,P,D,G,B,Q,H,T,J,N,K,R,F,O,U,I⟩:=nc3 l aa aa;have HG:Hid (jd s k=ε):=aW (by rw[Y.o];simp[dS,eQ];omega);go_wp2_with fail
    go_round
    case rel=>exact⟨k+1,aa,au,jO HT.o HG.o⟩
    case measure=>simp[aT,intOf]<;>omega
   have g3:90<l:=aa;clear YM;by_cases Yq:l<=94
   .skip;obtain⟨S,L,V,C,P,D,G,B,Q,H,T,J,N,K,R,F,O,U,I⟩:=nc4 l aa aa aa;have HG:Hid (jd s k=ζ):=aW (by rw[Y.o];simp[dS,eQ];omega);go_wp2;go_ret;exact⟨bE (dQ Yp HG.o).symm,rfl⟩
   have g4:94<l:=aa;clear Yq;by_cases Z:l<=95
   .skip;obtain⟨S,L,V,C,P,D,G,B,Q,H,T,J,N,K,R,F,O,U,I⟩:=nc5 l aa aa;have HG:Hid (jd s k=ε):=aW (by rw[Y.o];simp[dS,eQ];omega);go_wp2_with fail
    go_round
    case rel=>exact⟨k+1,aa,au,jO HT.o HG.o⟩
    case measure=>simp[aT,intOf]<;>omega
   have g5:95<l:=aa;clear Z;by_cases Yt:l<=96
   .skip;obtain⟨S,L,V,C,P,D,G,B,Q,H,T,J,N,K,R,F,O,U,I⟩:=nc4 l aa aa aa;have HG:Hid (jd s k=ζ):=aW (by rw[Y.o];simp[dS,eQ];omega);go_wp2;go_ret;exact⟨bE (dQ Yp HG.o).symm,rfl⟩
   have g6:96<l:=aa;clear Yt;by_cases YH:l<=122
   .skip;obtain⟨S,L,V,C,P,D,G,B,Q,H,T,J,N,K,R,F,O,U,I⟩:=nc6 l aa aa;have HG:Hid (jd s k=ε):=aW (by rw[Y.o];simp[dS,eQ];omega);go_wp2_with fail
    go_round
    case rel=>exact⟨k+1,aa,au,jO HT.o HG.o⟩
    case measure=>simp[aT,intOf]<;>omega
   have g7:122<l:=aa;clear YH;obtain⟨S,L,V,C,P,D,G,B,Q,H,T,J,N,K,R,F,O,U,I⟩:=nc7 l aa aa;have HG:Hid (jd s k=ζ):=aW (by rw[Y.o];simp[dS,eQ];omega);go_wp2;go_ret;exact⟨bE (dQ Yp HG.o).symm,rfl⟩
 .have Yv:k=s.size:=aa;subst Yv;go_wp2;go_ret;exact⟨bE (D7 hp hm HT.o).symm,rfl⟩):p:=t
def Acg{p:Prop}(t:p:=by go_wp2;go_ret;exact⟨bE HR.symm,rfl⟩):p:=t
def Aa3{p:Prop}(t:p:=by go_enter func66,ntmps66;(go_wp2_with (go_at_call 109;refine(bO _ _ _ _).mono ?_;rintro e w1 ⟨rfl,rfl⟩));go_ret;exact⟨bE T.symm,rfl⟩):p:=t
def Aa2{p:Prop}(t:p:=by go_enter func115,ntmps115;(go_wp2_with (go_at_call 116;refine(dL _ _ _ _).mono ?_;rintro e w1 ⟨rfl,rfl⟩));go_ret;exact⟨bE T.symm,rfl⟩):p:=t
def Aaf{p:Prop}(t:p:=by go_enter func117,ntmps117;(go_wp2_with (first|(go_at_call 116;refine(dL _ _ _ _).mono ?_;rintro e w1 ⟨rfl,rfl⟩)|(go_at_call 115;refine(bZ ⟨_,_⟩ _).mono ?_;rintro e w1 ⟨rfl,rfl⟩)));go_ret;exact⟨bE T.symm,Ext.new _ _⟩):p:=t
def AbK{p:Prop}(t:p:=by go_enter func117,ntmps117;(go_wp2_with (first|(go_at_call 116;refine(dL _ _ _ _).mono ?_;rintro e w1 ⟨rfl,rfl⟩)|(go_at_call 115;refine(bZ ⟨_,_⟩ _).mono ?_;rintro e w1 ⟨rfl,rfl⟩)));go_ret;exact⟨bE T.symm,(Ext.new _ _).trans (Ext.new _ _)⟩):p:=t
def AcV{p:Prop}(t:p:=by simp[dz,h,D,F,H]):p:=t
def Aaa{p:Prop}(t:p:=by go_enter func111,ntmps111;(go_wp2_with (first|(go_at_call 109;refine(bO _ _ _ _).mono ?_;rintro e w1 ⟨rfl,rfl⟩)|(go_at_call 66;refine(bT ⟨_,_⟩ _).mono ?_;rintro e w1 ⟨rfl,rfl⟩)));go_quiet (fail);(go_wp2_with (first|(go_at_call 109;refine(bO _ _ _ _).mono ?_;rintro e w1 ⟨rfl,rfl⟩)|(go_at_call 66;refine(bT ⟨_,_⟩ _).mono ?_;rintro e w1 ⟨rfl,rfl⟩)));go_ret;exact⟨bE T.symm,(Ext.new _ _).drewN _⟩):p:=t
def AbI{p:Prop}(t:p:=by go_enter func111,ntmps111;(go_wp2_with (first|(go_at_call 109;refine(bO _ _ _ _).mono ?_;rintro e w1 ⟨rfl,rfl⟩)|(go_at_call 66;refine(bT ⟨_,_⟩ _).mono ?_;rintro e w1 ⟨rfl,rfl⟩)));go_quiet (fail);(go_wp2_with (first|(go_at_call 109;refine(bO _ _ _ _).mono ?_;rintro e w1 ⟨rfl,rfl⟩)|(go_at_call 66;refine(bT ⟨_,_⟩ _).mono ?_;rintro e w1 ⟨rfl,rfl⟩)));go_ret;exact⟨bE T.symm,((Ext.new _ _).drewN _).trans (Ext.new _ _)⟩):p:=t
def Ady{p:Prop}(t:p:=by have:=H.o;omega):p:=t
def AaM{p:Prop}(t:p:=by clear hc;go_enter func64,ntmps64;(go_wp2_with (first|(go_at_call 63;refine(F _).mono ?_;rintro e w1 ⟨rfl,rfl⟩)|(go_at_call 108;refine(Dy _ _ _ _ _ _ h C).mono ?_;rintro e w1 ⟨rfl,rfl⟩)));go_ret;exact⟨aY j.symm,rfl⟩):p:=t
def Aas{p:Prop}(t:p:=by go_enter func110,ntmps110;go_wp2;go_ret;exact⟨aY T.symm,(Ext.new _ _).trans (Ext.new _ _)⟩):p:=t
def Ab0{p:Prop}(t:p:=by simp[jH,btw]<;>omega):p:=t
def AcO{p:Prop}(t:p:=by have T:Hid (jH n1 n2 ⟨D,1,obj,en,⟨r,x⟩,B,l,ct,vt,sat,j⟩=9):=aW Ab0;exact Aas):p:=t
def Ada{p:Prop}(t:p:=by have T:Hid (jH n1 n2 ⟨D,2,obj,en,⟨r,x⟩,B,l,ct,vt,sat,j⟩=9):=aW Ab0;exact Aas):p:=t
def AaS{p:Prop}(t:p:=by go_enter func112,ntmps112;go_wp2;go_ret;exact⟨aY T.symm,(Ext.new _ _).trans (Ext.new _ _)⟩):p:=t
def AbW{p:Prop}(t:p:=by rw[T.o];exact dK R.o F.o aj L):p:=t
def Acz{p:Prop}(t:p:=by rw[fw];omega):p:=t
def Ac0{p:Prop}(t:p:=by rw[B] at f0;clear B;have q5:((bus:Int)==bus)=ε:=ag;go_wp2;go_quiet (fail);go_wp2;go_ret;exact⟨aY AbW,((D.trans M.o).alloc _).drewN _⟩):p:=t
def Adh{p:Prop}(t:p:=by have:=hc 0 _ rfl;rwa[aaV] at this):p:=t
def Ads{p:Prop}(t:p:=by have F:Hid (iQ n0 b k=9):=aW (by rw[C.o,θ Acz]);go_wp2;go_ret;exact⟨aY AbW,(D.trans M.o).alloc _⟩):p:=t
def Abh{p:Prop}(t:p:=by intro u j;obtain⟨x,_,rfl⟩:=Nq.1 j;rfl):p:=t
def AaB{p:Prop}(t:p:=by simp[Value.oneCell']):p:=t
def Ach{p:Prop}(t:p:=by rw[N.o,<-ace];simpa using D):p:=t
def Ac8{p:Prop}(t:p:=by simp[Value.ownBlock]):p:=t
def Adr{p:Prop}(t:p:=by simp<;>omega):p:=t
theorem AdA{p:Prop}(t:p:=by unfold maxLen;omega):p:=t
def AaQ{p:Prop}(t:p:=by go_wp2_with fail;refine(wO nm A0 n0 c0 A1 n1 c1 A2 n2 c2 _ n3 c3 b h.A h.n h.c _ (I.ext (D.trans B.o))).mono ?_;rintro e w3 ⟨rfl,J⟩;go_wp2_with fail;go_ret;exact⟨aY ac.symm,(D.trans B.o).trans J⟩):p:=t
def AcF{p:Prop}(t:p:=by have:=Z.o;omega):p:=t
def Aaj{p:Prop}(t:p:=by go_enter aeE,adL;(go_wp2_with (first|(go_at_call 63;refine(F _).mono ?_;rintro e w1 ⟨rfl,rfl⟩)));go_quiet (fail);go_wp2_with fail;go_ret;exact⟨aY T.symm,(Ext.new _ _).drewN _⟩):p:=t
def AbY{p:Prop}(t:p:=by go_enter aeE,adL;(go_wp2_with (first|(go_at_call 63;refine(F _).mono ?_;rintro e w1 ⟨rfl,rfl⟩)));go_ret;exact⟨aY T.symm,Ext.new _ _⟩):p:=t
def AcC{p:Prop}(t:p:=by rw[<-h];exact Q.o):p:=t
def Ac5{p:Prop}(t:p:=by rw[M.o];rfl):p:=t
theorem Adi{p:Prop}(t:p:=by
 intro h;have:lu s=ε:=by
  unfold lu;rw[N,S,YL,Yz];simp;omega
 rw[hc] at this;cases this):p:=t
def Adu{p:Prop}(t:p:=by have d4:decide ((16:Int)<n3)=ζ:=ae;exact absurd ⟨aa,aa,aa,aa,aa⟩ HC.o):p:=t
def AbF{p:Prop}(t:p:=by have:=mW (hd.take n);rwa[Be,aao aa] at this):p:=t
def Abd{p:Prop}(t:p:=by rw[Ej,Int.natAbs_natCast] at this;exact this):p:=t
def AaK{p:Prop}(t:p:=by simp only[aac,aba];grind):p:=t
def Acr{p:Prop}(t:p:=by rw[GQ.bL,J.re,R.re,J.im,R.im];simp only[aac,abV];grind):p:=t
def Aao{p:Prop}(t:p:=by
 go_wp2;go_loopw [5] (fun i wr=>∃k:Nat,k<=n/\i=.int .i64 ((k:Int)-1)/\a.drop k=b.drop k/\Ext w wr) (fun i _=>(intOf i+1).toNat)
 case atStart=>exact⟨n,κ _,rfl,by rw[aal (by rw[P.o];omega),aal (by rw[O.o];omega)],Ext.refl _⟩
 case round=>
  obtain⟨k,Z,rfl,hd,D⟩:=hrel;have H:=aW hd;clear hd;by_cases V:k=0
  .subst V;go_wp2;go_ret;exact⟨aY (Mw (by have:=H.o;simp at this;rw[this])),D⟩
  .obtain⟨j,rfl⟩:∃j,k=j+1:=⟨k-1,aa⟩;obtain⟨ad,x,rfl,hb,J,M,K⟩:=(F.ext D).at_ (k:=j) aa;obtain⟨bd,y,rfl,Q,R,I,W⟩:=(G.ext D).at_ (k:=j) aa;have U:=aW J;clear J;have S:=aW R;clear R;have q1:(0:Int)<=j:=aa;have q2:(j:Int)<n:=aa;rcases ab6 x y with l|l|l
   .go_wp2;go_quiet (fail);go_wp2;go_ret;exact⟨aY (AC (vg F.dg U.o S.o H.o l)),D.drewN _⟩
   .subst l;go_wp2;go_quiet (fail);go_wp2;go_quiet (fail);go_wp2;go_roundw
    case rel=>exact⟨j,aa,au,ER U.o S.o H.o,by first|exact(D.drewN _).drewN _|exact D.drewN _⟩
    case measure=>simp[aT,intOf]<;>omega
   .go_wp2;go_quiet (fail);go_wp2;go_quiet (fail);go_wp2;go_ret;exact⟨aY (AU (vg G.dg S.o U.o H.symm l)),by first|exact(D.drewN _).drewN _|exact D.drewN _⟩):p:=t
def Acp{p:Prop}(t:p:=by go_wp2;go_ret;exact⟨aY (AC (Am F.dg Y (by rw[P.o,O.o];exact L))),Ext.refl _⟩):p:=t
def AcR{p:Prop}(t:p:=by go_wp2;go_ret;exact⟨aY (AU (Am G.dg C (by rw[P.o,O.o];exact N))),Ext.refl _⟩):p:=t
def Aa4{p:Prop}(t:p:=by intro v1 w1 D C;go_wp2;go_ret;exact⟨_,rfl,⟨afs D (qy _),fun g C=>(D.lt g C).1⟩,fI C (Ext.new _ _) (by simp[Value.ownBlock])⟩):p:=t
def AaN{p:Prop}(t:p:=by go_wp2;go_ret;exact⟨bE (by rw[D.o]),Ext.new _ _⟩):p:=t
def Acs{p:Prop}(t:p:=by go_enter func96,ntmps96;exact AaN):p:=t
def Acn{p:Prop}(t:p:=by go_enter func178,ntmps178;exact AaN):p:=t
def Abf{p:Prop}(t:p:=by rw[O];omega):p:=t
def Aby{p:Prop}(t:p:=by rw[<-ω];congr 1;omega):p:=t
def AaW{p:Prop}(t:p:=by refine(kJ _ (k+1) (k+1) (o++[G]) _ (RM.blk O (T.append (Dig.one aa)) (by simp[L.o]) aa)).mono ?_;rintro e w1 ⟨v1,rfl,Z,H⟩;rw[V] at Z;go_wp2;go_ret;exact⟨_,rfl,Z,j.trans H⟩):p:=t
def Ab6{p:Prop}(t:p:=by have:=Q.o;rw[χ (by rw[HA.o];omega),χ (by rw[U.o];omega)] at this;rw[ky,L.o];exact this):p:=t
def Ab1{p:Prop}(t:p:=by have:=D.size;simp;omega):p:=t
def AaZ{p:Prop}(t:p:=by
 rintro e w1 ⟨v1,rfl,hR,H⟩;have V:val p=val a*val b:=by rw[Q.o,χ (by rw[HA.o];omega)]
 rw[V] at hR;go_wp2;go_ret;exact⟨_,rfl,hR,D.trans H⟩):p:=t
def Acj{p:Prop}(t:p:=by rw[T.o];omega):p:=t
def AcP{p:Prop}(t:p:=by rw[show((x':Int)*(y:Int))=((x'*y:Nat):Int) by simp,<-ht];omega):p:=t
def Aa6{p:Prop}(t:p:=by go_enter func217,ntmps217;go_wp2;go_ret;exact⟨_,rfl,⟨_,_,_,rfl,by simpa[val,iT] using afm⟩,Ext.refl _⟩):p:=t
def AaR{p:Prop}(t:p:=by intro v1 w1 F D;go_wp2;go_ret;exact⟨_,rfl,by simpa using F,fI D (Ext.new _ _) (by simp[Value.ownBlock])⟩):p:=t
def Aca{p:Prop}(t:p:=by go_ret;exact⟨_,rfl,PI _ _ _ _,Ext.refl _⟩):p:=t
def Aay{p:Prop}(t:p:=by rintro e w2 ⟨v2,rfl,⟨u,rfl,A2,n2,c2,rfl,O⟩,P⟩;rw[aZ,aZ,aZ] at O;rw[aZ,aZ,aZ];have P:=H.trans P;go_wp2;refine I _ _ ⟨⟨w2,P⟩,rfl⟩ ?_;clear I K;refine bC [8,9] [] _ ah ?_;refine Gq ?_;have P:=G.trans P;simp only[cK,ξ,τ];have b4:=mr P;have c4:=b4.cell;have f4:=b4.frozen;obtain⟨C,R,N⟩:=jJ (fU P) aa b4 _ A2 n2 c2;have V:=aW C;have U:=aW R;have W:=aW (N _ _ _ _ O);clear C R N;go_wp2;exact iF rfl rfl rfl U.o ⟨_,rfl,⟨_,rfl,_,_,_,rfl,W.o⟩,V.o⟩):p:=t
def AaH{p:Prop}(t:p:=by have j:=P.trans j;have b4:=mr j;have c4:=b4.cell;have W:=b4.frozen;obtain⟨C,I,F⟩:=jJ (fU j) aa b4 _ A2 n2 c2;have N:=aW C;have K:=aW I;have Q:=aW (F _ _ _ _ G);clear C I F;go_wp2;exact iF rfl rfl rfl K.o ⟨_,rfl,⟨_,rfl,_,_,_,rfl,Q.o⟩,N.o⟩):p:=t
def AbA{p:Prop}(t:p:=by go_wp2;exact iF rfl rfl rfl V.o ⟨_,rfl,⟨_,rfl,_,_,_,rfl,Y.o⟩,W.o⟩):p:=t
def Acu{p:Prop}(t:p:=by go_wp2;exact iF rfl rfl rfl K2.o ⟨_,rfl,⟨_,rfl,_,_,_,rfl,K3.o⟩,K1.o⟩):p:=t
def Aav{p:Prop}(t:p:=by refine bz 8 [(ε,9),(ε,10)] ah ?_;intro K I;simp only[bG];go_wp2_with fail;refine(kz v4 _ _ D).mono ?_;rintro e w5 ⟨v5,rfl,⟨u,rfl,A2,n2,c2,rfl,hI⟩,j⟩;have j:=U.trans j;go_wp2;refine I _ _ ⟨⟨w5,j⟩,rfl⟩ ?_;clear I K;refine bC [9,10] [] _ ah ?_;refine Gq ?_;have T:=P.trans j;simp only[cK,ξ,τ];have b4:=mr T;have c4:=b4.cell;have f4:=b4.frozen;obtain⟨C,k2,k3⟩:=jJ (fU T) aa b4 _ A2 n2 c2;have K1:=aW C;have K2:=aW k2;have K3:=aW (k3 _ _ _ _ hI);clear C k2 k3;go_wp2;exact iF rfl rfl rfl K2.o ⟨_,rfl,⟨_,rfl,_,_,_,rfl,K3.o⟩,K1.o⟩):p:=t
def Abe{p:Prop}(t:p:=by rintro e I ⟨rfl,j⟩;go_wp2;go_ret;exact⟨aY (by rw[aZ,aZ,MM (x:=x) (y:=y) aa aa]),(pI P).trans j⟩):p:=t
def Acf{p:Prop}(t:p:=by rintro e I ⟨rfl,j⟩;go_wp2;go_ret;exact⟨aY (by rw[aZ,aZ,Mi (x:=x) (y:=y) aa aa]),(pI P).trans j⟩):p:=t
def AcN{p:Prop}(t:p:=by have D:decide (y<0)=ζ:=π C;go_wp2;go_ret;exact⟨aY (M8 aa aa),pI P⟩):p:=t
def Ac9{p:Prop}(t:p:=by have D:decide (y<0)=ε:=Δ C;go_wp2;go_ret;exact⟨aY (NI aa aa),pI P⟩):p:=t
def Abz{p:Prop}(t:p:=by rintro e w1 ⟨rfl,H⟩;go_wp2;go_ret;exact⟨rfl,(Ext.new w _).trans H⟩):p:=t
def AaA{p:Prop}(t:p:=by have j:=H.trans j;have b4:=(Blk.new w 40 _).ext j;have c4:=b4.cell;have R:=b4.frozen;obtain⟨C,I,F⟩:=jJ ((Ext.new w _).trans j) aa b4 (decide (z<0)) A2 n2 c2;have L:=aW C;have K:=aW I;have M:=aW (F _ _ _ _ G);clear C I F;go_wp2;exact fH rfl rfl rfl K.o ⟨_,rfl,l.subst (motive:=fun t=>RI _ (iv (decide (z<0)) A2 n2 c2) t) (show RI _ (iv (decide (z<0)) A2 n2 c2) z from ⟨_,_,_,rfl,M.o⟩),L.o⟩):p:=t
def AaC{p:Prop}(t:p:=by refine⟨k+1,x*2^s/4294967296,o++[z+x*2^s%4294967296],aa,au,by simp[j.o],pY M,Mk j.o Y.o Q.o,?_,(D.setCell (κ _) _).setCell (κ _) _⟩;have T:=(O.set (k:=k) (VP M hs I) (CX (aaj hs) I)).set (k:=k+1) (VD M hs) (ο (pY M) (by rw[<-xK (show s<=32 by omega)];exact Nat.le_mul_of_pos_right _ (KP aa)));rwa[GU j.o H] at T):p:=t
def Ace{p:Prop}(t:p:=by rw[kC (by rw[j.o];exact κ _),j.o,aaW] at P;simpa using P.symm):p:=t
def Abs{p:Prop}(t:p:=by rw[show((g:Int)*(v0:Int))=((g*v0:Nat):Int) by simp,<-H];omega):p:=t
def Abv{p:Prop}(t:p:=by
 rcases Bn b with h|h
 .subst h;rw[iT] at Z;simp at Z
 .exact h):p:=t
def AaV{p:Prop}(t:p:=by rw[l.o];omega):p:=t
def Ab2{p:Prop}(t:p:=by have h1:=Zh.o.2;rw[YM.o,CB] at h1;rw[Gy hU.2 AaV,h1,Nat.mul_div_cancel _ (KP aa)];have h2:=Yw.o.2;rw[τ] at h2;omega):p:=t
def AcE{p:Prop}(t:p:=by refine afQ YA ?_;rw[YB];exact Jp YA (eD (by rw[Zo.o];exact κ _)) (by have:=Bo YV.o aa;simpa using this) aa aa):p:=t
def Ac3{p:Prop}(t:p:=by have h1:=HN.ge;have h2:0<4294967296^(n+1):=KP aa;have h3:0<2147483648*4294967296^(n+1):=Nat.mul_pos aa h2;omega):p:=t
def Adj{p:Prop}(t:p:=by
 have h1:ik wr w3.heap.size qs:=by simpa using hq
 exact h1.rm (by have:=ZO.o;omega) aa):p:=t
def Adt{p:Prop}(t:p:=by have h1:=eG (n:=b) (k:=la) (ψ Yt (eD (by have:=Zo.o;omega)));omega):p:=t
def Aai{p:Prop}(t:p:=by
 obtain⟨u6,rfl,A6,n6,c6,rfl,YA⟩:=j;have e6:=K1.trans Yp;have I:=K2.ext Yp;have K:=Yt.ext Yp;have F:=YG.ext Yp;have Zn:=I.cell;have YN:=I.frozen;have Zm:=K.cell;have YO:=K.frozen;clear YH f4;go_wp2_with fail;obtain⟨m1,m2,m3⟩:=jJ e6 aa K (decide (zr<0)) A6 n6 c6;have m4:=(I.far (p:=aM (w.heap.size+3) 0) ag (.bool (decide (zr<0)))).far (p:=aM (w.heap.size+3) 1) ag (.slice A6 n6 c6);have m5:=m3 _ _ _ _ F;have m6:=m3 _ _ _ _ YA;clear m3 Zn YN Zm YO I K F YA YG Zj Yt K1 K2 e6;rw[show w.heap.size+1+1+1=w.heap.size+3 from rfl];generalize (w6.setCell ⟨w.heap.size+3,0,δ⟩ (.bool (decide (zr<0)))).setCell ⟨w.heap.size+3,1,δ⟩ (.slice A6 n6 c6)=w7 at*
 have p4:w7.cell? (aM (w.heap.size+1+1) 0)=γ (.bool (decide (zq<0))):=by have:=m4.cell 0;simpa using this
 have YQ:w7.cell? (aM (w.heap.size+1+1) 1)=γ (aO A4 n4 c4):=by have:=m4.cell 1;simpa using this
 have p5:w7.cell? (aM (w.heap.size+3) 0)=γ (.bool (decide (zr<0))):=by have:=m2.cell 0;simpa using this
 have YW:w7.cell? (aM (w.heap.size+3) 1)=γ (aO A6 n6 c6):=by have:=m2.cell 1;simpa using this
 have g4:w7.frozen? ⟨w.heap.size+1+1,0,δ⟩=ζ:=m4.frozen 0;have YT:w7.frozen? ⟨w.heap.size+1+1,1,δ⟩=ζ:=m4.frozen 1;have g5:w7.frozen? ⟨w.heap.size+3,0,δ⟩=ζ:=m2.frozen 0;have YS:w7.frozen? ⟨w.heap.size+3,1,δ⟩=ζ:=m2.frozen 1;go_region;go_wp2;obtain⟨n1,n2,n3⟩:=jJ m1 aa m4 (decide (zq<0)) A4 n4 c4;have YC:=(m2.far (p:=aM (w.heap.size+2) 0) ag (.bool (decide (zq<0)))).far (p:=aM (w.heap.size+2) 1) ag (.slice A4 n4 c4);obtain⟨o1,o2,o3⟩:=jJ n1 aa YC (decide (zr<0)) A6 n6 c6;have o4:=(n2.far (p:=aM (w.heap.size+3) 0) ag (.bool (decide (zr<0)))).far (p:=aM (w.heap.size+3) 1) ag (.slice A6 n6 c6);have r4:=o3 _ _ _ _ (n3 _ _ _ _ m5);have r5:=o3 _ _ _ _ (n3 _ _ _ _ m6);rw[<-W.o,<-Yu.o];exact yl rfl rfl rfl (o4.ext (Ext.refl _).drew) rfl (o2.ext (Ext.refl _).drew) ⟨_,rfl,⟨_,_,rfl,⟨_,_,_,rfl,r4.ext (Ext.refl _).drew⟩,⟨_,_,_,rfl,r5.ext (Ext.refl _).drew⟩⟩,o1.drew⟩):p:=t
def Ab8{p:Prop}(t:p:=by have h1:=hR.len;have h2:=eG (n:=x.natAbs%y.natAbs) (k:=m) (abk V (eD (by rw[R.len];exact κ _)));omega):p:=t
def Aah{p:Prop}(t:p:=by
 have YH:zr=zOf ζ _:=Yu.trans Za.o.2;go_wp2_with fail;refine(iE _ Aq nq cq _ _ hQ aa).mono ?_;rintro e w4 ⟨v4,rfl,D,N⟩;rw[aZ] at D;rw[<-T] at D;have ac:=aW YH;clear YH T;have Yp:zq.natAbs<lim:=Yy.o zq W.o;have Q:=hR.ext N;have N:=Yq.trans N;clear c0 c1 hQ hR;go_wp2_with fail;refine(kz _ zq _ D).mono ?_;rintro e w5 ⟨v5,rfl,j,Yv⟩;rw[kT Yp] at j;obtain⟨u5,rfl,A5,n5,c5,rfl,F⟩:=j;have Yz:=Q.ext Yv;have Yv:=N.trans Yv;clear D Q;go_wp2_with fail;have Y9:=aX.blk (Blk.new w5 40 #[(decide (zq<0)),aO A5 n5 c5]);have YG:=Yv.trans (Ext.new w5 (.cells #[(decide (zq<0)),aO A5 n5 c5] 40));have YP:=Yz.ext (Ext.new w5 (.cells #[(decide (zq<0)),aO A5 n5 c5] 40));have YA:=F.ext (Ext.new w5 (.cells #[(decide (zq<0)),aO A5 n5 c5] 40));generalize w5.alloc (.cells #[(decide (zq<0)),aO A5 n5 c5] 40)=w6 at*
 refine bM 3 [(ε,0),(ε,1),(ζ,2)] ah ah ?_;refine bC [0,1] [(ζ,2)] _ ah ?_;refine Gq ?_;refine bz 2 [] ah ?_;intro K I;simp only[bG];go_wp2_with fail;refine(iE ζ Ar nr cr _ _ (YP.ext (Ext.refl w6).drew) aa).mono ?_;rintro e w7 ⟨v7,rfl,⟨A7,n7,c7,rfl,Yt⟩,U⟩;have U:=U.jF;go_wp2;refine I _ _ ⟨⟨w7,U⟩,rfl⟩ ?_;clear I K;simp only[cK,ξ,τ];have C:=YG.trans U;have b4:=Ib C;have b5:=Ip C;have c4:=b4.cell;have f4:=b4.frozen;have YT:=b5.cell;have f5:=b5.frozen;obtain⟨n1,n2,n3⟩:=jJ (yA C) aa b4 (decide (zq<0)) A5 n5 c5;have YC:=(b5.far (p:=aM (w.heap.size+2) 0) ag (.bool (decide (zq<0)))).far (p:=aM (w.heap.size+2) 1) ag (.slice A5 n5 c5);rw[aZ,<-ac.o] at Yt;rw[aZ,<-ac.o];obtain⟨o1,o2,o3⟩:=jJ n1 aa YC (decide (zr<0)) A7 n7 c7;have o4:=(n2.far (p:=aM (w.heap.size+3) 0) ag (.bool (decide (zr<0)))).far (p:=aM (w.heap.size+3) 1) ag (.slice A7 n7 c7);have r4:=o3 _ _ _ _ (n3 _ _ _ _ (YA.ext U));have r5:=o3 _ _ _ _ (n3 _ _ _ _ Yt);have O1:=aW o1;have O2:=aW o2;have O4:=aW o4;have R4:=aW r4;have R5:=aW r5;clear n1 n2 n3 YC o1 o2 o3 o4 r4 r5;go_wp2;rw[<-W.o,<-Yu.o];exact yl rfl rfl rfl O4.o rfl O2.o ⟨_,rfl,⟨_,_,rfl,⟨_,_,_,rfl,R4.o⟩,⟨_,_,_,rfl,R5.o⟩⟩,O1.o⟩):p:=t
def AaE{p:Prop}(t:p:=by have K1:=aW C;have K2:=aW k2;have K3:=aW (k3 _ _ _ _ hI);clear C k2 k3;go_wp2;rw[<-YC.o,<-HZ.o];exact iF rfl rfl rfl K2.o ⟨_,rfl,⟨_,rfl,_,_,_,rfl,K3.o⟩,K1.o⟩):p:=t
def Ab7{p:Prop}(t:p:=by have b4:=mr Yq;have c4:=b4.cell;have f4:=b4.frozen;obtain⟨C,k2,k3⟩:=jJ (fU Yq) aa b4 (decide (Z<0)) A2 n2 c2;exact AaE):p:=t
def AcW{p:Prop}(t:p:=by
 rcases Bn gk with h|h
 .exact h
 .exact absurd (Zg.2 h) h0):p:=t
def Abc{p:Prop}(t:p:=by simp[World.setCell]):p:=t
def Aa7{p:Prop}(t:p:=by have G:=aW F;clear F hs T;go_enter adN,adx;go_wp2;go_ret;exact⟨bE (by simpa using G.o),Ext.new _ _⟩):p:=t
def Aaz{p:Prop}(t:p:=by rintro e w1 ⟨v1,rfl,j,H⟩;rw[S.o] at j;obtain⟨u1,rfl,T⟩:=j;go_wp2_with fail;refine(vz g u1 z _ ((hc.ext Y).ext H) T).mono ?_;rintro e w2 ⟨U,rfl,G,P⟩;obtain⟨s2,A2,n2,c2,rfl,G⟩:=G.opn;have F:=H.trans P;have b4:=mr F;have c4:=b4.cell;have V:=b4.frozen;obtain⟨C,K,I⟩:=rP (fU F) aa b4 s2 A2 n2 c2;have Q:=aW C;have N:=aW K;have R:=aW (I _ _ G);clear C K I;go_wp2;exact fH rfl rfl rfl N.o ⟨_,rfl,R.o,Q.o⟩):p:=t
def Aax{p:Prop}(t:p:=by obtain⟨s2,A2,n2,c2,rfl,G⟩:=G.opn;have J:=H.trans P;have b4:=mr J;have c4:=b4.cell;have f4:=b4.frozen;obtain⟨C,R,Q⟩:=rP (fU J) aa b4 s2 A2 n2 c2;have V:=aW C;have U:=aW R;have W:=aW (Q _ _ G);clear C R Q;go_wp2;exact fH rfl rfl rfl U.o ⟨_,rfl,W.o,V.o⟩):p:=t
def AaP{p:Prop}(t:p:=by exact fH rfl rfl rfl (hS.aH 0) ⟨_,rfl,(hS.aF 0),hS.ext⟩):p:=t
def AaT{p:Prop}(t:p:=by go_wp2;replace hS:=hS.pt 2 0 [.bool Zk,.slice YT Zl Zj,.bool YK,.slice YF YG Zn,.bool Zz,.slice YI ZF Zy] o8;exact dG rfl rfl rfl (hS.aH 2) ⟨_,rfl,RG.mk (hS.aF 2) (hS.aF 1) (hS.aF 0),hS.ext⟩):p:=t
def Aba{p:Prop}(t:p:=by
 rcases F with h|h
 .left;intro e;rw[e] at Z;simp at Z;exact h Z
 .right;intro e;rw[e] at eq;simp at eq;exact h eq):p:=t
def Acc{p:Prop}(t:p:=by
 rcases R with h|h
 .left;intro e;rw[e] at B;simp at B;exact h B
 .right;intro e;rw[e] at j;simp at j;exact h j):p:=t
def AcS{p:Prop}(t:p:=by
 have:=e6.symm;rcases ack.1 this with h|h
 .exact absurd h ac
 .exact h):p:=t
def AaJ{p:Prop}(t:p:=by replace hS:=hS.mv F;clear F;go_wp2;go_ret;exact⟨bE (rfl),hS.ext⟩):p:=t
def Aak{p:Prop}(t:p:=by rintro e w2 ⟨v_,rfl,M,F⟩;replace hS:=hS.mv F;clear F;obtain⟨_,rfl,j⟩:=M;obtain⟨S,L,K,P,rfl,B⟩:=RI.opn j;clear j;replace hS:=hS.bI B;clear B;have o5:Own w w2.heap.size:=aeX hS.ext ag;have U:=(St.al hS 40 #[ζ,()] (g:=w2.heap.size) ag);have YM:=(U.aH 0).cell;have YN:=(U.aH 0).frozen;have I:=(St.al hS 40 #[S,aO L K P] (g:=w2.heap.size) ag);have Za:=(I.aH 0).cell;have Zf:=(I.aH 1).cell;have Zg:=(I.aH 1).frozen;go_wp2;replace hS:=(St.al hS 40 #[S,aO L K P] (g:=w2.heap.size) ag).pt 1 0 [.bool S,.slice L K P] o4;exact fH rfl rfl rfl (hS.aH 1) ⟨_,rfl,(hS.aF 0),hS.ext⟩):p:=t
def Abn{p:Prop}(t:p:=by exact dG rfl rfl rfl (hS.aH 1) ⟨_,rfl,RG.mk (hS.aF 2) (hS.aF 1) (hS.aF 0),hS.ext⟩):p:=t
def Abo{p:Prop}(t:p:=by exact dG rfl rfl rfl (hS.aH 0) ⟨_,rfl,RG.mk (hS.aF 2) (hS.aF 1) (hS.aF 0),hS.ext⟩):p:=t
def Aam{p:Prop}(t:p:=by rintro e w4 ⟨v_,rfl,M,F⟩;replace hS:=hS.mv F;clear F;obtain⟨Zv,Zn,Zw,Zr,Zp,Zl,Zq,Zt,Zy,Zm,Zx,Zo,rfl,R,K,B⟩:=M;replace hS:=hS.bI R;clear R;replace hS:=hS.bI K;clear K;replace hS:=hS.bI B;clear B;go_wp2_with fail;refine(pV g6 _ YO YP YQ _ (hS.aH 0) (RG.mk (hS.aF 2) (hS.aF 1) (hS.aF 0))).mono ?_;rintro e w5 ⟨v_,rfl,M,F⟩;replace hS:=hS.mv F;clear F;obtain⟨_,rfl,YX,YR,YZ,YW,Zh,YU,Zi,Zj,Zg,YT,YV,YY,rfl,j,N,I⟩:=M;replace hS:=hS.bI j;clear j;replace hS:=hS.bI N;clear N;replace hS:=hS.bI I;clear I;have Za:=(hS.aH 2).cell;have Zf:=(hS.aH 2).frozen;go_wp2;replace hS:=hS.pt 2 0 [.bool YX,.slice YR YZ YW,.bool Zh,.slice YU Zi Zj,.bool Zg,.slice YT YV YY] o4;exact nK rfl rfl rfl (hS.aH 2) ⟨_,rfl,⟨_,rfl,⟨_,_,_,RG.mk (hS.aF 2) (hS.aF 1) (hS.aF 0),YS,Zk⟩⟩,hS.ext⟩):p:=t
def AbD{p:Prop}(t:p:=by rw[acR];intro e;exact h (L.zero.1 e)):p:=t
def Aar{p:Prop}(t:p:=by rintro e w5 ⟨v_,rfl,M,F⟩;replace hS:=hS.mv F;clear F;obtain⟨Zw,Zp,ZB,Zy,Zv,Zr,Zt,ZC,Zz,Zq,Zx,ZA,rfl,K,B,j⟩:=M;replace hS:=hS.bI K;clear K;replace hS:=hS.bI B;clear B;replace hS:=hS.bI j;clear j;go_wp2_with fail;refine(pV g6 _ YQ YO YP _ (hS.aH 0) (RG.mk (hS.aF 2) (hS.aF 1) (hS.aF 0))).mono ?_;rintro e w6 ⟨v_,rfl,M,F⟩;replace hS:=hS.mv F;clear F;obtain⟨_,rfl,Zj,YT,Zk,Zn,Zo,YW,YZ,YY,Zl,YS,Zi,Zm,rfl,I,N,R⟩:=M;replace hS:=hS.bI I;clear I;replace hS:=hS.bI N;clear N;replace hS:=hS.bI R;clear R;have Zf:=(hS.aH 2).cell;have Zg:=(hS.aH 2).frozen;go_wp2;replace hS:=hS.pt 2 0 [.bool Zj,.slice YT Zk Zn,.bool Zo,.slice YW YZ YY,.bool Zl,.slice YS Zi Zm] o4;exact nK rfl rfl rfl (hS.aH 2) ⟨_,rfl,⟨_,rfl,⟨_,_,_,RG.mk (hS.aF 2) (hS.aF 1) (hS.aF 0),YR,YU⟩⟩,hS.ext⟩):p:=t
theorem Aa0{p:Prop}(t:p:=by refine⟨_,rfl,ο B m.size,fun j u H=> ?_⟩;rw[add_plain];have F:=hc j u H;unfold World.cell? at F⊢;have G:=m.block b B C;simp only[G];exact F):p:=t
def Abt{p:Prop}(t:p:=by rw[abW,adI];simp):p:=t
def Ab4{p:Prop}(t:p:=by rw[bN];omega):p:=t
def AbP{p:Prop}(t:p:=by intro e;injection e with e;omega):p:=t
def AcA{p:Prop}(t:p:=by go_wp2_with fail;refine(jh HB.o x.name).mono ?_;rintro e w1 ⟨rfl,rfl⟩;rw[YS.o];go_wp2;go_ret;exact⟨aY T.symm,Zj.o,fun e=>absurd (T.symm.trans e) HN.o⟩):p:=t
def Ac2{p:Prop}(t:p:=by simp at hb;rcases hb with rfl|rfl<;>first|exact R|exact J):p:=t
def Adx{p:Prop}(t:p:=by go_wp2;go_ret;exact⟨aY Q.symm,Zj.trans (((Ext.new _ _).alloc _).mono ae),fun e=>absurd (Q.symm.trans e) aj⟩):p:=t
def AdB{p:Prop}(t:p:=by go_wp2;go_ret;exact⟨aY Q.symm,Zj.trans ((Ext.new _ _).mono ae),fun e=>absurd (Q.symm.trans e) aj⟩):p:=t
def AdC{p:Prop}(t:p:=by rw[<-HE.o,ι rfl]):p:=t
def Ac1{p:Prop}(t:p:=by simp at hb;rcases hb with rfl|rfl<;>first|exact Yz|exact R):p:=t
def Adf{p:Prop}(t:p:=by go_wp2;go_ret;exact⟨aY Q.symm,Zj.o,fun e=>absurd (Q.symm.trans e) aj⟩):p:=t
def Aap{p:Prop}(t:p:=by
 by_cases Ze:k=0
 · subst Ze;rw[aaV,I4] at e0 e1;go_wp2_with fail;go_quiet ((go_at_call 116;exact aaI (HW.o _)));clear F;go_wp2_with fail;go_ret;exact⟨aY (by rw[T.o];exact dK HZ.o HE.o aj Yp),((D.trans HX.o).alloc _).drewN _⟩
 · obtain rfl:k=1:=aa;rw[show lo+1*2=lo+2 from rfl] at e0 e1;go_wp2_with fail;go_quiet ((go_at_call 116;exact aaI (HW.o _)));clear F;go_wp2_with fail;go_ret;exact⟨aY (by rw[T.o];exact dK HZ.o HE.o aj Yp),((D.trans HX.o).alloc _).drewN _⟩):p:=t
def AbO{p:Prop}(t:p:=by rw[YB] at f0;clear YB;have q5:((bus:Int)==bus)=ε:=ag;go_wp2_with fail;go_quiet ((go_at_call 116;exact aaI (HW.o _)));clear F;go_wp2_with fail;go_quiet (fail);go_wp2;go_ret;exact⟨aY (by rw[T.o];exact dK HZ.o HE.o aj Yp),(((D.trans HX.o).alloc _).drewN _).drewN _⟩):p:=t
def AcB{p:Prop}(t:p:=by go_enter func118,ntmps118;go_wp2;go_ret;exact⟨aY T.symm,Ext.new _ _⟩):p:=t
def AcZ{p:Prop}(t:p:=by simp at hb;rcases hb with rfl|rfl<;>first|exact Yz|exact YB):p:=t
def Adz{p:Prop}(t:p:=by simpa using q3):p:=t
def AaO{p:Prop}(t:p:=by go_wp2_with fail;go_ret;exact⟨aY Y.o,W.o,fun e=>absurd (Y.trans e) HE.o⟩):p:=t
def AbS{p:Prop}(t:p:=by go_wp2_with fail;go_ret;exact⟨aY (dE HZ.o).symm,HX.o,fun _=>HB.o⟩):p:=t
def Ac6{p:Prop}(t:p:=by have:=Ze.o;omega):p:=t
def Adp{p:Prop}(t:p:=by have:=R.o;omega):p:=t
def Aat{p:Prop}(t:p:=by go_enter func40,ntmps40;go_wp2_with fail;refine(NM.o _).mono ?_;rintro e w1 ⟨rfl,rfl⟩;go_wp2;go_ret;exact⟨aY T.symm,D.o⟩):p:=t
def AbT{p:Prop}(t:p:=by clear h0;go_wp2;go_ret;exact⟨aY Q.symm,D.trans (U.mono (by rw[<-HM.o];exact κ _))⟩):p:=t
def AcI{p:Prop}(t:p:=by rw[HM.o];exact κ _):p:=t
def Aag{p:Prop}(t:p:=by go_enter func41,ntmps41;go_wp2;go_ret;exact⟨aY Q.symm,(Ext.new _ _).trans (Ext.new _ _)⟩):p:=t
def AbN{p:Prop}(t:p:=by
 by_cases g1:f.r<0
 .have K:decide (f.r<0)=ε:=ae;have Q:Hid (fu n0 n1 f=2):=aW (by rw[R.o,ι (.inl g1)]);exact Aag
 have K:decide (f.r<0)=ζ:=ae;by_cases g2:1000<f.r
 .have F:decide (1000<f.r)=ε:=ae;have Q:Hid (fu n0 n1 f=2):=aW (by rw[R.o,ι (.inr g2)]);exact Aag
 have F:decide (1000<f.r)=ζ:=ae;have Q:Hid (fu n0 n1 f=0):=aW (by rw[R.o,θ aa]);exact Aag):p:=t
def Acw{p:Prop}(t:p:=by have Q:Hid (fu n0 n1 f=10):=aW (mh C (by have:=S.o;omega));exact Aag):p:=t
def Aac{p:Prop}(t:p:=by go_enter func16,ntmps16;go_wp2_with fail;refine P.mono ?_;rintro e w1 ⟨rfl,J⟩;have C:=(R.ext J).cell;have Y:=(U.ext J).cell;have W:=aW J;clear J;go_wp2;go_ret;exact⟨aY (by rw[V.o];exact Q.symm),D.trans W.o⟩):p:=t
def AbM{p:Prop}(t:p:=by
 by_cases g1:f.r<0
 .have K:decide (f.r<0)=ε:=ae;have Q:Hid (fu n0 n1 f=2):=aW (by rw[HR.o,ι (.inl g1)]);exact Aac
 have K:decide (f.r<0)=ζ:=ae;by_cases g2:1000<f.r
 .have F:decide (1000<f.r)=ε:=ae;have Q:Hid (fu n0 n1 f=2):=aW (by rw[HR.o,ι (.inr g2)]);exact Aac
 have F:decide (1000<f.r)=ζ:=ae;have Q:Hid (fu n0 n1 f=0):=aW (by rw[HR.o,θ aa]);exact Aac):p:=t
def Acv{p:Prop}(t:p:=by have Q:Hid (fu n0 n1 f=10):=aW (mh hz (by have:=Z1.o;omega));exact Aac):p:=t
def AbE{p:Prop}(t:p:=by go_enter func80,ntmps80;go_wp2;go_ret;exact⟨aY Q.symm,D.o⟩):p:=t
def Ab3{p:Prop}(t:p:=by obtain rfl:n3=k:=aa;have Q:Hid (jq s p=0):=aW (Mj H3.o Yy.o YI.o HZ.o Za.o);go_wp2_with fail;go_ret;exact⟨aY Q.symm,D.trans HX.o⟩):p:=t
def AcK{p:Prop}(t:p:=by rw[Zd.o];exact h3):p:=t
def AaY{p:Prop}(t:p:=by have Q:Hid (jq s p=16):=aW (uH H3.o Yy.o YI.o HZ.o F (by rw[H.o];exact I) (by rw[Yv.o];exact uw aa (.inr ⟨aa,aa⟩)));go_wp2;go_ret;exact⟨aY Q.symm,D.trans HX.o⟩):p:=t
def Ade{p:Prop}(t:p:=by go_enter func39,ntmps39;go_wp2;go_ret;exact⟨aY Q.symm,D.o⟩):p:=t
def AcT{p:Prop}(t:p:=by
 rcases Bn n with j|j
 .exact j
 .obtain⟨_,_,e,_⟩:=h j;cases e):p:=t
def AaD{p:Prop}(t:p:=by go_enter func53,ntmps53;go_wp2_with fail;go_ret;exact SmP.no ((Ext.new _ _).alloc _)):p:=t
def Adl{p:Prop}(t:p:=by have:=HT.o;omega):p:=t
def Acl{p:Prop}(t:p:=by have:=D.o;omega):p:=t
def Aco{p:Prop}(t:p:=by rw[Z4,ω,ω];omega):p:=t
def Aal{p:Prop}(t:p:=by intro R I;have hW:=I.1;have ZR:RI R (iv Zy Yx Zm Zo) D:=RG.at1 (I.2 3 ((gv Zy Yx Zm Zo ZB YE Zp Zx Zz YF Zt Zr),ZE,ZC) rf ah);have ZT:RI R (iv ZB YE Zp Zx) Yu:=RG.at2 (I.2 3 ((gv Zy Yx Zm Zo ZB YE Zp Zx Zz YF Zt Zr),ZE,ZC) rf ah);have ZW:RI R (iv Zz YF Zt Zr) Yq:=RG.at3 (I.2 3 ((gv Zy Yx Zm Zo ZB YE Zp Zx Zz YF Zt Zr),ZE,ZC) rf ah);have ZV:RI R (iv YL Yz Zk ZA) Yr:=RG.at1 (I.2 7 ((gv YL Yz Zk ZA Zn Yw Zq YK Zv YD Zl Zw),ZG,ZF) rf ah);have ZU:RI R (iv Zn Yw Zq YK) Yv:=RG.at2 (I.2 7 ((gv YL Yz Zk ZA Zn Yw Zq YK Zv YD Zl Zw),ZG,ZF) rf ah);have ZX:RI R (iv Zv YD Zl Zw) Yt:=RG.at3 (I.2 7 ((gv YL Yz Zk ZA Zn Yw Zq YK Zv YD Zl Zw),ZG,ZF) rf ah);clear I;go_simp;exact⟨rfl,(yT g6 _ D Yu Yq _ Yr Yv Yt _ (Blk.ext (hS.aH 2) hW) (RG.mk ZR ZT ZW) (RG.mk ZV ZU ZX)).mono fun e w' ⟨v,O,hR,J⟩=>⟨v,O,J,hR⟩⟩):p:=t
def AbZ{p:Prop}(t:p:=by exact tq rfl rfl rfl (hS.aH 4) ⟨_,rfl,⟨_,rfl,⟨_,_,_,_,_,_,RP.mk (hS.aF 5) (hS.aF 4) (hS.aF 3) (hS.aF 2) (hS.aF 1) (hS.aF 0),cC,dc,cB,db⟩⟩,hS.ext⟩):p:=t
def Abp{p:Prop}(t:p:=by rw[Ej,Ej] at this;omega):p:=t
def Aae{p:Prop}(t:p:=by obtain⟨YJ,YE,YI,YC,YF,YB,YD,YK,Yz,YH,YA,YG,rfl⟩:=hv.opn;have k6:=j.cell;have f6:=j.frozen;obtain⟨p1,p2,p3⟩:=fe Y aa j hv;have P1:=aW p1;have P2:=aW p2;have P3:=aW p3;clear p1 p2 p3 Y j hv;go_wp2_with fail;exact dG rfl rfl rfl P2.o ⟨_,rfl,P3.o,P1.o⟩):p:=t
def AbL{p:Prop}(t:p:=by rintro e w2 ⟨v,rfl,⟨u,rfl,hu⟩,J⟩;clear k0;replace Y:=Y.trans J;replace j:=j.ext J;replace O:=O.ext J;clear J F Q;go_wp2_with fail;refine(uz g u _ _ _ O hu).mono ?_;rintro e w3 ⟨v,rfl,hv,J⟩;replace Y:=Y.trans J;replace j:=j.ext J;clear J hu O;exact Aae):p:=t
def AaL{p:Prop}(t:p:=by go_enter func190,ntmps190;go_wp2_with fail;go_ret;exact⟨rfl,Ext.refl _⟩):p:=t
def Adq{p:Prop}(t:p:=by exact fun e=>Yt e.symm):p:=t
theorem Aa9{p:Prop}(t:p:=by unfold pF;rw[θ aa,θ aa];simp only[oZ];exact Yv.o.2 aa _ _ (S.o D aa M).1 (S.o D aa M).2 G.o.1 G.o.2 YU.o):p:=t
theorem Acm{p:Prop}(t:p:=by intro j hj;unfold pF;rw[θ aa];exact Yv.o.1 aa _ _ (S.o D aa M).1 (S.o D aa M).2 hj):p:=t
theorem AcQ{p:Prop}(t:p:=by intro j hj;unfold pF;rw[θ aa];simp only[oZ];exact Yv.o.1 aa _ _ G.o.1 G.o.2 hj):p:=t
theorem Adb{p:Prop}(t:p:=by intro j hj;unfold pF;rw[θ aa];simp only[oZ];exact HZ.o _ _ G.o.1 G.o.2 hj):p:=t
def Abm{p:Prop}(t:p:=by exact⟨_,hp.1.1,hp.1.2,(ae1 W).trans hp.2⟩):p:=t
def Ack{p:Prop}(t:p:=by subst e;rw[upd_same];exact⟨rfl,⟨f,YL.o,YF.o⟩,by have:=YT.o;show w.heap.size<=g;omega⟩):p:=t
def AcM{p:Prop}(t:p:=by
 by_cases e:D=i
 .subst e;rw[upd_same];exact⟨rfl,rfl⟩
 .rw[upd_ne e];exact HD.o.len D aa):p:=t
def Aa1{p:Prop}(t:p:=by have:=T.o;omega):p:=t
def Abq{p:Prop}(t:p:=by rintro g ⟨i,hi,rfl⟩ ⟨j,hj,e⟩;have h1:=ZF.o i hi;have h2:=(YX.o j hj).1;omega):p:=t
def AbJ{p:Prop}(t:p:=by rintro e w2 ⟨v,rfl,⟨u,rfl,hu⟩,J⟩;clear k0 k4 k5;replace Y:=Y.trans J;replace j:=j.ext J;replace O:=O.ext J;have ZC:=J.size;clear J F Q;obtain⟨YT,YU,YS,YP,YN,YM,YL,YV,YW,YR,YO,YQ,rfl⟩:=hu.opn;obtain⟨B,YX⟩:=an1 w2 42 #[YT,aO YU YS YP,YN,aO YM YL YV,YW,aO YR YO YQ];have HU:=aW (hu.ext B);clear hu;replace Y:=Y.trans B;replace j:=j.ext B;replace O:=O.ext B;have k7:=YX.cell;go_wp2_with fail;refine(rV g _ _ _ _ O HU.o).mono ?_;rintro e w3 ⟨v,rfl,hv,J⟩;replace Y:=Y.trans J;replace j:=j.ext J;clear J;exact Aae):p:=t
def Acx{p:Prop}(t:p:=by rintro e w3 ⟨v,rfl,hv,J⟩;replace Y:=Y.trans J;replace j:=j.ext J;clear J;exact Aae):p:=t
def Abg{p:Prop}(t:p:=by have e:dC b.u (part r0 bs b L)=fun _=>GQ.i 0 0:=funext fun l=>yU r0 bs b L l;rw[e];exact nJ _ cs):p:=t
def Abw{p:Prop}(t:p:=by rw[nV];omega):p:=t
def Aaw{p:Prop}(t:p:=by rintro e w3 ⟨v,rfl,hv,J⟩;have B:=W.trans J;have l:=aW B;clear J;obtain⟨YJ,YE,YI,YC,YF,YB,YD,YK,Yz,YH,YA,YG,rfl⟩:=hv.opn;have Q:=aW hv;go_wp2_with fail;refine I _ _ ⟨⟨w3,B⟩,rfl⟩ ?_;clear I K B hv C Y1;simp only[cK,ξ,τ];have k6:=(S.ext l.o).cell;have f6:=(S.ext l.o).frozen;obtain⟨p1,p2,p3⟩:=fe (HE.trans l.o) (show w.heap.size<=w.heap.size+1 by omega) (S.ext l.o) Q.o;have P1:=aW p1;have P2:=aW p2;have P3:=aW p3;clear p1 p2 p3;go_wp2_with fail;exact dG rfl rfl rfl P2.o ⟨_,rfl,P3.o,P1.o⟩):p:=t
def Abr{p:Prop}(t:p:=by rw[aaV,aan] at this;rw[hb.cell,Γ,this];exact j):p:=t
def AbG{p:Prop}(t:p:=by exact⟨0,0,by ext<;>simp only[GQ.dU,GQ.dV,GQ.dM,GQ.dJ]<;>grind,aj⟩):p:=t
def AbH{p:Prop}(t:p:=by have:=(hb b h).a;omega):p:=t
def AbV{p:Prop}(t:p:=by rw[Ad,bN];omega):p:=t
def Abu{p:Prop}(t:p:=by rw[iA _ _ (by rw[bN,bN])] at this;exact this):p:=t
def Aa5{p:Prop}(t:p:=by exact Bd.mono (m:=1) (Fa aj aj (κ 1)) aa):p:=t
def Abk{p:Prop}(t:p:=by rw[sQ];omega):p:=t
def AaG{p:Prop}(t:p:=by rw[Ad,bN,bN];omega):p:=t
def AaI{p:Prop}(t:p:=by intro R hW I;clear I;go_simp;exact⟨Ext.new _ _,fun _=>⟨ag,Blk.new _ _ _⟩,rfl,ag⟩):p:=t
theorem AbQ{p:Prop}(t:p:=by have G:=(Yp.o _ _ _ K.o).up (show 64<=4400 by omega);unfold ng;rw[θ (show ¬f.kind<=3 by have:=W.o;omega),θ (show ¬f.kind<=6 by have:=W.o;omega),θ (show ¬f.kind<=9 by have:=W.o;omega),θ aj];exact G):p:=t
theorem Acy{p:Prop}(t:p:=by have G:=(Yp.o _ _ _ YZ.o).up (show 2600<=4400 by omega);unfold ng;rw[ι W.o];exact G):p:=t
def AcY{p:Prop}(t:p:=by have:=W.o;omega):p:=t
def Adg{p:Prop}(t:p:=by intro R hW I;clear I;go_simp;exact⟨Ext.refl _,fun h=>absurd h aj,rfl⟩):p:=t
def Acd{p:Prop}(t:p:=by ext<;>simp only[aeY,GQ.cO,GQ.bY]<;>grind):p:=t
def Aaq{p:Prop}(t:p:=by have Yz:=aW (L ▸ HR.s);clear L;(go_wp2_with (refine υ rfl 102 _ rfl g7 (0) rf (bD 3 fr) _ Yr.o xx rfl (jV _) (Hid.o ?_)));refine Qz ?_;refine bf rfl 102 (.tmp 6) (.tmp 46) rfl g6 (0) (bD 3 fr) rf rf N.o (jV _) (dX 3 _) (fun we G=> ?_);refine Qp ?_;replace G:=Hid.o G;have Y:=aW (Yz.fin G);clear G;go_wp2_with fail;exact jM rfl rfl rf Y.o.1 xx rfl (pG _) ⟨_,rfl,fun k hk=>Y.o.2.2 _ _ _ (K.o k hk),Y.o.2.1⟩):p:=t
def AcH{p:Prop}(t:p:=by intro R I;go_simp;exact⟨Ext.refl _,by show _=_;simp[Zw]⟩):p:=t
def Aa8{p:Prop}(t:p:=by have:=B.o.2;show q1≠q3;omega):p:=t
def AbU{p:Prop}(t:p:=by have:=YD.o;omega):p:=t
theorem AcX{p:Prop}(t:p:=by unfold sides;rw[θ (by rw[hk];decide),hk];rfl):p:=t
def Aab{p:Prop}(t:p:=by
 go_wp2_with fail;go_quiet (fail);generalize J:we.drewN nq=wq;have Yq:Ext we wq:=by rw[<-J];exact(Ext.refl _).drewN _
 replace Yv:=Yv.aA Yq;replace U:=U.aA Yq;clear Yq J YK Yy YM YQ;have YK:wq.cell? (aM YR 0)=γ (.int .i64 (b.a:Int)):=(U.cell 0).trans (by rw[<-YI.o.1];rfl);have Yy:wq.cell? (aM YR 1)=γ (.int .i64 (b.b:Int)):=(U.cell 1).trans (by rw[<-YI.o.2];rfl);clear hq U;go_wp2_with fail;clear YK Yy;go_loopw [2,44] (fun cv jv wx=>∃(j:Nat) (D:Bool),j<=2/\jv=.int .i64 j/\cv=.bool D/\Rv w wx gx C E bs (stp b G j)/\cnt L 18<=cnt (stp b G j) 18/\(D=ζ->ch=ζ/\stp b G j=G)/\(D=ε->cnt L 18<cnt (stp b G j) 18)) (fun _ jv _=>2-(intOf jv).toNat)
 case atStart=>exact⟨0,ch,aa,rfl,rfl,Yv.o,R.le,fun h=>⟨h,rfl⟩,R.yes⟩
 case round=>
  rename World=>wx;obtain⟨j,D,hj,rfl,rfl,Y,YO,W,Yu⟩:=hrel;have K:=aW Y;have YD:=aW YO;have S:=aW W;have Yr:=aW Yu;clear Y YO W Yu Yv;by_cases T:j<2
  .have YL:decide ((j:Int)<2)=ε:=ae;have ac:=Us (a:=b.a) (b:=b.b) T wx;obtain⟨n,hn⟩:∃n,(if j=0 then b.a else b.b)=n:=⟨_,rfl⟩;rw[hn] at ac;have YT:n<=17:=by rw[<-hn];split<;>omega
   have F:=xX b G T;rw[hn,YV.o] at F;have l:=aW F;have YP:=aW hn;clear F hn;have V:n≠17->JoinD bs n:=fun B=>by
    rw[<-YP.o] at B⊢;split
    .exact KU HM.o Zy.sub I.o YV.o
    .rename_i h0;rw[θ h0] at B;exact LG HM.o Zy.sub I.o YV.o B
   have YY:=aW V;clear V;have YB:=K.g.cell_ (k:=15+n) aa ((dR aa).trans (oo aa));have r1:(0:Int)<=n:=aa;have r2:(n:Int)<18:=aa;by_cases M:n=17
   .have YW:((n:Int)==17)=ε:=by rw[M];rfl
    have Q:=aW (qB (lb:=ε) (n:=n) (L:=stp b G j) (Or.inr (Or.inl M)));go_wp2_with fail
    go_roundw
    case rel=>exact⟨j+1,D,aa,au,rfl,by rw[l.o,Q.o];exact K.o,by rw[l.o,Q.o];exact YD.o,fun h=>by rw[l.o,Q.o];exact S.o h,fun h=>by rw[l.o,Q.o];exact Yr.o h⟩
    case measure=>exact aV
   .have YW:((n:Int) !=17)=ε:=ae;have Zh:¬((n:Int)=17):=aa;cases Yz:stp b G j n with
    |true=>
     rw[Yz] at YB;have Z:=aW Yz;clear Yz;have Q:=aW (qB (lb:=ε) (n:=n) (L:=stp b G j) (Or.inr (Or.inr Z.o)));go_wp2_with fail
     go_roundw
     case rel=>exact⟨j+1,D,aa,au,rfl,by rw[l.o,Q.o];exact K.o,by rw[l.o,Q.o];exact YD.o,fun h=>by rw[l.o,Q.o];exact S.o h,fun h=>by rw[l.o,Q.o];exact Yr.o h⟩
     case measure=>exact aV
    |false=>
     rw[Yz] at YB;have Z:=aW Yz;clear Yz;have Zk:=K.g.frozen (15+n);have YG:=aW (K.set (n:=n) aa (YY.o M));have Yw:=Ak Z.o 18;rw[ι aa] at Yw;have Yx:=aW Yw;clear Yw;have N:=aW M;clear M;go_wp2_with fail
     go_roundw
     case rel=>exact⟨j+1,ε,aa,au,rfl,by rw[l.o,kQ rfl N.o Z.o];exact YG.o,by rw[l.o,kQ rfl N.o Z.o,Yx.o];have:=YD.o;omega,(fun h=>by cases h),fun _=>by rw[l.o,kQ rfl N.o Z.o,Yx.o];have:=YD.o;omega⟩
     case measure=>exact aV
  .obtain rfl:j=2:=aa;have YL:decide ((2:Int)<2)=ζ:=aj
   go_wp2_with fail
   go_roundw
   case rel=>exact⟨i+1,stp b G 2,D,aa,by rw[O.o];rfl,rfl,K.o,FM I.o 2,R.next Za.o YD.o (S.o) (Yr.o)⟩
   case measure=>rw[O.o];simp[aT,intOf];omega):p:=t
def AcG{p:Prop}(t:p:=by rw[YN];exact(Blk.new wz 167 zBr).there (show 0+(Bv i).cs.length<=zBr.size from κ 20)):p:=t
def AbB{p:Prop}(t:p:=by
 rintro(e|e)
 .exact Blk.eY h.b7 h.g.r.g aj e
 .exact h.g.r.own.ne h.b7 aj e):p:=t
theorem Abx{p:Prop}(t:p:=by
 unfold qo at hp;split at hp
 .rename_i x J;exact(hn ⟨x,J⟩).elim
 .exact hp):p:=t
def Abl{p:Prop}(t:p:=by rintro(e|e);exact Blk.eY ao T.g.r.g aj e;exact T.g.r.own.ne ao aj e):p:=t
def Ab9{p:Prop}(t:p:=by rw[Ad,bN];exact κ 12):p:=t
def AcJ{p:Prop}(t:p:=by have:=YM.o;omega):p:=t
def Ac4{p:Prop}(t:p:=by have:=YP.o;omega):p:=t
def Adm{p:Prop}(t:p:=by have:=YK.o;omega):p:=t
def Adv{p:Prop}(t:p:=by have:=a1.o;omega):p:=t
def Aau{p:Prop}(t:p:=by
 go_roundw
 case rel=>exact⟨i+1,aa,by rw[Zg.o];rfl,_,_,_,Yv.o⟩
 case measure=>rw[Zg.o];simp[aT,intOf];omega):p:=t
def Adk{p:Prop}(t:p:=by rw[YT.o];exact H1.o):p:=t
def Adw{p:Prop}(t:p:=by have:=cj.o;omega):p:=t
def AbR{p:Prop}(t:p:=by
 go_roundw
 case rel=>exact⟨i+1,aa,by rw[O.o];rfl,by rw[Fz (by have:=ZH.o;omega) Zl.o,Gh (by have:=ZH.o;omega) Zl.o];exact HR.ext ((Ext.refl _).drewN _)⟩
 case measure=>rw[O.o];simp[aT,intOf];omega):p:=t
def Ac7{p:Prop}(t:p:=by have:=Zn.o;omega):p:=t
def Adn{p:Prop}(t:p:=by rw[l];exact Blk.new _ _ _):p:=t
def AaU{p:Prop}(t:p:=by rw[nH,B,C];omega):p:=t
def AcL{p:Prop}(t:p:=by simp only[nH,Be,abK,D,C];omega):p:=t
theorem Abb{p:Prop}(t:p:=by unfold yC at this;rw[ι ⟨j,B⟩] at this;exact this):p:=t
def AcU{p:Prop}(t:p:=by rw[G];exact((((Ext.new _ _).alloc _).alloc _).alloc _)):p:=t
def Adc{p:Prop}(t:p:=by rw[G];exact(((Blk.new _ _ _).alloc _).alloc _).alloc _):p:=t
def Ado{p:Prop}(t:p:=by rw[G];exact((aeW _ _ (fZ _ _)).alloc _).alloc _):p:=t
theorem AbC{p:Prop}(t:p:=by unfold chunk;rw[ι aa,show(j*6+t)%6=t by omega];exact(O t B).mod l hS):p:=t
def Abj{p:Prop}(t:p:=by intro R I;go_simp;rw[Md _ (by have:=ao.o;omega)];exact⟨Ext.new _ _,rfl,ag,Blk.new _ _ _⟩):p:=t
def AbX{p:Prop}(t:p:=by rw[Ad,fD,fD];omega):p:=t
def Aan{p:Prop}(t:p:=by refine I _ _ ⟨⟨_,P⟩,rfl⟩ ?_;clear I K;refine bz 4 [(ε,5),(ε,6),(ε,7),(ζ,9)] ah ?_;intro K I;simp only[bG];go_wp2_with fail;have l:=HP.o;rw[uk] at l;refine(solve_run I7 _ (HS.ext P) l yn one_pos F5).mono ?_;clear l;rintro _ wS ⟨GC,GV_,ec,ev,ef,rfl,B,F⟩;replace P:=P.trans F;replace V:=V.aA F;replace HP:=HP.aA F;have S:=aW B;clear B F;go_wp2_with fail;refine I _ _ ⟨⟨_,P⟩,rfl⟩ ?_;clear I K;refine bC [5,6,7] [(ζ,9)] _ ah ?_;refine Gq ?_;refine bz 9 [] ah ?_;intro K I;simp only[bG];have N:Hid (World.there wS gb 0 (gF (.slice (γ (aM GC 0)) gL.bays.length gL.bays.length) (.slice (γ (aM GV_ 0)) gL.bays.length gL.bays.length) ef).length):=aW (V.there (by rw[Ad,fD,fD];omega));refine bf rfl 47 (.tmp 2) (.tmp 11) rfl gb 0 (gF (.slice (γ (aM GC 0)) gL.bays.length gL.bays.length) (.slice (γ (aM GV_ 0)) gL.bays.length gL.bays.length) ef) rf rf N.o (mq _ _ _) (sN _ _ _ rfl rfl) (fun wT G=> ?_);refine Qp ?_;replace G:=Hid.o G;have j:=AB P YN.o V.o S.o G;clear G N;simp only[wpList];refine⟨trivial,?_⟩;refine I _ _ ⟨⟨_,j.2.2⟩,rfl⟩ ?_;clear I K;exact⟨gb,lG PA 1 pc PB 1 qc,GC,GV_,ec,ev,ef,by simp only[Act.put,aQ,BB,De],j.1,j.2.1,j.2.2⟩):p:=t
def AcD{p:Prop}(t:p:=by go_wp2_with fail;refine(Ag _).mono ?_;rintro _ w2 ⟨rfl,D⟩;have HY:=aW (HX.trans D);clear D;go_wp2_with fail;go_ret;exact⟨rfl,HY.o⟩):p:=t
def aa{p:Prop}(h:p:=by omega):p:=h
def ae{p:Prop}(h:p:=by simp;omega):p:=h
def ag{p:Prop}(h:p:=by simp):p:=h
def rf{p:Prop}(h:p:=by rfl):p:=h
def ah{p:Prop}(h:p:=by kernel_rfl):p:=h
def aj{p:Prop}(h:p:=by decide):p:=h
def ak{p:Prop}(h:p:=by grind):p:=h
def au{p:Prop}(h:p:=by go_num):p:=h
def aS{p q : Prop}(h : q)(t : Hid q -> p := by intro h;(repeat (go_big_quiet_step (fail)));refine aa6 ?_;exact h.o): p := t h
def Gw{p q : Prop}(h : q)(t : Hid q -> p := by intro h;go_wp2_with fail;exact h.o): p := t h
def Gm{p : Prop}{P : Program}{f : FuncId}{a : Array Value}{w : World}{G q : Ending -> World -> Prop}(c : Calls P f a w G)(h : ∀ e w', G e w' -> q e w')(t : Hid (Calls P f a w G) -> Hid (∀ e w', G e w' -> q e w') -> p := by intro c h;go_wp2_with fail;exact c.o.mono h.o): p := t c h
theorem Gu(a:Addr)(n:Nat):(a.add n).block=a.block:=by unfold Addr.add;split<;>rfl
abbrev Ext (w w':World):Prop:=Below w.heap.size w w'
def _root_.Go.RowKit.Hid.aA{p q r:Prop}(h:Hid p)(e:r)(t:p->r->q:=by intro h e;exact h.ext e):Hid q:=Lib.hid (t h.o e)
def _root_.Go.RowKit.Hid.aC{p q r:Prop}(h:Hid p)(e:r)(t:p->r->q:=by intro h e;exact h.trans e):Hid q:=Lib.hid (t h.o e)
def CV (f:FuncId) (a:Array Value) (w:World) (G:Value->World->Prop):Prop:=Calls prog f a w fun e w'=>∃v,e=.returned v/\G v w'/\Ext w w'
def CE (f:FuncId) (a:Array Value) (w:World) (v:Value):Prop:=Calls prog f a w fun e w'=>e=.returned v/\Ext w w'
def Ext.refl(w):Ext w w:=acl _ _
def Ext.trans{a b c}(h:Ext a b)(k:Ext b c):Ext a c:=Below.trans h (k.mono h.size)
def Ext.alloc{a w}(h:Ext a w)(o:Obj):Ext a (w.alloc o):=Below.alloc h h.size o
def Ext.drew{a w}(h:Ext a w):Ext a w.drew:=Below.drew h
def Ext.drewN{a w}(h:Ext a w)(n):Ext a (w.drewN n):=⟨h.os,h.tape,h.output,h.size,h.block⟩
def Ext.setCell{a w}(h:Ext a w){p}(hp:a.heap.size<=p.block)(u):Ext a (w.setCell p u):=Below.setCell h hp u
def Ext.new(w)(o:Obj):Ext w (w.alloc o):=(Ext.refl w).alloc o
def Reads (w:World) (B size:Nat) (A:Option Addr) (n:Nat) (xs:List Value):Prop:=
 xs.length=n*size/\(0<n->∃l,A=γ l/\l.block<B/\∀j u,xs[j]? =γ u->w.cell? (l.add j)=γ u)
section
variable {w w':World} {B B' size n:Nat} {A:Option Addr} {xs:List Value}
def afp:Reads w B size A 0 []:=⟨ag,fun h=>absurd h aa⟩
def Reads.at_{k}(h:Reads w B 1 A n xs)(l:k<n):∃j u,A=γ j/\j.block<B/\xs[k]? =γ u/\w.cell? (j.add k)=γ u:=by
 obtain⟨j,e,hb,hc⟩:=h.2 aa;have Z:k<xs.length:=by have:=h.1;omega
 exact⟨j,xs[k],e,hb,ν Z,hc k _ (ν Z)⟩
def Reads.keep(h:Reads w B size A n xs)(l:∀p:Addr,p.block<B->w'.cell? p=w.cell? p):Reads w' B size A n xs:=
 ⟨h.1,fun hn=>by
  obtain⟨D,e,hb,hc⟩:=h.2 hn;exact⟨D,e,hb,fun j u C=>(l _ (by rw[Gu];exact hb)).trans (hc j u C)⟩⟩
def Reads.more(h:Reads w B size A n xs)(l:B<=B'):Reads w B' size A n xs:=
 ⟨h.1,fun hn=>by
  obtain⟨j,e,hb,hc⟩:=h.2 hn;exact⟨j,e,aa,hc⟩⟩
def Reads.below(h:Reads w B size A n xs)(hb:Below B w w'):Reads w' B size A n xs:=h.keep fun _ hp=>hb.cell hp
def Reads.ext(h:Reads w w.heap.size size A n xs)(hb:Ext w w'):Reads w' w'.heap.size size A n xs:=(h.below hb).more hb.size
end
def Blk (w:World) (g:Nat) (t:TypeId) (cs:Array Value):Prop:=w.heap[g]? =γ (.cells cs t (0,0))
section
variable {w w':World} {g:Nat} {t:TypeId} {cs:Array Value}
theorem Blk.lt(h:Blk w g t cs):g<w.heap.size:=by
 rcases Na g w.heap.size with j|l
 .exact j
 .unfold Blk at h;rw[aau l] at h;cases h
def Blk.cell(h:Blk w g t cs)(i):w.cell? (aM g i)=cs[i]? :=cell_of_row w g i cs t (0,0) h
theorem Blk.frozen(h:Blk w g t cs)(i):w.frozen? ⟨g,i,δ⟩=ζ:=by
 unfold Blk at h;simp[World.frozen?,h]
def Blk.new(w:World)(t:TypeId)(cs:Array Value):Blk (w.alloc (.cells cs t)) w.heap.size t cs:=heap_alloc_new w _
def aeW{w:World}{g:Nat}(t:TypeId)(cs:Array Value)(h:w.heap.size=g):Blk (w.alloc (.cells cs t)) g t cs:=by subst h;exact Blk.new w t cs
def Blk.drew(h:Blk w g t cs):Blk w.drew g t cs:=h
def Blk.drewN(h:Blk w g t cs)(n):Blk (w.drewN n) g t cs:=h
def Blk.alloc(h:Blk w g t cs)(o:Obj):Blk (w.alloc o) g t cs:=(aas w o g h.lt).trans h
theorem Blk.mM(h:Blk w g t cs)(i u):Blk (w.setCell ⟨g,i,δ⟩ u) g t (cs.setIfInBounds i u):=by
 unfold Blk at h⊢;simp[World.setCell,Array.getElem?_modify,h]
def Blk.far(h:Blk w g t cs){p}(hp:g≠p.block)(u):Blk (w.setCell p u) g t cs:=(abZ w p u g hp).trans h
def Blk.below{B}(h:Blk w g t cs)(hb:Below B w w')(j:g<B):Blk w' g t cs:=(hb.block g j).trans h
def Blk.ext(h:Blk w g t cs)(hb:Ext w w'):Blk w' g t cs:=h.below hb h.lt
theorem Blk.reads{n size}(h:Blk w g t cs)(hn:cs.size=n*size):Reads w w.heap.size size (γ ⟨g,0,δ⟩) n cs.toList:=
 ⟨by simpa using hn,fun _=>⟨_,rfl,h.lt,fun j u B=>by
  have e:Addr.add ⟨g,0,δ⟩ j=⟨g,j,δ⟩:=by unfold Addr.add;by_cases l:j=0<;>simp[l]
  rw[e,h.cell];simpa using B⟩⟩
end
def Blk.Pk{w:World}{g i:Nat}{t:TypeId}{l:List Value}(h:Blk w g t l.toArray)(hi:i<l.length):∃u,w.cell? (aM g i)=γ u:=
 ⟨l[i],by rw[h.cell];simp[hi]⟩
def Blk.QD{w:World}{g i:Nat}{t:TypeId}{l:List Value}(h:Blk w g t l.toArray)(u:Value):Blk (w.setCell ⟨g,i,δ⟩ u) g t (l.set i u).toArray:=by
 have:=h.mM i u;simpa using this
theorem vN(z n):madeCells #[z] n=(List.replicate n z).toArray:=by
 unfold madeCells;apply Array.ext
 .simp
 .intro i l j;simp[Nat.mod_one]
structure aX (w:World) where
 val:World
 ext:Ext w val
instance (w:World):Nonempty (aX w):=⟨⟨w,Ext.refl w⟩⟩
def aY{k a b}(h:a=b):Ending.returned (.int k a)=.returned (.int k b):=by rw[h]
def bE{a b}(h:a=b):Ending.returned (.bool a)=.returned (.bool b):=by rw[h]
def iZ:Op->Bool
 | .move _| .assign _| .pick _ _ _| .load _ _| .build _ _| .binOp _ _ _ _ _| .unOp _ _ _| .convert _ _ _| .fieldAddr _ _ _| .field _ _ _| .indexAddr _ _ _| .index _ _ _| .extract _ _| .slice _ _ _ _ _=>ε
 | .call c=>match c.callee with
  | .builtin .len| .builtin .min| .builtin .max=>ε
  |_=>ζ
 |_=>ζ
def rQ{s:Result Value}{f args w'}(h:s.andThen (fun x w=>Result.ok (Next.value x) w)=.ok (.enter f args) w'):False:=by
 cases s<;>simp[Result.andThen] at h
def mK{P}{ev:Operand->Value}{o w w' f args}(hp:iZ o.op=ε)(h:(execOp ev o).run P w=.ok (.enter f args) w'):False:=by
 obtain⟨l,op,F,pos,G,D⟩:=o;cases op<;>simp only[iZ,RS] at hp<;>simp only[execOp,aaD,aa7] at h
 case call c=>
  obtain⟨j,C,B⟩:=c;cases j<;>simp only[RS] at hp
  case builtin b=>
   cases b<;>simp only[RS] at hp<;>simp only[resolve,aaD,aa7,aax,invoke,builtin] at h<;>exact rQ h
 case pick c x y=>cases hb:(asBool (ev c)).run P w<;>simp[hb,Result.andThen] at h
 all_goals first
  |exact rQ h
  |(simp at h;done)
def Book:Type:=Nat->Option (Value×Nat×Nat)
def Book.none:Book:=fun _=>Option.none
def Book.set (F:Book) (i:Nat) (e:Value×Nat×Nat):Book:=fun x=>if x=i then γ e else F x
theorem af8(F:Book){i j:Nat}(h:i≠j)(e f:Value×Nat×Nat):(F.set i e).set j f=(F.set j f).set i e:=by
 funext x;unfold Book.set;by_cases C:x=i<;>by_cases B:x=j<;>simp[C,B]
 .subst C;exact absurd B h
 .intro l;exact absurd l h
 .intro l;exact absurd l.symm h
def ae4(F:Book)(i:Nat)(e:Value×Nat×Nat):(F.set i e) i=γ e:=by simp[Book.set]
def ae2(F:Book){i j:Nat}(e:Value×Nat×Nat)(h:j≠i):(F.set i e) j=F j:=by simp[Book.set,h]
def anc (ops:Array Oper):Nat->Nat->Nat->Bool
 |0,_,_=>ζ
 |f+1,k,p=>match ops[k]? with
  |Option.none=>ζ
  |some o=>o.after.any fun e=>Region.binds .any e&&(e.on==p||anc ops f e.on p)
section
variable {P:Program} {ops:Array Oper} {w0:World} {E:Nat->Bool} {Φ:Nat->Nat->Nat->Value->World->Prop}
structure fT (w0:World) (Φ:Nat->Nat->Nat->Value->World->Prop) (F:Book) (w:World):Prop where
 ext:Ext w0 w
 fact:∀i e,F i=γ e->Φ i e.2.1 e.2.2 e.1 w
 size:∀i e,F i=γ e->e.2.2<=w.heap.size
 low:∀i e,F i=γ e->w0.heap.size<=e.2.1
 disj:∀i j e f,i≠j->F i=γ e->F j=γ f->e.2.2<=f.2.1\/f.2.2<=e.2.1
def Kn (ops:Array Oper) (w0:World) (Φ:Nat->Nat->Nat->Value->World->Prop) (k:Nat) (F:Book) (w:World):Prop:=
 Ext w0 w/\∀i e,F i=γ e->anc ops ops.size k i=ε->Φ i e.2.1 e.2.2 e.1 w
def vD (P:Program) (Ψ:Nat->Nat->Value->World->Prop) (w:World):Result Next->Prop
 | .ok (.value v) w'=>Ext w w'/\Ψ w.heap.size w'.heap.size v w'
 | .ok (.enter f args) w1=>w1=w/\Calls P f args w (fun e w'=>∃v,e=.returned v/\Ext w w'/\Ψ w.heap.size w'.heap.size v w')
 |_=>False
def fT.put{F w w' k v}(B:∀i lo hi v w w',Φ i lo hi v w->Ext w w'->Φ i lo hi v w')(hF:F k=Option.none)(h:fT w0 Φ F w)(J:Ext w w')(hv:Φ k w.heap.size w'.heap.size v w'):
  fT w0 Φ (F.set k (v,w.heap.size,w'.heap.size)) w':=by
 refine⟨h.ext.trans J,fun i e O=> ?_,fun i e O=> ?_,fun i e O=> ?_,fun i j e f C O l=> ?_⟩
 .by_cases hi:i=k
  .subst hi;rw[ae4] at O;cases O;exact hv
  .rw[ae2 _ _ hi] at O;exact B _ _ _ _ _ _ (h.fact i e O) J
 .by_cases hi:i=k
  .subst hi;rw[ae4] at O;cases O;exact κ _
  .rw[ae2 _ _ hi] at O;exact Ξ (h.size i e O) J.size
 .by_cases hi:i=k
  .subst hi;rw[ae4] at O;cases O;exact h.ext.size
  .rw[ae2 _ _ hi] at O;exact h.low i e O
 .by_cases hi:i=k
  .subst hi;rw[ae4] at O;cases O;rw[ae2 _ _ (abu C)] at l;exact .inr (h.size j f l)
  .rw[ae2 _ _ hi] at O;by_cases D:j=k
   .subst D;rw[ae4] at l;cases l;exact .inl (h.size i e O)
   .rw[ae2 _ _ D] at l;exact h.disj i j e f C O l
def fT.sub{F G w}(h:fT w0 Φ G w)(hs:∀i e,F i=γ e->G i=γ e):fT w0 Φ F w:=
 ⟨h.ext,fun i e O=>h.fact i e (hs i e O),fun i e O=>h.size i e (hs i e O),fun i e O=>h.low i e (hs i e O),fun i j e f l O B=>h.disj i j e f l (hs i e O) (hs j f B)⟩
def afC{F:Book}{i:Nat}{e:Value×Nat×Nat}(hF:F i=Option.none):∀x f,F x=γ f->(F.set i e) x=γ f:=by
 intro x f J;by_cases h:x=i
 .subst h;rw[hF] at J;cases J
 .rw[ae2 _ _ h];exact J
def agb{F G:Book}(h:∀x f,F x=γ f->G x=γ f){i:Nat}{e:Value×Nat×Nat}:∀x f,(F.set i e) x=γ f->(G.set i e) x=γ f:=by
 intro x f J;by_cases B:x=i
 .subst B;rw[ae4] at*;exact J
 .rw[ae2 _ _ B] at*;exact h x f J
theorem Gn{o:Oper}{a:Act}{u v:Value}{w:World}(hp:iZ o.op=ε)(j:o.quietAt P a (fun w'=>w'=w) w u)(l:o.quietAt P a (fun w'=>w'=w) w v):u=v:=by
 unfold Oper.quietAt at*
 generalize B:(execOp a.eval o).run P w=r at*
 cases r with
 |ok nx w'=>
  cases nx<;>simp only[Oper.quietUpon] at j l
  case value x=>rw[<-j.2,<-l.2]
  case skip=>rw[j.2,l.2]
  case enter f args=>exact(mK hp B).elim
 |halt x w'=>simp only[Oper.quietUpon] at j
theorem Ci{n B}(inv:HeadInv .any ops n B):∀(f k p:Nat),anc ops f k p=ε->(∀o,ops[k]? =γ o->∀e∈o.after,Region.binds .any e=ε->B.getD e.on ζ=ε)->B.getD p ζ=ε
 |0,_,_,h,_=>by simp[anc] at h
 |f+1,k,p,h,hk=>by
  unfold anc at h;split at h
  .cases h
  .rename_i o D
   obtain⟨e,O,hb⟩:=Array.any_eq_true'.1 h;simp only[ρ,acm,beq_iff_eq] at hb;have C:=hk o D e O hb.1;rcases hb.2 with l|l
   .rw[<-l];exact C
   .exact Ci inv f e.on p l (fun H j G F Q=>inv.closed e.on H j C G F Q)
def D8{n B}(inv:HeadInv .any ops n B){i j}(F:j∈Region.ready .any ops B)(hi:B.getD i ε=ζ):anc ops ops.size j i=ζ:=by
 cases h:anc ops ops.size j i with
 |false=>rfl
 |true=>
  obtain⟨_,U,C,I⟩:=abJ.1 F;have D:=Ci inv _ _ _ h (fun o l e O hb=>by rw[C] at l;injection l with l;subst l;exact I e O hb);rw[getD_both hi] at D;cases D
end
def lL (cs:Array Value):Bool:=cs.toList.all fun v=>match v with| .int _ _=>ζ|_=>ε
structure Sto (g:Nat) (w w':World):Prop where
 os:w'.os=w.os
 tape:w'.tape=w.tape
 output:w'.output=w.output
 size:w'.heap.size=w.heap.size
 block:∀i,i≠g->w'.heap[i]? =w.heap[i]?
 far:∃t cs,Blk w g t cs/\lL cs=ε
def Sto.ext{g w0 w w'}(h:Sto g w w')(J:Ext w0 w)(l:w0.heap.size<=g):Ext w0 w':=
 ⟨h.os.trans J.os,h.tape.trans J.tape,h.output.trans J.output,by rw[h.size];exact J.size,fun k j=>(h.block k aa).trans (J.block k j)⟩
def Sto.blk{g g' w w' t cs}(h:Sto g w w')(hb:Blk w g' t cs)(j:g'≠g):Blk w' g' t cs:=(h.block g' j).trans hb
section
variable {P:Program} {ops:Array Oper} {w0:World} {E:Nat->Bool} {Φ Pd Po:Nat->Nat->Nat->Value->World->Prop} {S:Nat->Option Nat}
structure Late (ops:Array Oper) (w0:World) (Φ Pd Po:Nat->Nat->Nat->Value->World->Prop) (S:Nat->Option Nat):Prop where
 ft:∀i lo hi v w w',Φ i lo hi v w->Ext w w'->Φ i lo hi v w'
 fs:∀i lo hi v g w w',(∃k j,S k=γ j)->Φ i lo hi v w->Sto g w w'->Φ i lo hi v w'
 pt:∀i lo hi v w w',Pd i lo hi v w->Ext w w'->Pd i lo hi v w'
 ps:∀i lo hi v g w w',Pd i lo hi v w->Sto g w w'->(g<lo\/hi<=g)->Pd i lo hi v w'
 qt:∀i lo hi v w w',Po i lo hi v w->Ext w w'->Po i lo hi v w'
 qs:∀i lo hi v g w w',Po i lo hi v w->Sto g w w'->(g<lo\/hi<=g)->Po i lo hi v w'
 sa:∀k j,S k=γ j->anc ops ops.size k j=ε
 si:∀k k' j,S k=γ j->S k'=γ j->k=k'
 sn:∀k j,S k=γ j->S j=δ
 fz:∀k j lo hi v w,S k=γ j->Φ k lo hi v w
structure jW (w0:World) (Φ Pd Po:Nat->Nat->Nat->Value->World->Prop) (S:Nat->Option Nat) (F:Book) (w:World):Prop extends fT w0 Φ F w where
 pend:∀k j e,S k=γ j->F j=γ e->F k=Option.none->Pd j e.2.1 e.2.2 e.1 w
 post:∀k j e x,S k=γ j->F j=γ e->F k=γ x->Po j e.2.1 e.2.2 e.1 w
 dep:∀k j,S k=γ j->F j=Option.none->F k=Option.none
def KnL (ops:Array Oper) (w0:World) (Φ Pd:Nat->Nat->Nat->Value->World->Prop) (S:Nat->Option Nat) (k:Nat) (F:Book) (w:World):Prop:=
 Ext w0 w/\(∀i e,F i=γ e->anc ops ops.size k i=ε->Φ i e.2.1 e.2.2 e.1 w)/\∀j e,S k=γ j->F j=γ e->Pd j e.2.1 e.2.2 e.1 w
def He (Φ Pd Po:Nat->Nat->Nat->Value->World->Prop) (S:Nat->Option Nat) (k:Nat) (F:Book) (w:World) (v:Value) (w':World):Prop:=
 (S k=Option.none->Ext w w'/\Pd k w.heap.size w'.heap.size v w')/\(∀j e,S k=γ j->F j=γ e->Sto e.2.1 w w'/\Po j e.2.1 e.2.2 e.1 w')/\Φ k w.heap.size w'.heap.size v w'
def sP (P:Program) (Φ Pd Po:Nat->Nat->Nat->Value->World->Prop) (S:Nat->Option Nat) (k:Nat) (F:Book) (w:World):Result Next->Prop
 | .ok (.value v) w'=>He Φ Pd Po S k F w v w'
 | .ok .skip w'=>He Φ Pd Po S k F w undef w'
 | .ok (.enter f args) w1=>w1=w/\S k=Option.none/\Calls P f args w (fun e w'=>∃v,e=.returned v/\Ext w w'/\Pd k w.heap.size w'.heap.size v w'/\Φ k w.heap.size w'.heap.size v w')
 |_=>False
def Lc (S:Nat->Option Nat) (k:Nat) (F:Book):Prop:=∀j,S k=γ j->∃e,F j=γ e/\e.2.1<e.2.2
def rJ (P:Program) (ops:Array Oper) (w0:World) (E:Nat->Bool) (Φ Pd Po:Nat->Nat->Nat->Value->World->Prop) (S:Nat->Option Nat) (k:Nat) (K:Book->Act->Prop) (F:Book) (a:Act):Prop:=
 match ops[k]? with
 |Option.none=>K F a
 |some o=>
  if Region.wanted o (yielded ops a.tmps) then
   if E k then
    Lc S k F/\(∀w,KnL ops w0 Φ Pd S k F w->sP P Φ Pd Po S k F w ((execOp a.eval o).run P w))/\
    (∀v lo hi,(∃w,fT w0 Φ (F.set k (v,lo,hi)) w)->K (F.set k (v,lo,hi)) (a.put o.dst v))
   else iZ o.op=ε/\S k=Option.none/\∃v,(∀w,Ext w0 w->o.quietAt P a (fun w'=>w'=w) w v)/\K F (a.put o.dst v)
  else K F (a.put o.dst undef)
def tV (P:Program) (ops:Array Oper) (w0:World) (E:Nat->Bool) (Φ Pd Po:Nat->Nat->Nat->Value->World->Prop) (S:Nat->Option Nat) (Q:Book->Act->Prop):List Oper->Nat->Book->Act->Prop
 |[],_,F,a=>Q F a
 |_::rest,k,F,a=>rJ P ops w0 E Φ Pd Po S k (tV P ops w0 E Φ Pd Po S Q rest (k+1)) F a
theorem Dt{k}{K R:Book->Act->Prop}{F a}(D:∃w,fT w0 Φ F w)(h:∀l a',(l=F\/∃e,l=F.set k e)->(∃w,fT w0 Φ l w)->K l a'->R l a')(j:rJ P ops w0 E Φ Pd Po S k K F a):rJ P ops w0 E Φ Pd Po S k R F a:=by
 unfold rJ at*
 split
 .rename_i C;simp only[C] at j;exact h _ _ (.inl rfl) D j
 .rename_i o C
  simp only[C] at j;split
  .rename_i B
   simp only[B,aag] at j;split
   .rename_i Y
    simp only[Y,aag] at j;exact⟨j.1,j.2.1,fun v lo hi J=>h _ _ (.inr ⟨_,rfl⟩) J (j.2.2 v lo hi J)⟩
   .rename_i Y
    simp only[Y] at j;obtain⟨hp,hs,v,H,G⟩:=j;exact⟨hp,hs,v,H,h _ _ (.inl rfl) D G⟩
  .rename_i B
   simp only[B] at j;exact h _ _ (.inl rfl) D j
theorem DX{k}{K R:Book->Act->Prop}{F a}(h:∀F a,K F a->R F a)(j:rJ P ops w0 E Φ Pd Po S k K F a):rJ P ops w0 E Φ Pd Po S k R F a:=by
 unfold rJ at*
 split
 .rename_i B;simp only[B] at j;exact h _ _ j
 .rename_i o B
  simp only[B] at j;split
  .rename_i l
   simp only[l,aag] at j;split
   .rename_i Y
    simp only[Y,aag] at j;exact⟨j.1,j.2.1,fun v lo hi J=>h _ _ (j.2.2 v lo hi J)⟩
   .rename_i Y
    simp only[Y] at j;obtain⟨hp,hs,v,D,C⟩:=j;exact⟨hp,hs,v,D,h _ _ C⟩
  .rename_i l
   simp only[l] at j;exact h _ _ j
def vI (P:Program) (ops:Array Oper) (w0:World) (E:Nat->Bool) (Φ Pd Po:Nat->Nat->Nat->Value->World->Prop) (S:Nat->Option Nat) (n:Nat) (L:Array Bool->Book->Act->Prop):Nat->Array Bool->Book->Act->Prop
 |0,listed,F,a=>L listed F a
 |f+1,listed,F,a=>Region.ready .any ops listed≠[]/\∀i∈Region.ready .any ops listed,i<n/\rJ P ops w0 E Φ Pd Po S i (vI P ops w0 E Φ Pd Po S n L f (listed.setIfInBounds i ε)) F a
def jW.put{F w w' k v}(H:Late ops w0 Φ Pd Po S)(G:S k=Option.none)(hF:F k=Option.none)(h:jW w0 Φ Pd Po S F w)(J:Ext w w')(hp:Pd k w.heap.size w'.heap.size v w')(hv:Φ k w.heap.size w'.heap.size v w'):
  jW w0 Φ Pd Po S (F.set k (v,w.heap.size,w'.heap.size)) w':=by
 have C {B j:Nat} (hs:S B=γ j):B≠k:=fun e=>by rw[e,G] at hs;cases hs
 refine⟨h.tofT.put H.ft hF J hv,fun B j e hs O hn=> ?_,fun B j e x hs O hn=> ?_,fun B j hs l=> ?_⟩
 .rw[ae2 _ _ (C hs)] at hn;by_cases l:j=k
  .subst l;rw[ae4] at O;cases O;exact hp
  .rw[ae2 _ _ l] at O;exact H.pt _ _ _ _ _ _ (h.pend B j e hs O hn) J
 .rw[ae2 _ _ (C hs)] at hn;by_cases l:j=k
  .subst l;rw[h.dep B j hs hF] at hn;cases hn
  .rw[ae2 _ _ l] at O;exact H.qt _ _ _ _ _ _ (h.post B j e x hs O hn) J
 .rw[ae2 _ _ (C hs)];by_cases D:j=k
  .subst D;rw[ae4] at l;cases l
  .rw[ae2 _ _ D] at l;exact h.dep B j hs l
def jW.X5{F w w' k j}{e:Value×Nat×Nat}{v}(H:Late ops w0 Φ Pd Po S)(K:S k=γ j)(P:F j=γ e)(Q:e.2.1<e.2.2)(hF:F k=Option.none)(h:jW w0 Φ Pd Po S F w)(J:Sto e.2.1 w w')(hp:Po j e.2.1 e.2.2 e.1 w')(hv:Φ k w.heap.size w'.heap.size v w'):
  jW w0 Φ Pd Po S (F.set k (v,w.heap.size,w'.heap.size)) w':=by
 have I {C G:Nat} (hs:S C=γ G):G≠k:=fun e=>by have:=H.sn _ _ hs;rw[e,K] at this;cases this
 have out {G:Nat} {f:Value×Nat×Nat} (B:G≠j) (D:F G=γ f):e.2.1<f.2.1\/f.2.2<=e.2.1:=by
  rcases h.disj G j f e B D P with R|R
  .exact .inr R
  .exact .inl (ο Q R)
 have U:=J.size;refine⟨⟨J.ext h.ext (h.low j e P),fun i f O=> ?_,fun i f O=> ?_,fun i f O=> ?_,fun i M f V L O D=> ?_⟩,fun C G f hs O hn=> ?_,fun C G f x hs O hn=> ?_,fun C G hs T=> ?_⟩
 .by_cases hi:i=k
  .subst hi;rw[ae4] at O;cases O;exact hv
  .rw[ae2 _ _ hi] at O;exact H.fs _ _ _ _ _ _ _ ⟨k,j,K⟩ (h.fact i f O) J
 .by_cases hi:i=k
  .subst hi;rw[ae4] at O;cases O;exact κ _
  .rw[ae2 _ _ hi] at O;rw[U];exact h.size i f O
 .by_cases hi:i=k
  .subst hi;rw[ae4] at O;cases O;exact h.ext.size
  .rw[ae2 _ _ hi] at O;exact h.low i f O
 .by_cases hi:i=k
  .subst hi;rw[ae4] at O;cases O;rw[ae2 _ _ (abu L)] at D;exact .inr (h.size M V D)
  .rw[ae2 _ _ hi] at O;by_cases T:M=k
   .subst T;rw[ae4] at D;cases D;exact .inl (h.size i f O)
   .rw[ae2 _ _ T] at D;exact h.disj i M f V L O D
 .have l:C≠k:=fun N=>by rw[N,ae4] at hn;cases hn
  rw[ae2 _ _ l] at hn;rw[ae2 _ _ (I hs)] at O;have B:G≠j:=fun N=>l (H.si _ _ _ hs (by rw[N];exact K));exact H.ps _ _ _ _ _ _ _ (h.pend C G f hs O hn) J (out B O)
 .rw[ae2 _ _ (I hs)] at O;by_cases l:C=k
  .subst l;rw[K] at hs;cases hs;rw[P] at O;cases O;exact hp
  .rw[ae2 _ _ l] at hn;have B:G≠j:=fun N=>l (H.si _ _ _ hs (by rw[N];exact K));exact H.qs _ _ _ _ _ _ _ (h.post C G f x hs O hn) J (out B O)
 .rw[ae2 _ _ (I hs)] at T;by_cases l:C=k
  .subst l;rw[K] at hs;cases hs;rw[P] at T;cases T
  .rw[ae2 _ _ l];exact h.dep C G hs T
def jW.on{F w w' k v}(H:Late ops w0 Φ Pd Po S)(hF:F k=Option.none)(h:jW w0 Φ Pd Po S F w)(l:Lc S k F)(O:He Φ Pd Po S k F w v w'):
  jW w0 Φ Pd Po S (F.set k (v,w.heap.size,w'.heap.size)) w':=by
 obtain⟨G,D,I⟩:=O;cases hs:S k with
 |none=>exact h.put H hs hF (G hs).1 (G hs).2 I
 |some j=>
  obtain⟨e,C,B⟩:=l j hs;exact h.X5 H hs C B hF (D j e hs C).1 (D j e hs C).2 I
def jW.kn{F w k}(h:jW w0 Φ Pd Po S F w)(hF:F k=Option.none):KnL ops w0 Φ Pd S k F w:=⟨h.ext,fun i e O _=>h.fact i e O,fun j e hs O=>h.pend k j e hs O hF⟩
theorem FE{k F a w}{K:Book->Act->Prop}{R:Act->World->Prop}{Q'}(H:Late ops w0 Φ Pd Po S)(hF:F k=Option.none)(G:jW w0 Φ Pd Po S F w)(h:∀N a' w',jW w0 Φ Pd Po S N w'->(∀j,j≠k->F j=Option.none->N j=Option.none)->K N a'->R a' w')(D:rJ P ops w0 E Φ Pd Po S k K F a):wpOp P ops Q' k R a w:=by
 unfold rJ at D;unfold wpOp;split
 .rename_i T;simp only[T] at D;exact h F _ _ G (fun _ _ h=>h) D
 .rename_i o T
  simp only[T] at D;split
  .rename_i l
   simp only[l,aag] at D;refine .inl ?_;by_cases Y:E k=ε
   .simp only[Y,aag] at D;obtain⟨U,Q,L⟩:=D;have C:=Q w (G.kn hF);unfold Oper.wp;generalize (execOp a.eval o).run P w=r at*
    cases r with
    |ok nx w'=>
     cases nx<;>simp only[Oper.upon]
     case value v=>
      have I:=G.on H hF U C;exact h _ _ _ I (fun j M hn=>by rw[ae2 _ _ M];exact hn) (L v _ _ ⟨w',I.tofT⟩)
     case skip=>
      have I:=G.on H hF U C;exact h _ _ _ I (fun j M hn=>by rw[ae2 _ _ M];exact hn) (L undef _ _ ⟨w',I.tofT⟩)
     case enter f args=>
      simp only[sP] at C;obtain⟨rfl,hs,hc⟩:=C;refine hc.mono fun e w'' ⟨v,O,J,hp,hv⟩=> ?_;subst O;have I:=G.put H hs hF J hp hv;exact h _ _ _ I (fun j M hn=>by rw[ae2 _ _ M];exact hn) (L v _ _ ⟨w'',I.tofT⟩)
     all_goals simp only[sP] at C
    |halt x w'=>simp only[sP] at C
   .simp only[Y] at D;obtain⟨_,_,v,Q,L⟩:=D;have C:=Q w G.ext;unfold Oper.quietAt at C;unfold Oper.wp;generalize (execOp a.eval o).run P w=r at*
    cases r with
    |ok nx w'=>
     cases nx<;>simp only[Oper.quietUpon] at C<;>simp only[Oper.upon]
     case value u=>obtain⟨rfl,rfl⟩:=C;exact h F _ _ G (fun _ _ h=>h) L
     case skip=>obtain⟨rfl,rfl⟩:=C;exact h F _ _ G (fun _ _ h=>h) L
     case enter f args=>
      obtain⟨rfl,hc⟩:=C;exact hc.mono fun e w'' ⟨O,B⟩=>by subst O;subst B;exact h F _ _ G (fun _ _ h=>h) L
    |halt x w'=>simp only[Oper.quietUpon] at C
  .rename_i l
   simp only[l] at D;exact h F _ _ G (fun _ _ h=>h) D
def afO(H:Late ops w0 Φ Pd Po S){F w k i}{e:Value×Nat×Nat}(hF:F i=Option.none)(l:anc ops ops.size k i=ζ):KnL ops w0 Φ Pd S k (F.set i e) w↔KnL ops w0 Φ Pd S k F w:=by
 have M {j:Nat} (hs:S k=γ j):j≠i:=fun D=>by have:=H.sa _ _ hs;rw[D,l] at this;cases this
 constructor
 .exact fun h=>⟨h.1,fun x f J ha=>h.2.1 x f (afC hF x f J) ha,fun j f hs C=>h.2.2 j f hs (by rw[ae2 _ _ (M hs)];exact C)⟩
 .refine fun h=>⟨h.1,fun x f J ha=> ?_,fun j f hs C=>h.2.2 j f hs (by rw[ae2 _ _ (M hs)] at C;exact C)⟩;by_cases B:x=i
  .subst B;rw[l] at ha;cases ha
  .rw[ae2 _ _ B] at J;exact h.2.1 x f J ha
def af2(H:Late ops w0 Φ Pd Po S){F k i}{e:Value×Nat×Nat}(l:anc ops ops.size k i=ζ):Lc S k (F.set i e)↔Lc S k F:=by
 have M {j:Nat} (hs:S k=γ j):j≠i:=fun D=>by have:=H.sa _ _ hs;rw[D,l] at this;cases this
 constructor<;>intro h j hs<;>obtain⟨f,C,B⟩:=h j hs
 .rw[ae2 _ _ (M hs)] at C;exact⟨f,C,B⟩
 .exact⟨f,by rw[ae2 _ _ (M hs)];exact C,B⟩
def af3(H:Late ops w0 Φ Pd Po S){F w k i}{e:Value×Nat×Nat}{r:Result Next}(l:anc ops ops.size k i=ζ):sP P Φ Pd Po S k (F.set i e) w r↔sP P Φ Pd Po S k F w r:=by
 have M {j:Nat} (hs:S k=γ j):j≠i:=fun D=>by have:=H.sa _ _ hs;rw[D,l] at this;cases this
 cases r with
 |ok nx w'=>
  cases nx<;>simp only[sP,He]
  all_goals
   constructor<;>rintro⟨G,C,I⟩<;>refine⟨G,fun j f hs B=>C j f hs ?_,I⟩
   .rw[ae2 _ _ (M hs)];exact B
   .rw[ae2 _ _ (M hs)] at B;exact B
 |halt x w'=>simp only[sP]
def EO{F:Book}{i}{a:Act}{o}(H:Late ops w0 Φ Pd Po S)(hF:F i=Option.none)(D:∃w,fT w0 Φ F w)(C:∀w,KnL ops w0 Φ Pd S i F w->sP P Φ Pd Po S i F w ((execOp a.eval o).run P w)):∃v lo hi,∃w,fT w0 Φ (F.set i (v,lo,hi)) w:=by
 obtain⟨w,B⟩:=D;cases hs:S i with
 |some j=>exact⟨undef,w.heap.size,w.heap.size,w,B.put H.ft hF (Ext.refl w) (H.fz _ _ _ _ _ _ hs)⟩
 |none=>
  have l:=C w ⟨B.ext,fun x e O _=>B.fact x e O,fun j e h=>by rw[hs] at h;cases h⟩;generalize (execOp a.eval o).run P w=r at*
  cases r with
  |ok nx w'=>
   cases nx
   case value v=>
    simp only[sP,He] at l;exact⟨v,_,_,w',B.put H.ft hF (l.1 hs).1 l.2.2⟩
   case skip=>
    simp only[sP,He] at l;exact⟨undef,_,_,w',B.put H.ft hF (l.1 hs).1 l.2.2⟩
   case enter f args=>
    simp only[sP] at l;obtain⟨_,_,hc⟩:=l;obtain⟨e,w',G,⟨v,_,J,hp,hv⟩,_⟩:=hc [];exact⟨v,_,_,w',B.put H.ft hF J hv⟩
   all_goals simp only[sP] at l
  |halt x w'=>simp only[sP] at l
theorem Og{i j l U}{K:Book->Act->Prop}{F a}(H:Late ops w0 Φ Pd Po S)(hi:ops[i]? =γ l)(hj:ops[j]? =γ U)(YB:i≠j)(V:l.apart ops U=ε)(W:∀cs b,l.op≠ .select cs b)(Z:∀cs b,U.op≠ .select cs b)(R:F i=Option.none)(T:F j=Option.none)(a1:anc ops ops.size i j=ζ)(a2:anc ops ops.size j i=ζ)(hr:∃w,fT w0 Φ F w)(h:rJ P ops w0 E Φ Pd Po S i (rJ P ops w0 E Φ Pd Po S j K) F a):
  rJ P ops w0 E Φ Pd Po S j (rJ P ops w0 E Φ Pd Po S i K) F a:=by
 obtain⟨p1,p2,p3⟩:=Oper.apart_spec V;have x1:∀(a:Act) v,execOp (a.put l.dst v).eval U=execOp a.eval U:=fun a v=>execOp_put U Z a l.dst v p1;have x2:∀(a:Act) v,execOp (a.put U.dst v).eval l=execOp a.eval l:=fun a v=>execOp_put l W a U.dst v p3;have y1:∀(a:Act) v,Region.wanted U (yielded ops (a.put l.dst v).tmps)=Region.wanted U (yielded ops a.tmps):=fun a v=>wanted_put U a l.dst v p1;have y2:∀(a:Act) v,Region.wanted l (yielded ops (a.put U.dst v).tmps)=Region.wanted l (yielded ops a.tmps):=fun a v=>wanted_put l a U.dst v p3;have z:∀(a:Act) v u,(a.put U.dst u).put l.dst v=(a.put l.dst v).put U.dst u:=fun a v u=>(Act.put_comm a v u p2).symm;have q1:∀(a:Act) v w u,U.quietAt P (a.put l.dst v) (fun w'=>w'=w) w u↔U.quietAt P a (fun w'=>w'=w) w u:=fun a v w u=>by unfold Oper.quietAt;rw[x1]
 have q2:∀(a:Act) v w u,l.quietAt P (a.put U.dst v) (fun w'=>w'=w) w u↔l.quietAt P a (fun w'=>w'=w) w u:=fun a v w u=>by unfold Oper.quietAt;rw[x2]
 unfold rJ at h⊢;simp only[hi,hj] at h⊢;simp only[y1,x1,q1] at h;simp only[y2,x2,q2,z];by_cases wi:Region.wanted l (yielded ops a.tmps)=ε
 .simp only[wi,aag] at h⊢;by_cases Ei:E i=ε
  .simp only[Ei,aag] at h⊢;obtain⟨h0,h1,h2⟩:=h;obtain⟨v0,Q,M,Y⟩:=EO H R hr h1;by_cases wj:Region.wanted U (yielded ops a.tmps)=ε
   .simp only[wj,aag] at h2⊢;by_cases G:E j=ε
    .simp only[G,aag] at h2⊢;refine⟨(af2 H a2).1 (h2 v0 Q M Y).1,fun w hw=>(af3 H a2).1 ((h2 v0 Q M Y).2.1 w ((afO H R a2).2 hw)),fun u lo hi D=>⟨(af2 H a1).2 h0,fun w hw=>(af3 H a1).2 (h1 w ((afO H T a1).1 hw)),fun v N Yr L=> ?_⟩⟩;obtain⟨w,hw⟩:=L;have ZH:fT w0 Φ (F.set i (v,N,Yr)) w:=hw.sub (agb (afC T));rw[af8 _ (abu YB)] at hw⊢;exact(h2 v N Yr ⟨w,ZH⟩).2.2 u lo hi ⟨w,hw⟩
    .simp only[G] at h2⊢;obtain⟨hp,B,u,hu,_⟩:=h2 v0 Q M Y;refine⟨hp,B,u,hu,h0,h1,fun v lo hi L=> ?_⟩;obtain⟨_,_,u',O,I⟩:=h2 v lo hi L;obtain⟨w,hw⟩:=hr;rw[Gn hp (hu w hw.ext) (O w hw.ext)];exact I
   .simp only[wj] at h2⊢;exact⟨h0,h1,fun v lo hi L=>h2 v lo hi L⟩
  .simp only[Ei] at h⊢;obtain⟨hp,B,v,hv,h2⟩:=h;by_cases wj:Region.wanted U (yielded ops a.tmps)=ε
   .simp only[wj,aag] at h2⊢;by_cases G:E j=ε
    .simp only[G,aag] at h2⊢;exact⟨h2.1,h2.2.1,fun u lo hi D=>⟨hp,B,v,hv,h2.2.2 u lo hi D⟩⟩
    .simp only[G] at h2⊢;obtain⟨J,C,u,hu,I⟩:=h2;exact⟨J,C,u,hu,hp,B,v,hv,I⟩
   .simp only[wj] at h2⊢;exact⟨hp,B,v,hv,h2⟩
 .simp only[wi] at h⊢;by_cases wj:Region.wanted U (yielded ops a.tmps)=ε
  .simp only[wj,aag] at h⊢;by_cases G:E j=ε
   .simp only[G,aag] at h⊢;exact⟨h.1,h.2.1,fun u lo hi D=>h.2.2 u lo hi D⟩
   .simp only[G] at h⊢;obtain⟨J,C,u,hu,I⟩:=h;exact⟨J,C,u,hu,I⟩
  .simp only[wj] at h⊢;exact h
def tT{n g}{L:Array Bool->Book->Act->Prop}{Q'}(H:Late ops w0 Φ Pd Po S)(G:∀B F a w,jW w0 Φ Pd Po S F w->L B F a->wpAny P .any ops Q' g B a w):
  ∀(f:Nat) (B:Array Bool) (F:Book) (a:Act) (w:World),jW w0 Φ Pd Po S F w->(∀j,B.getD j ε=ζ->F j=Option.none)->vI P ops w0 E Φ Pd Po S n L f B F a->wpAny P .any ops Q' (f+g) B a w
 |0,B,F,a,w,hw,_,h=>by rw[aan];exact G _ _ _ _ hw h
 |f+1,B,F,a,w,hw,hF,h=>by
  rw[show f+1+g=(f+g)+1 by omega];refine⟨fun I=>absurd I h.1,fun i hi=> ?_⟩;have Q:=(abJ.1 hi).1;refine FE H (hF i Q) hw (fun N a' w' J C K=>tT H G f _ N a' w' J (fun j D=> ?_) K) (h.2 i hi).2;by_cases M:j=i
  .subst M;exfalso;have l:j<B.size:=by
    rcases Na j B.size with K|K
    .exact K
    .simp[aau K] at Q
   simp[l] at D
  .rw[acE ε (abu M)] at D;exact C j M (hF j D)
theorem DJ{n i l}{L:Array Bool->Book->Act->Prop}(HL:Late ops w0 Φ Pd Po S)(hi:ops[i]? =γ l)(C:∀(j:Nat) (o:Oper) cs b,ops[j]? =γ o->o.op≠ .select cs b)(hs:Region.sinkB .any ops n=ε)(hc:Region.chainB .any ops n=ε)(hn:n<ops.size)(D:i<n)(N:∀B F a,L B F a->∀j∈Region.ready .any ops B,n<=j):
  ∀(f:Nat) (B:Array Bool) (F:Book) (a:Act),HeadInv .any ops n B->(∀j,B.getD j ε=ζ->F j=Option.none)->(∃w,fT w0 Φ F w)->
   (∀j U,ops[j]? =γ U->j≠i->B.getD j ε=ζ->(∀e∈U.after,Region.binds .any e=ε->e.on≠i)->l.apart ops U=ε)->
   i∈Region.ready .any ops B->rJ P ops w0 E Φ Pd Po S i (vI P ops w0 E Φ Pd Po S n L f (B.setIfInBounds i ε)) F a->vI P ops w0 E Φ Pd Po S n L (f+1) B F a:=by
 intro f
 induction f with
 |zero=>
  intro B F a inv hF Y _ hr H;have Q:=(abJ.1 hr).1;refine⟨fun h=>(by rw[h] at hr;cases hr),fun j hj=> ?_⟩;have V:j<n:=by
   exact AaF
  refine⟨V,?_⟩;by_cases M:j=i
  .subst M;exact H
  .exfalso;have R:∀F' a',vI P ops w0 E Φ Pd Po S n L 0 (B.setIfInBounds i ε) F' a'->False:=fun F' a' h=>by
    have:=N _ _ _ h j (acn hj M);omega
   unfold rJ at H;simp only[hi] at H;split at H
   .split at H
    .obtain⟨v,lo,Yr,YD⟩:=EO HL (hF i Q) Y H.2.1;exact R _ _ (H.2.2 v lo Yr YD)
    .obtain⟨_,_,v,_,h2⟩:=H;exact R _ _ h2
   .exact R _ _ H
 |succ f ih=>
  intro B F a inv hF Y Yq hr H;have Q:=(abJ.1 hr).1;refine⟨fun h=>(by rw[h] at hr;cases hr),fun j hj=> ?_⟩;have V:j<n:=by
   exact AaF
  refine⟨V,?_⟩;by_cases M:j=i
  .subst M;exact H
  .obtain⟨Z,U,Yt,I⟩:=abJ.1 hj;have Yy:∀e∈U.after,Region.binds .any e=ε->e.on≠i:=fun e O hb T=>by
    have h1:=I e O hb;rw[T,getD_both Q] at h1;cases h1
   have H1:=DX (fun F' a' h=>(h.2 j (acn hj M)).2) H;have H2:=Og HL hi Yt (abu M) (Yq j U Yt M Z Yy) (fun cs b=>C i l cs b hi) (fun cs b=>C j U cs b Yt) (hF i Q) (hF j Z) (D8 inv hr Z) (D8 inv hj Q) Y H1;have Yu:∀k ok,ops[k]? =γ ok->k≠i->(B.setIfInBounds j ε).getD k ε=ζ->
     (∀e∈ok.after,Region.binds .any e=ε->e.on≠i)->l.apart ops ok=ε:=fun k ok hk Yx Yv W=>by
    refine Yq k ok hk Yx ?_ W;by_cases YP:j=k
    .subst YP;exact Z
    .rw[acE ε YP] at Yv;exact Yv
   refine Dt Y (fun F' a' Yw G h3=>ih (B.setIfInBounds j ε) F' a' (inv.set hj V) (fun x J=> ?_) G Yu (acn hr (abu M)) ?_) H2
   .have YJ:x≠j:=by
     rintro rfl;have Yp:x<B.size:=by
      rcases Na x B.size with K|K
      .exact K
      .simp[aau K] at Z
     simp[Yp] at J
    rw[acE ε (abu YJ)] at J;rcases Yw with rfl|⟨e,rfl⟩
    .exact hF x J
    .rw[ae2 _ _ YJ];exact hF x J
   .rw[ac3 _ _ M];exact h3
def zm{n g}{D:Book->Act->Prop}(H:Late ops w0 Φ Pd Po S)(C:Region.noSelect ops=ε)(hs:Region.sinkB .any ops n=ε)(hc:Region.chainB .any ops n=ε)(hn:n<ops.size):
  ∀(l:List Oper) (k:Nat) (B:Array Bool) (F:Book) (a:Act),(∀j,j<l.length->l[j]? =ops[k+j]?)->k+l.length=n->HeadInv .any ops n B->(∀j,B.getD j ε=ζ->F j=Option.none)->(∃w,fT w0 Φ F w)->
  Region.lexHead .any ops g l.length k B=ε->tV P ops w0 E Φ Pd Po S D l k F a->
  vI P ops w0 E Φ Pd Po S n (fun I N a'=>Region.seqB .any ops g n I=ε/\D N a') l.length B F a
 |[],k,B,F,a,_,hk,_,_,_,hB,h=>by
  have:k=n:=by simpa using hk
  subst this;exact⟨by simpa[Region.lexHead] using hB,h⟩
 |o::l,k,B,F,a,hl,hk,inv,hF,hr0,hB,h=>by
  have V:ops[k]? =γ o:=by simpa using(hl 0 ag).symm
  simp only[nV,Region.lexHead,ρ] at hB;obtain⟨⟨Z,Y⟩,M⟩:=hB;have O:k<n:=by simp only[nV] at hk;omega
  have G:k∈Region.ready .any ops B:=by simpa using Z
  have Q:=(abJ.1 G).1;refine DJ H V (aaF C) hs hc hn O (fun I N a' W=>ab3 W.1) l.length B F a inv hF hr0 (aa4 V Y) G ?_;refine Dt hr0 (fun N a' T U K=>zm H C hs hc hn l (k+1) _ N a' (fun j hj=>by have:=hl (j+1) ae;simpa[ace,abl 1 j] using this) (by simp only[nV] at hk;omega) (inv.set G O) (fun x J=> ?_) U M K) h;have L:x≠k:=by
   rintro rfl;have R:x<B.size:=by
    rcases Na x B.size with K|K
    .exact K
    .simp[aau K] at Q
   simp[R] at J
  rw[acE ε (abu L)] at J;rcases T with rfl|⟨e,rfl⟩
  .exact hF x J
  .rw[ae2 _ _ L];exact hF x J
end
def uG{P:Program}{I Q a w}{l:List Oper}(n E Φ Pd Po)(S:Nat->Option Nat)(H:Late l.toArray w Φ Pd Po S)(hm:P.follows .mixedOrders=ε)(W:Region.lexTailB .any l.toArray n=ε)(h:tV P l.toArray w E Φ Pd Po S (fun F a'=>∀w',jW w Φ Pd Po S F w'->wpList P l.toArray Q (l.drop n) a' w') (l.take n) 0 Book.none a):(Code.region I l.toArray ε).wp P Q a w:=by
 simp only[Region.lexTailB,ρ,Θ] at W;obtain⟨⟨⟨⟨C,hn⟩,hs⟩,hc⟩,L⟩:=W;have YH:n<l.length:=by simpa using hn
 have K:(l.take n).length=n:=ae;have G:(l.drop n).length=l.toArray.size-n:=ag;have D:HeadInv .any l.toArray n (Array.replicate l.toArray.size ζ):=
  ⟨ag,fun j U _ Z=>AaX,fun t _ Y=>aen (by simpa using Y) (aaU _ _)⟩
 have M:fT w Φ Book.none {w with drawn:=w.drawn+1}:=⟨(Ext.refl w).drew,fun _ _ h=>Acb,fun _ _ h=>Acb,fun _ _ h=>Acb,fun _ _ _ _ _ h=>Acb⟩;have N:jW w Φ Pd Po S Book.none {w with drawn:=w.drawn+1}:=⟨M,fun _ _ _ _ h=>Acb,fun _ _ _ _ _ h=>Acb,fun _ _ _ _=>rfl⟩;have H1:=zm (P:=P) (E:=E) (g:=l.toArray.size-n) H C hs hc hn (l.take n) 0 _ Book.none a (fun j V=>by
  have O:j<n:=by rw[K] at V;exact V
  simp[O]) (by simpa using K) D (fun _ _=>rfl) ⟨_,M⟩ (by rw[K];exact L) h
 refine acN hm ?_;have R:=tT (P:=P) (n:=n) (g:=l.toArray.size-n) (Q':=Q) H (fun B F a' w' J T=>by
  have:=aco (P:=P) (ops:=l.toArray) (md:=.any) (Q':=Q) (l.drop n) n B a' w' (fun j=>ag) (by rw[G];exact T.1) (T.2 w' J);rwa[G] at this) _ _ _ _ _ N (fun _ _=>rfl) H1
 rw[K] at R;have e:n+(l.toArray.size-n)=l.toArray.size:=by simp at hn⊢;omega
 rw[e] at R;exact R
section
variable {P:Program} {ops:Array Oper} {w0:World} {E:Nat->Bool} {Φ Pd Po:Nat->Nat->Nat->Value->World->Prop} {Q:Book->Act->Prop} {S:Nat->Option Nat}
theorem zF(m){l k F a}(B:∀j,j<m->l[j]? =ops[k+j]?)(Y:(List.range m).all (fun j=>(!E (k+j)&&(S (k+j)).isNone)&&((ops[k+j]?).map fun o=>iZ o.op).getD ζ)=ε)(h:wpQuiet P ops (fun w'=>∃x:aX w0,w'=x.val) (fun a'=>tV P ops w0 E Φ Pd Po S Q (l.drop m) (k+m) F a') (l.take m) a):tV P ops w0 E Φ Pd Po S Q l k F a:=by
 induction m generalizing l k a with
 |zero=>simpa[wpQuiet] using h
 |succ m ih=>
  cases l with
  |nil=>simp[wpQuiet] at h;simpa[tV] using h
  |cons o r=>
   have M:ops[k]? =γ o:=by simpa using(B 0 aa).symm
   have I:=qb.1 Y;have H:=I 0 ag;simp only[I4,M,Option.map_some,Option.getD_some,ρ,Bool.not_eq_true',Option.isNone_iff_eq_none] at H;have G:(List.range m).all (fun j=>(!E (k+1+j)&&(S (k+1+j)).isNone)&&((ops[k+1+j]?).map fun o=>iZ o.op).getD ζ)=ε:=by
    rw[qb];intro x J;have:=I (x+1) (by simp at J⊢;omega);rwa[show k+(x+1)=k+1+x by omega] at this
   have D:=fun a'=>ih (l:=r) (k:=k+1) (a:=a') (fun j U=>by have:=B (j+1) aa;simpa[ace,abl 1 j] using this) G;simp only[aaz,ξ,wpQuiet] at h;have K:k+(m+1)=k+1+m:=aa;rw[K] at h;unfold tV rJ;simp only[M];by_cases N:Region.wanted o (yielded ops a.tmps)=ε
   .simp only[N,aag] at h⊢;simp only[H.1.1,RS,ab0];obtain⟨v,R,O⟩:=h;refine⟨H.2,H.1.2,v,fun w J=> ?_,D _ O⟩;have L:=R w ⟨⟨w,J⟩,rfl⟩;unfold Oper.quietAt at*
    generalize T:(execOp a.eval o).run P w=C at*
    cases C with
    |ok nx w'=>
     cases nx<;>simp only[Oper.quietUpon] at L⊢
     case value u=>exact L
     case skip=>exact L
     case enter f args=>exact(mK H.2 T).elim
    |halt x w'=>simp only[Oper.quietUpon] at L
   .simp only[N] at h⊢;exact D _ h
def qj(m){l k F a}(B:l.take m=(ops.toList.drop k).take m)(Y:(List.range m).all (fun j=>(!E (k+j)&&(S (k+j)).isNone)&&((ops[k+j]?).map fun o=>iZ o.op).getD ζ)=ε)(h:wpQuiet P ops (fun w'=>∃x:aX w0,w'=x.val) (fun a'=>tV P ops w0 E Φ Pd Po S Q (l.drop m) (k+m) F a') (l.take m) a):tV P ops w0 E Φ Pd Po S Q l k F a:=
 zF m (fun j C=>by
  have D:(l.take m)[j]? =((ops.toList.drop k).take m)[j]? :=by rw[B]
  rw[NK C,NK C,Zb] at D;simpa using D) Y h
theorem mD{l o k F a}(G:ops[k]? =γ o)(J:Region.wanted o (yielded ops a.tmps)=ε)(Y:E k=ε)(hS:S k=Option.none)(H:∀w,Ext w0 w->(∀i e,F i=γ e->anc ops ops.size k i=ε->Φ i e.2.1 e.2.2 e.1 w)->vD P (fun lo hi v w'=>Pd k lo hi v w'/\Φ k lo hi v w') w ((execOp a.eval o).run P w))(D:∀v lo hi,(∃w,fT w0 Φ (F.set k (v,lo,hi)) w)->tV P ops w0 E Φ Pd Po S Q l (k+1) (F.set k (v,lo,hi)) (a.put o.dst v)):tV P ops w0 E Φ Pd Po S Q (o::l) k F a:=by
 unfold tV rJ;simp only[G,J,Y,aag];refine⟨fun j C=>(by rw[hS] at C;cases C),fun w I=> ?_,D⟩;have B:=H w I.1 I.2.1;generalize (execOp a.eval o).run P w=r at*
 cases r with
 |ok nx w'=>
  cases nx<;>simp only[vD,sP,He] at B⊢
  case value v=>exact⟨fun _=>⟨B.1,B.2.1⟩,fun j e C=>(by rw[hS] at C;cases C),B.2.2⟩
  case enter f args=>exact⟨B.1,hS,B.2⟩
 |halt x w'=>simp only[vD] at B
theorem Jb{l o k j F a}{e:Value×Nat×Nat}(G:ops[k]? =γ o)(L:Region.wanted o (yielded ops a.tmps)=ε)(Y:E k=ε)(hS:S k=γ j)(hF:F j=γ e)(C:e.2.1<e.2.2)(hd:o.dst=δ)(K:∀lo hi v w',Φ k lo hi v w')(J:∀w,Pd j e.2.1 e.2.2 e.1 w->∃w',(execOp a.eval o).run P w=.ok .skip w'/\Sto e.2.1 w w'/\Po j e.2.1 e.2.2 e.1 w')(D:∀x,tV P ops w0 E Φ Pd Po S Q l (k+1) (F.set k x) a):tV P ops w0 E Φ Pd Po S Q (o::l) k F a:=by
 unfold tV rJ;simp only[G,L,Y,aag];refine⟨fun H B=>(by rw[hS] at B;cases B;exact⟨e,hF,C⟩),fun w I=> ?_,fun v lo hi _=>(by rw[hd];exact D (v,lo,hi))⟩;obtain⟨w',M,hs,hp⟩:=J w (I.2.2 j e hS hF);rw[M];simp only[sP,He];exact⟨fun h=>(by rw[hS] at h;cases h),fun H N B O=>(by rw[hS] at B;cases B;rw[hF] at O;cases O;exact⟨hs,hp⟩),K _ _ _ _⟩
def Qg{k F a}(h:Q F a):tV P ops w0 E Φ Pd Po S Q [] k F a:=h
end

def tr5:Nat->Nat->Nat->Value->World->Prop:=fun _ _ _ _ _=>True
def noS:Nat->Option Nat:=fun _=>δ
def wpT (P:Program) (ops:Array Oper) (w0:World) (E:Nat->Bool) (Φ:Nat->Nat->Nat->Value->World->Prop) (Q:Book->Act->Prop):List Oper->Nat->Book->Act->Prop:=tV P ops w0 E Φ tr5 tr5 noS Q
def Late.noS{ops:Array Oper}{w0:World}{Φ:Nat->Nat->Nat->Value->World->Prop}(B:∀i lo hi v w w',Φ i lo hi v w->Ext w w'->Φ i lo hi v w'):Late ops w0 Φ tr5 tr5 noS:=
 ⟨B,fun _ _ _ _ _ _ _ ⟨_,_,h⟩=>Acb,fun _ _ _ _ _ _ _ _=>trivial,fun _ _ _ _ _ _ _ _ _ _=>trivial,fun _ _ _ _ _ _ _ _=>trivial,fun _ _ _ _ _ _ _ _ _ _=>trivial,fun _ _ h=>Acb,fun _ _ _ h=>Acb,fun _ _ h=>Acb,fun _ _ _ _ _ _ h=>Acb⟩
def iX{P:Program}{I:Nat}{Q:Exit->Act->World->Prop}{a:Act}{w:World}{l:List Oper}(n:Nat)(E:Nat->Bool)(Φ:Nat->Nat->Nat->Value->World->Prop)(B:∀i lo hi v w w',Φ i lo hi v w->Ext w w'->Φ i lo hi v w')(C:P.follows .mixedOrders=ε)(G:Region.lexTailB .any l.toArray n=ε)(h:wpT P l.toArray w E Φ (fun F a'=>∀w',fT w Φ F w'->wpList P l.toArray Q (l.drop n) a' w') (l.take n) 0 Book.none a):(Code.region I l.toArray ε).wp P Q a w:=by
 refine uG n E Φ tr5 tr5 noS (Late.noS B) C G ?_;have mono:∀(D:List Oper) (k:Nat) (F:Book) (a:Act),wpT P l.toArray w E Φ (fun F a'=>∀w',fT w Φ F w'->wpList P l.toArray Q (l.drop n) a' w') D k F a->tV P l.toArray w E Φ tr5 tr5 noS (fun F a'=>∀w',jW w Φ tr5 tr5 noS F w'->wpList P l.toArray Q (l.drop n) a' w') D k F a:=by
  intro D
  induction D with
  |nil=>exact fun k F a h w' J=>h w' J.tofT
  |cons o r ih=>exact fun k F a h=>DX (fun F a h=>ih (k+1) F a h) h
 exact mono _ _ _ _ h
section
variable {P:Program} {ops:Array Oper} {w0:World} {E:Nat->Bool} {Φ:Nat->Nat->Nat->Value->World->Prop} {Q:Book->Act->Prop}
def J7(m){l k F a}(B:∀j,j<m->l[j]? =ops[k+j]?)(Y:(List.range m).all (fun j=> !E (k+j)&&((ops[k+j]?).map fun o=>iZ o.op).getD ζ)=ε)(h:wpQuiet P ops (fun w'=>∃x:aX w0,w'=x.val) (fun a'=>wpT P ops w0 E Φ Q (l.drop m) (k+m) F a') (l.take m) a):wpT P ops w0 E Φ Q l k F a:=
 zF m B (by simpa[noS] using Y) h
def nM(m){l k F a}(B:l.take m=(ops.toList.drop k).take m)(Y:(List.range m).all (fun j=> !E (k+j)&&((ops[k+j]?).map fun o=>iZ o.op).getD ζ)=ε)(h:wpQuiet P ops (fun w'=>∃x:aX w0,w'=x.val) (fun a'=>wpT P ops w0 E Φ Q (l.drop m) (k+m) F a') (l.take m) a):wpT P ops w0 E Φ Q l k F a:=
 qj m B (by simpa[noS] using Y) h
def eF{l o k F a}(C:ops[k]? =γ o)(G:Region.wanted o (yielded ops a.tmps)=ε)(Y:E k=ε)(D:∀w,Kn ops w0 Φ k F w->vD P (Φ k) w ((execOp a.eval o).run P w))(B:∀v lo hi,(∃w,fT w0 Φ (F.set k (v,lo,hi)) w)->wpT P ops w0 E Φ Q l (k+1) (F.set k (v,lo,hi)) (a.put o.dst v)):wpT P ops w0 E Φ Q (o::l) k F a:=
 mD C G Y rfl (fun w J H=>by
  have j:=D w ⟨J,H⟩;generalize (execOp a.eval o).run P w=r at*
  cases r with
  |ok nx w'=>
   cases nx<;>simp only[vD] at j⊢
   case value v=>exact⟨j.1,trivial,j.2⟩
   case enter f args=>exact⟨j.1,j.2.mono fun e w' ⟨v,O,J,hv⟩=>⟨v,O,J,trivial,hv⟩⟩
  |halt x w'=>simp only[vD] at j) B
def bP{k F a}(h:Q F a):wpT P ops w0 E Φ Q [] k F a:=h
end
def lt_of_cell{w:World}{p:Addr}{v:Value}(h:w.cell? p=γ v):p.block<w.heap.size:=by
 rcases Na p.block w.heap.size with Z|Z
 .exact Z
 .simp[World.cell?,aau Z] at h
def Ext.cell_{w w'}(h:Ext w w'){p v}(hc:w.cell? p=γ v):w'.cell? p=γ v:=(h.cell (lt_of_cell hc)).trans hc
def aX.cell{w p v}(h:w.cell? p=γ v)(x:aX w):x.val.cell? p=γ v:=x.ext.cell_ h
def aX.blk{w g t cs}(h:Blk w g t cs)(x:aX w)(i):x.val.cell? (aM g i)=cs[i]? :=(h.ext x.ext).cell i
def fT.get{w0:World}{Φ:Nat->Nat->Nat->Value->World->Prop}{F:Book}{k lo hi:Nat}{v:Value}{w:World}(h:fT w0 Φ (F.set k (v,lo,hi)) w):Φ k lo hi v w:=h.fact k _ (ae4 _ _ _)
def fT.at_{w0 Φ F w}(h:fT w0 Φ F w)(k){e:Value×Nat×Nat}(O:F k=γ e):Φ k e.2.1 e.2.2 e.1 w:=h.fact k e O
theorem Sa(g j):Addr.add ⟨g,0,δ⟩ j=⟨g,j,δ⟩:=by unfold Addr.add;split<;>simp_all
theorem add_plain(b o j):Addr.add ⟨b,o,δ⟩ j=⟨b,o+j,δ⟩:=by unfold Addr.add;split<;>simp_all
theorem Reads.plain{w B n A xs}(h:Reads w B 1 A n xs)(hn:0<n):
  ∃b o,A=γ ⟨b,o,δ⟩/\b<B/\∀(j:Nat) (u:Value),xs[j]? =γ u->w.cell? (aM b (o+j))=γ u:=by
 obtain⟨F,e,hb,hc⟩:=h.2 hn;have Z:0<xs.length:=by have:=h.1;omega
 have H:=hc 0 _ (ν Z);have hs:F.spot=δ:=by
  have D:w.cell? F=γ xs[0]:=H;unfold World.cell? at D;split at D
  .split at D
   .cases D
   .rename_i G;simpa using G
  .cases D
 obtain⟨b,o,sp⟩:=F;simp only at hs;subst hs;exact⟨b,o,e,hb,fun j u I=>by rw[<-add_plain];exact hc j u I⟩
abbrev Only (g:Nat) (w w':World):Prop:=w.grownBy w' (γ g)
section
variable {g:Nat} {w w' w'':World}
def Only.refl(g w):Only g w w:=World.grownBy.refl w _
def Only.trans(h:Only g w w')(k:Only g w' w''):Only g w w'':=
 ⟨k.os.trans h.os,k.tape.trans h.tape,k.output.trans h.output,Ξ h.size k.size,fun i hi j=>(k.block i (ο hi h.size) j).trans (h.block i hi j)⟩
def afo(h:Ext w w'):Only g w w':=⟨h.os,h.tape,h.output,h.size,fun i hi _=>h.block i hi⟩
def Only.set(w g i u):Only g w (w.setCell ⟨g,i,δ⟩ u):=
 ⟨rfl,rfl,rfl,by simp[World.setCell],fun k _ j=>abZ w ⟨g,i,δ⟩ u k (fun e=>j (by rw[e]))⟩
def Only.cell_(h:Only g w w'){p v}(hc:w.cell? p=γ v)(hp:p.block≠g):w'.cell? p=γ v:=
 (World.cell?_of_block (h.block p.block (lt_of_cell hc) (fun e=>hp (by injection e)))).trans hc
def Only.blk(h:Only g w w'){b t cs}(hb:Blk w b t cs)(hp:b≠g):Blk w' b t cs:=(h.block b hb.lt (fun e=>hp (by injection e))).trans hb
def Only.ext{w0}(h:Only g w w')(O:Ext w0 w)(j:w0.heap.size<=g):Ext w0 w':=
 ⟨h.os.trans O.os,h.tape.trans O.tape,h.output.trans O.output,Ξ O.size h.size,fun i hi=>(h.block i (ο hi O.size) (fun e=>by injection e with e;omega)).trans (O.block i hi)⟩
end

def Elem (P:Program) (t e:TypeId) (size bytes:Nat):Prop:=∃i z,P.underlying t=γ (.slice e)/\P.info? e=γ i/\i.zero=γ z/\i.size=size/\i.bytes=bytes/\z.cells.size=size/\0<size
def afa{P t e size bytes z}(B:P.underlying t=γ (.slice e))(hi:(P.info? e).map (fun i=>(i.zero,i.size,i.bytes))=γ (γ z,size,bytes))(D:z.cells.size=size)(C:0<size):Elem P t e size bytes:=by
 obtain⟨i0,M,j,l,O⟩:=abL hi;exact⟨i0,z,B,M,j,l,O,D,C⟩
def eX{P w ops rest o a Q t e size l}(E:Elem P t e size l)(D:o.guard=δ)(s x:Operand)(U:o.op=.call {callee:=.builtin .append,args:= #[s,x],argTypes:= #[t,t]})(base v n xs)(hs:a.eval s=v)(N:w.ownsRow base e size v n xs)(B m c C)(J:a.eval x=.slice (γ (aM B 0)) m c)(Y:Blk w B e C.toArray)(Z:C.length=m*size)(S:∀u∈C,u.oneCell'=ε)(W:0<m)(K:n+m<=9223372036854775807)(F:(n+m)*l<=140737488355328)(H:base<=w.heap.size)(h:∀g G w',w'.ownsRow base e size (.slice (γ (aM g 0)) (n+m) G) (n+m) (xs++C)->w.grownBy w' v.ownBlock->(v.ownBlock=γ g\/g=w.heap.size)->g<w'.heap.size->wpList P ops Q rest (a.put o.dst (.slice (γ (aM g 0)) (n+m) G)) w'):
  wpList P ops Q (o::rest) a w:=by
 obtain⟨i,z,R,hi,T,I,L,M,O⟩:=E;exact wpList_append_lies w D s x t U base e i z size l R hi T I L M O v n xs hs N ⟨B,0,δ⟩ m c C J Z (fun j u V=>by have:=acz Y j u;simpa using this (by simpa using V)) S W K F H w.heap.size rfl h
def Jk{P w ops rest o a Q t e size l}(E:Elem P t e size l)(D:o.guard=δ)(s x:Operand)(V:o.op=.call {callee:=.builtin .append,args:= #[s,x],argTypes:= #[t,t]})(base v n xs)(hs:a.eval s=v)(N:w.ownsRow base e size v n xs)(A m c C)(J:a.eval x=.slice A m c)(B:Reads w w.heap.size size A m C)(S:∀u∈C,u.oneCell'=ε)(O:0<m)(K:n+m<=9223372036854775807)(F:(n+m)*l<=140737488355328)(H:base<=w.heap.size)(h:∀g G w',w'.ownsRow base e size (.slice (γ (aM g 0)) (n+m) G) (n+m) (xs++C)->w.grownBy w' v.ownBlock->(v.ownBlock=γ g\/g=w.heap.size)->g<w'.heap.size->wpList P ops Q rest (a.put o.dst (.slice (γ (aM g 0)) (n+m) G)) w'):
  wpList P ops Q (o::rest) a w:=by
 obtain⟨i,z,R,hi,T,I,L,M,j⟩:=E;obtain⟨U,rfl,_,hc⟩:=B.2 O;exact wpList_append_lies w D s x t V base e i z size l R hi T I L M j v n xs hs N U m c C J B.1 hc S O K F H w.heap.size rfl h
section
variable {w w':World} {base:Nat} {e:TypeId} {size n:Nat} {v:Value} {xs:List Value}
def eH(h:w.ownsRow base e size v n xs)(J:Ext w w'):w'.ownsRow base e size v n xs:=
 h.kept (row:=δ) ⟨J.os,J.tape,J.output,J.size,fun k j _=>J.block k j⟩ (by cases hv:v.ownBlock<;>simp)
def rT{g}(h:w.ownsRow base e size v n xs)(J:Only g w w')(j:v.ownBlock≠γ g):w'.ownsRow base e size v n xs:=h.kept J (.inr j)
def uF{base' H j n' L C}(h:w.ownsRow base e size v n xs)(K:w.ownsRow base' H j L n' C)(F:e≠H):v.ownBlock=δ\/v.ownBlock≠L.ownBlock:=by
 rcases h.2 with ⟨rfl,_⟩|⟨g,G,cur,rfl,_,J,_⟩
 .exact .inl rfl
 .right
  rcases K.2 with ⟨rfl,_⟩|⟨g',B,l,rfl,_,D,_⟩
  .simp[Value.ownBlock]
  .simp only[Value.ownBlock,ne_eq,aay];rintro rfl;rw[J] at D;injection D with D;injection D with _ I;exact F I
def jD(h:w.ownsRow base e size v n xs):∃A c,v=.slice A n c/\n<=c/\c<=maxLen/\Reads w w.heap.size size A n xs:=by
 have l:=h.1;rcases h.2 with ⟨rfl,rfl⟩|⟨g,G,cur,rfl,_,C,B,j,_,_⟩
 .obtain rfl:xs=[]:=I5 (by simpa using l);exact⟨δ,0,rfl,κ _,q9 _,afp⟩
 .exact⟨_,G,rfl,B,j,l,fun _=>⟨_,rfl,(aaK.1 C).1,h.cells (g:=g) rfl⟩⟩
def _root_.Go.World.ownsRow.less{base'}(h:w.ownsRow base e size v n xs)(j:base'<=base):w.ownsRow base' e size v n xs:=by
 refine⟨h.1,?_⟩;rcases h.2 with hn|⟨g,G,cur,hv,hb,rest⟩
 .exact .inl hn
 .exact .inr ⟨g,G,cur,hv,Ξ j hb,rest⟩
def fI{row w0}(J:w.grownBy w' row)(O:Ext w0 w)(j:∀g,row=γ g->w0.heap.size<=g):Ext w0 w':=
 Below.grown O J O.size j
def kG{g}(h:w.ownsRow base e size v n xs)(j:g<base):v.ownBlock≠γ g:=by
 intro hv;have:=(h.lt g hv).1;omega
def gN{row g t cs}(J:w.grownBy w' row)(hb:Blk w g t cs)(j:row≠γ g):Blk w' g t cs:=(J.block g hb.lt (fun e=>j e.symm)).trans hb
end
def mP{s:Result Value}{w'}(h:s.andThen (fun x w=>Result.ok (Next.value x) w)=.ok .skip w'):False:=by
 cases s<;>simp[Result.andThen] at h
def vL{P}{ev:Operand->Value}{o w w'}(hp:iZ o.op=ε)(h:(execOp ev o).run P w=.ok .skip w'):False:=by
 obtain⟨l,op,F,pos,G,D⟩:=o;cases op<;>simp only[iZ,RS] at hp<;>simp only[execOp,aaD,aa7] at h
 case call c=>
  obtain⟨j,C,B⟩:=c;cases j<;>simp only[RS] at hp
  case builtin b=>
   cases b<;>simp only[RS] at hp<;>simp only[resolve,aaD,aa7,aax,invoke,builtin] at h<;>exact mP h
 case pick c x y=>cases hb:(asBool (ev c)).run P w<;>simp[hb,Result.andThen] at h
 all_goals first
  |exact mP h
  |(simp at h;done)
section
variable {P:Program} {ops:Array Oper} {Q Q':Exit->Act->World->Prop} {S:World->Prop}
def Kv{o:Oper}{a:Act}{K R:Act->World->Prop}{r:Result Next}(I:∀a w,K a w->R a w)(j:∀e a w,Q e a w->Q' e a w)(h:o.upon P a K Q r):o.upon P a R Q' r:=by
 cases r with
 |ok n w'=>
  cases n<;>simp only[Oper.upon] at h⊢
  case value u=>exact I _ _ h
  case skip=>exact I _ _ h
  case defer d=>exact I _ _ h
  case enter f args=>
   refine Calls.mono h fun e w'' O=> ?_;cases e with
   |returned u=>exact I _ _ O
   |panicked c=>exact j _ _ _ O
   |outgrown=>exact(O:LetsOut Q).elim fun a h=>h.elim fun w h=>⟨a,w,j _ _ _ h⟩
  case row row args=>exact Rows.mono h fun u w'' O=>I _ _ O
 |halt x w'=>
  cases x<;>simp only[Oper.upon] at h⊢
  case panic u=>exact j _ _ _ h
theorem xg{o a v}(hp:iZ o.op=ε)(B:Region.wanted o (yielded ops a.tmps)=ε)(h:∀w,S w->o.quietAt P a S w v):YieldsIf P ops S o v a:=by
 refine .inl ⟨B,fun w hS=> ?_⟩;have j:=h w hS;unfold Oper.quietAt at j;generalize l:(execOp a.eval o).run P w=C at*
 cases C with
 |ok nx w'=>
  cases nx<;>simp only[Oper.quietUpon] at j
  case value u=>obtain⟨rfl,rfl⟩:=j;rfl
  case skip=>exact(vL hp l).elim
  case enter f args=>exact(mK hp l).elim
 |halt x w'=>simp only[Oper.quietUpon] at j
def bG:List Oper->Nat->List Oper
 |[],_=>[]
 |o::_,0=>[o]
 |_::l,n+1=>bG l n
def Gq{p q : Prop}(h : q)(t : Hid q -> p := by intro h;simp only[bW,bG,abM,aaX];(repeat (go_big_quiet_step (fail)));refine aa6 ?_;exact h.o): p := t h
theorem aR.{u,v} {A : Sort u} {B : A -> Sort v} {p : Prop} {q : ∀ a, B a -> Prop} (h : ∀ a b, q a b) (t : Hid (∀ a b, q a b) -> p := by intro h K I;simp only[bG];go_wp2_with fail;exact h.o K I) : p := t h
def bW (l:List Oper):List Nat->List Oper
 |[]=>[]
 |i::is=>bG l i++bW l is
def CP{l i o}(h:l[i]? =γ o):bG l i=[o]:=by
 induction l generalizing i with
 |nil=>simp at h
 |cons x l ih=>
  cases i with
  |zero=>simpa[bG] using h
  |succ i=>simpa[bG] using ih Aci
end

section
variable {P:Program} {ops:Array Oper} {Q:Exit->Act->World->Prop} {S:World->Prop}
def QF:Exit->Act->World->Prop:=fun _ _ _=>False
def sV (P:Program) (ops:Array Oper) (S:World->Prop) (n:Nat) (L:Array Bool->Act->World->Prop):Nat->Array Bool->Act->World->Prop
 |0,listed,a,w=>L listed a w
 |f+1,listed,a,w=>Region.ready .any ops listed≠[]/\∀i∈Region.ready .any ops listed,i<n/\wpOp P ops QF i (fun a' w'=>S w'/\sV P ops S n L f (listed.setIfInBounds i ε) a' w') a w
theorem KS{Q Q' i a w}{K R:Act->World->Prop}(I:∀a w,K a w->R a w)(B:∀e a w,Q e a w->Q' e a w)(h:wpOp P ops Q i K a w):wpOp P ops Q' i R a w:=by
 unfold wpOp at h⊢;split
 .rename_i l;simp only[l] at h;exact I _ _ h
 .rename_i o l
  simp only[l] at h;split
  .rename_i j
   simp only[j,aag] at h;rcases h with h|⟨F,C,w1,D⟩
   .exact .inl (Kv I B h)
   .exact .inr ⟨F,C,w1,B _ _ _ D⟩
  .rename_i j
   simp only[j] at h;exact I _ _ h
def nU{n g}{L:Array Bool->Act->World->Prop}(j:∀B a w,L B a w->wpAny P .any ops Q g B a w):
  ∀(f:Nat) (B:Array Bool) (a:Act) (w:World),sV P ops S n L f B a w->wpAny P .any ops Q (f+g) B a w
 |0,B,a,w,h=>by rw[aan];exact j _ _ _ h
 |f+1,B,a,w,h=>by
  rw[show f+1+g=(f+g)+1 by omega];exact⟨fun l=>absurd l h.1,fun i hi=>KS (fun a' w' K=>nU j f _ a' w' K.2) (fun _ _ _ h=>h.elim) (h.2 i hi).2⟩
def jU{n i l v}{L:Array Bool->Act->World->Prop}(hi:ops[i]? =γ l)(C:∀(j:Nat) (o:Oper) cs b,ops[j]? =γ o->o.op≠ .select cs b)(hs:Region.sinkB .any ops n=ε)(hc:Region.chainB .any ops n=ε)(hn:n<ops.size)(D:i<n)(N:∀B a w,L B a w->∀j∈Region.ready .any ops B,n<=j):
  ∀(f:Nat) (B:Array Bool) (a:Act) (w:World),HeadInv .any ops n B->
   (∀j U,ops[j]? =γ U->j≠i->B.getD j ε=ζ->(∀e∈U.after,Region.binds .any e=ε->e.on≠i)->l.apart ops U=ε)->
   i∈Region.ready .any ops B->YieldsIf P ops S l v a->S w->
   sV P ops S n L f (B.setIfInBounds i ε) (a.put l.dst v) w->sV P ops S n L (f+1) B a w:=by
 intro f
 induction f with
 |zero=>
  intro B a w inv _ K R hS H;have Q:=(abJ.1 K).1;refine⟨fun h=>(by rw[h] at K;cases K),fun j hj=> ?_⟩;have V:j<n:=by
   exact AaF
  refine⟨V,?_⟩;by_cases M:j=i
  .subst M;exact R.wpOp hi hS ⟨hS,H⟩
  .have:=N _ _ _ H j (acn hj M);omega
 |succ f ih=>
  intro B a w inv F K R hS H;have Q:=(abJ.1 K).1;refine⟨fun h=>(by rw[h] at K;cases K),fun j hj=> ?_⟩;have V:j<n:=by
   exact AaF
  refine⟨V,?_⟩;by_cases M:j=i
  .subst M;exact R.wpOp hi hS ⟨hS,H⟩
  .have h1:=(H.2 j (acn hj M)).2;obtain⟨Z,U,Y,I⟩:=abJ.1 hj;have Yy:∀e∈U.after,Region.binds .any e=ε->e.on≠i:=fun e O hb T=>by
    have h1:=I e O hb;rw[T,getD_both Q] at h1;cases h1
   have h2:=wpOp_putIf Y (F j U Y M Z Yy) (fun cs b=>C i l cs b hi) (fun cs b=>C j U cs b Y) (fun _ _ _ h=>h) R h1;have G:∀k ok,ops[k]? =γ ok->k≠i->(B.setIfInBounds j ε).getD k ε=ζ->
     (∀e∈ok.after,Region.binds .any e=ε->e.on≠i)->l.apart ops ok=ε:=fun k ok hk Yx J W=>by
    refine F k ok hk Yx ?_ W;by_cases YP:j=k
    .subst YP;exact Z
    .rw[acE ε YP] at J;exact J
   refine acJ (fun a' w' h3=>⟨h3.2.1,ih (B.setIfInBounds j ε) a' w' (inv.set hj V) G (acn K (abu M)) h3.1 h3.2.1 ?_⟩) h2;rw[ac3 _ _ M];exact h3.2.2
def cK (P:Program) (ops:Array Oper) (S:World->Prop) (L:Act->World->Prop):List (Bool×Nat)->Act->World->Prop
 |[],a,w=>L a w
 |(ε,i)::rest,a,w=>match ops[i]? with
  |some o=>if Region.wanted o (yielded ops a.tmps) then o.quiet P a S (fun a'=>cK P ops S L rest a' w) else cK P ops S L rest (a.put o.dst undef) w
  |none=>False
 |(ζ,i)::rest,a,w=>wpOp P ops QF i (fun a' w'=>S w'/\cK P ops S L rest a' w') a w
def qV (ops:Array Oper) (n:Nat):List (Bool×Nat)->Array Bool->Bool
 |[],listed=>Region.seqB .any ops (ops.size-n) n listed
 |(ε,i)::rest,listed=>((ops[i]?).map fun o=>iZ o.op).getD ζ&&Region.free .any ops listed i&&(Region.ready .any ops listed).contains i&&decide (i<n)&&qV ops n rest (listed.setIfInBounds i ε)
 |(ζ,i)::rest,listed=>decide (Region.ready .any ops listed=[i])&&decide (i<n)&&qV ops n rest (listed.setIfInBounds i ε)
theorem lV{n}{L:Act->World->Prop}(C:Region.noSelect ops=ε)(hs:Region.sinkB .any ops n=ε)(hc:Region.chainB .any ops n=ε)(hn:n<ops.size):
  ∀(ord:List (Bool×Nat)) (B:Array Bool) (a:Act) (w:World),HeadInv .any ops n B->qV ops n ord B=ε->S w->cK P ops S L ord a w->
  sV P ops S n (fun I a' w'=>Region.seqB .any ops (ops.size-n) n I=ε/\L a' w') ord.length B a w
 |[],B,a,w,_,hB,_,h=>⟨by simpa[qV] using hB,h⟩
 |(ε,i)::rest,B,a,w,inv,hB,hS,h=>by
  simp only[qV,ρ,Θ] at hB;obtain⟨⟨⟨⟨hp,O⟩,T⟩,D⟩,M⟩:=hB;have G:i∈Region.ready .any ops B:=by simpa using T
  unfold cK at h;cases l:ops[i]? with
  |none=>simp[l] at h
  |some o=>
   simp only[l] at h;have J:iZ o.op=ε:=by simpa[l] using hp
   by_cases F:Region.wanted o (yielded ops a.tmps)=ε
   .rw[ι F] at h;obtain⟨v,R,Q⟩:=h;exact jU (v:=v) l (aaF C) hs hc hn D (fun _ _ _ H=>ab3 H.1) _ _ _ _ inv (aa4 l O) G (xg J F R) hS (lV C hs hc hn rest _ _ _ (inv.set G D) M hS Q)
   .rw[θ F] at h;exact jU (v:=undef) l (aaF C) hs hc hn D (fun _ _ _ H=>ab3 H.1) _ _ _ _ inv (aa4 l O) G (.inr ⟨by simpa using F,rfl⟩) hS (lV C hs hc hn rest _ _ _ (inv.set G D) M hS h)
 |(ζ,i)::rest,B,a,w,inv,hB,hS,h=>by
  simp only[qV,ρ,Θ] at hB;unfold cK at h;refine⟨by rw[hB.1.1];simp,fun j N=> ?_⟩;have K:=N;rw[hB.1.1] at N;obtain rfl:j=i:=by simpa using N
  exact⟨hB.1.2,acJ (fun a' w' h=>⟨h.1,lV C hs hc hn rest _ _ _ (inv.set K hB.1.2) hB.2 h.1 h.2⟩) h⟩
def Dv{I:Nat}{a:Act}{w:World}{l:List Oper}(n:Nat)(S:World->Prop)(ord:List (Bool×Nat))(O:P.follows .mixedOrders=ε)(M:(Region.noSelect l.toArray&&Region.sinkB .any l.toArray n&&Region.chainB .any l.toArray n&&decide (n<l.length)&&decide (ord.length=n)&&qV l.toArray n ord (Array.replicate l.length ζ))=ε)(hS:S w.drew)(h:cK P l.toArray S (fun a' w'=>wpList P l.toArray Q (l.drop n) a' w') ord a w.drew):(Code.region I l.toArray ε).wp P Q a w:=by
 simp only[ρ,Θ] at M;obtain⟨⟨⟨⟨⟨C,hs⟩,hc⟩,hn⟩,T⟩,F⟩:=M;have J:n<l.toArray.size:=by simpa using hn
 have D:HeadInv .any l.toArray n (Array.replicate l.length ζ):=
  ⟨ag,fun j U _ Z=>AaX,fun t _ N=>aen (by simpa using N) (aaU _ _)⟩
 have H:=lV (P:=P) C hs hc J ord _ a w.drew D F hS h;have G:(l.drop n).length=l.toArray.size-n:=ag;have K:=nU (P:=P) (Q:=Q) (n:=n) (g:=l.toArray.size-n) (fun B a' w' L=>by
  have:=aco (P:=P) (ops:=l.toArray) (md:=.any) (Q':=Q) (l.drop n) n B a' w' (fun j=>ag) (by rw[G];exact L.1) L.2;rwa[G] at this) _ _ _ _ H
 exact Ab5
def bM{I:Nat}{a:Act}{w:World}{l:List Oper}(n:Nat)(ord:List (Bool×Nat))(j:P.follows .mixedOrders=ε)(B:(Region.noSelect l.toArray&&Region.sinkB .any l.toArray n&&Region.chainB .any l.toArray n&&decide (n<l.length)&&decide (ord.length=n)&&qV l.toArray n ord (Array.replicate l.length ζ))=ε)(h:cK P l.toArray (fun w'=>∃x:aX w,w'=x.val) (fun a' w'=>wpList P l.toArray Q (l.drop n) a' w') ord a w.drew):(Code.region I l.toArray ε).wp P Q a w:=
 Dv n _ ord j B ⟨⟨w.drew,(Ext.refl w).drew⟩,rfl⟩ h
def bC{l w}{L:Act->World->Prop}:∀(is:List Nat) (rest:List (Bool×Nat)) (a:Act),is.all (fun i=>decide (i<l.length))=ε->
  wpQuiet P l.toArray S (fun a'=>cK P l.toArray S L rest a' w) (bW l is) a->cK P l.toArray S L (is.map (fun i=>(ε,i))++rest) a w
 |[],_,_,_,h=>h
 |i::is,rest,a,hi,h=>by
  simp only[abQ,ρ,Θ] at hi;have B:l[i]? =γ l[i]:=ν hi.1;simp only[bW,CP B,adn,wpQuiet] at h;simp only[abR,abM,cK,Γ,B];by_cases j:Region.wanted l[i] (yielded l.toArray a.tmps)=ε
  .rw[ι j] at h⊢;exact Oper.quiet_mono (fun a' K=>bC is rest a' hi.2 K) h
  .rw[θ j] at h⊢;exact bC is rest _ hi.2 h
theorem bz{l a w}{L:Act->World->Prop}(i rest)(hi:decide (i<l.length)=ε)(h:∀K:Act->World->Prop,(∀a' w',S w'->cK P l.toArray S L rest a' w'->K a' w')->wpList P l.toArray (fun e a' w'=>e=.normal/\K a' w') (bG l i) a w):
  cK P l.toArray S L ((ζ,i)::rest) a w:=by
 have D:i<l.length:=by simpa using hi
 have G:l[i]? =γ l[i]:=ν D;have B:=h (fun a' w'=>S w'/\cK P l.toArray S L rest a' w') (fun _ _ B H=>⟨B,H⟩);simp only[CP G,wpList] at B;unfold cK wpOp;simp only[Γ,G];split
 .rename_i F
  simp only[F,aag] at B;rcases B with B|⟨_,_,_,B,_⟩
  .refine .inl ?_;have j:∀r:Result Next,(l[i]).upon P a (fun a' w'=>True/\S w'/\cK P l.toArray S L rest a' w') (fun e a' w'=>e=.normal/\S w'/\cK P l.toArray S L rest a' w') r->
     (l[i]).upon P a (fun a' w'=>S w'/\cK P l.toArray S L rest a' w') QF r:=by
    intro r C;cases r with
    |ok n w'=>
     cases n<;>simp only[Oper.upon] at C⊢
     case value u=>exact C.2
     case skip=>exact C.2
     case defer d=>exact C.2
     case enter f args=>
      refine Calls.mono C fun e w'' O=> ?_;cases e with
      |returned u=>exact O.2
      |panicked c=>cases O.1
      |outgrown=>exact(O:LetsOut _).elim fun a h=>h.elim fun w h=>by cases h.1
     case row row args=>exact Rows.mono C fun u w'' O=>O.2
    |halt x w'=>
     cases x<;>simp only[Oper.upon] at C⊢
     case panic u=>cases C.1
   exact j _ B
  .cases B
 .rename_i F
  simp only[F] at B;exact B.2
end
section
variable {P:Program} {ops:Array Oper} {Q:Exit->Act->World->Prop} {S:World->Prop}
def lN (P:Program) (ops:Array Oper) (S:World->Prop) (L:Act->World->Prop) (f:Nat) (post:List (Bool×Nat)):List (Bool×Nat)->Act->World->Prop
 |[],a,w=>wpOp P ops QF f (fun a' w'=>S w'/\cK P ops S L post a' w') a w
 |(ε,i)::rest,a,w=>match ops[i]? with
  |some o=>if Region.wanted o (yielded ops a.tmps) then o.quiet P a S (fun a'=>lN P ops S L f post rest a' w) else lN P ops S L f post rest (a.put o.dst undef) w
  |none=>False
 |(ζ,i)::rest,a,w=>wpOp P ops QF i (fun a' w'=>S w'/\lN P ops S L f post rest a' w') a w/\wpOp P ops QF f (fun a' w'=>S w'/\cK P ops S L ((ζ,i)::rest++post) a' w') a w
def ui (ops:Array Oper) (n f:Nat) (post:List (Bool×Nat)):List (Bool×Nat)->Array Bool->Bool
 |[],listed=>decide (Region.ready .any ops listed=[f])&&decide (f<n)&&qV ops n post (listed.setIfInBounds f ε)
 |(ε,i)::rest,listed=>((ops[i]?).map fun o=>iZ o.op).getD ζ&&Region.free .any ops listed i&&(Region.ready .any ops listed).contains i&&decide (i<n)&&ui ops n f post rest (listed.setIfInBounds i ε)
 |(ζ,i)::rest,listed=>decide (Region.ready .any ops listed=[i,f])&&decide (i<n)&&decide (f<n)&&ui ops n f post rest (listed.setIfInBounds i ε)&&qV ops n ((ζ,i)::rest++post) (listed.setIfInBounds f ε)
theorem mF{n f post}{L:Act->World->Prop}(C:Region.noSelect ops=ε)(hs:Region.sinkB .any ops n=ε)(hc:Region.chainB .any ops n=ε)(hn:n<ops.size):
  ∀(ord:List (Bool×Nat)) (B:Array Bool) (a:Act) (w:World),HeadInv .any ops n B->ui ops n f post ord B=ε->S w->lN P ops S L f post ord a w->
  sV P ops S n (fun I a' w'=>Region.seqB .any ops (ops.size-n) n I=ε/\L a' w') (ord.length+(post.length+1)) B a w
 |[],B,a,w,inv,hB,hS,h=>by
  simp only[ui,ρ,Θ] at hB;unfold lN at h;rw[show([]:List (Bool×Nat)).length+(post.length+1)=post.length+1 by simp];refine⟨by rw[hB.1.1];simp,fun j H=> ?_⟩;have F:=H;rw[hB.1.1] at H;obtain rfl:j=f:=by simpa using H
  exact⟨hB.1.2,acJ (fun a' w' h=>⟨h.1,lV C hs hc hn post _ _ _ (inv.set F hB.1.2) hB.2 h.1 h.2⟩) h⟩
 |(ε,i)::rest,B,a,w,inv,hB,hS,h=>by
  simp only[ui,ρ,Θ] at hB;obtain⟨⟨⟨⟨hp,U⟩,Q⟩,D⟩,M⟩:=hB;have G:i∈Region.ready .any ops B:=by simpa using Q
  unfold lN at h;rw[show((ε,i)::rest).length+(post.length+1)=(rest.length+(post.length+1))+1 by simp;omega];cases K:ops[i]? with
  |none=>simp[K] at h
  |some o=>
   simp only[K] at h;have J:iZ o.op=ε:=by simpa[K] using hp
   by_cases O:Region.wanted o (yielded ops a.tmps)=ε
   .rw[ι O] at h;obtain⟨v,W,V⟩:=h;exact jU (v:=v) K (aaF C) hs hc hn D (fun _ _ _ R=>ab3 R.1) _ _ _ _ inv (aa4 K U) G (xg J O W) hS (mF C hs hc hn rest _ _ _ (inv.set G D) M hS V)
   .rw[θ O] at h;exact jU (v:=undef) K (aaF C) hs hc hn D (fun _ _ _ R=>ab3 R.1) _ _ _ _ inv (aa4 K U) G (.inr ⟨by simpa using O,rfl⟩) hS (mF C hs hc hn rest _ _ _ (inv.set G D) M hS h)
 |(ζ,i)::rest,B,a,w,inv,hB,hS,h=>by
  simp only[ui,ρ,Θ] at hB;obtain⟨⟨⟨⟨Q,D⟩,N⟩,l⟩,T⟩:=hB;unfold lN at h;rw[show((ζ,i)::rest).length+(post.length+1)=(rest.length+(post.length+1))+1 by simp;omega];refine⟨by rw[Q];simp,fun j H=> ?_⟩;have F:=H;rw[Q] at H;simp only[lh,I6,aaM] at H;rcases H with rfl|rfl
  .exact⟨D,acJ (fun a' w' h=>⟨h.1,mF C hs hc hn rest _ _ _ (inv.set F D) l h.1 h.2⟩) h.1⟩
  .refine⟨N,acJ (fun a' w' h=>⟨h.1,?_⟩) h.2⟩;have:=lV (P:=P) (S:=S) (L:=L) C hs hc hn _ _ _ _ (inv.set F N) T h.1 h.2;rw[show((ζ,i)::rest++post).length=rest.length+(post.length+1) by simp;omega] at this;exact this
def uE{I:Nat}{a:Act}{w:World}{l:List Oper}(n f:Nat)(J post:List (Bool×Nat))(R:Act->Act->World->Prop)(S:P.follows .mixedOrders=ε)(N:(Region.noSelect l.toArray&&Region.sinkB .any l.toArray n&&Region.chainB .any l.toArray n&&decide (n<l.length)&&decide (J.length+(post.length+1)=n)&&ui l.toArray n f post J (Array.replicate l.length ζ))=ε)(h:lN P l.toArray (fun w'=>∃x:aX w,w'=x.val) (fun a' w'=>R a a' w') f post J a w.drew)(V:∀a' w',R a a' w'->wpList P l.toArray Q (l.drop n) a' w'):(Code.region I l.toArray ε).wp P Q a w:=by
 simp only[ρ,Θ] at N;obtain⟨⟨⟨⟨⟨C,hs⟩,hc⟩,hn⟩,T⟩,F⟩:=N;have K:n<l.toArray.size:=by simpa using hn
 have D:HeadInv .any l.toArray n (Array.replicate l.length ζ):=
  ⟨ag,fun j U _ Z=>AaX,fun t _ O=>aen (by simpa using O) (aaU _ _)⟩
 have H:=mF (P:=P) C hs hc K J _ a w.drew D F ⟨⟨w.drew,(Ext.refl w).drew⟩,rfl⟩ h;have G:(l.drop n).length=l.toArray.size-n:=ag;have L:=nU (P:=P) (Q:=Q) (n:=n) (g:=l.toArray.size-n) (fun B a' w' M=>by
  have:=aco (P:=P) (ops:=l.toArray) (md:=.any) (Q':=Q) (l.drop n) n B a' w' (fun j=>ag) (by rw[G];exact M.1) (V _ _ M.2);rwa[G] at this) _ _ _ _ H
 rw[T] at L;have e:n+(l.toArray.size-n)=l.toArray.size:=by simp at hn⊢;omega
 rw[e] at L;refine acN S ?_;simpa using L
def F6{l a w}{M:Act->World->Prop}(i)(hi:decide (i<l.length)=ε)(h:∀K:Act->World->Prop,(∀a' w',S w'->M a' w'->K a' w')->wpList P l.toArray (fun e a' w'=>e=.normal/\K a' w') (bG l i) a w):
  wpOp P l.toArray QF i (fun a' w'=>S w'/\M a' w') a w:=bz (L:=M) i [] hi h
def gJ{l w}{L:Act->World->Prop}{f post}:∀(is:List Nat) (rest:List (Bool×Nat)) (a:Act),is.all (fun i=>decide (i<l.length))=ε->
  wpQuiet P l.toArray S (fun a'=>lN P l.toArray S L f post rest a' w) (bW l is) a->lN P l.toArray S L f post (is.map (fun i=>(ε,i))++rest) a w
 |[],_,_,_,h=>h
 |i::is,rest,a,hi,h=>by
  simp only[abQ,ρ,Θ] at hi;have B:l[i]? =γ l[i]:=ν hi.1;simp only[bW,CP B,adn,wpQuiet] at h;simp only[abR,abM,lN,Γ,B];by_cases j:Region.wanted l[i] (yielded l.toArray a.tmps)=ε
  .rw[ι j] at h⊢;exact Oper.quiet_mono (fun a' K=>gJ is rest a' hi.2 K) h
  .rw[θ j] at h⊢;exact gJ is rest _ hi.2 h
def nL{l a w}{L:Act->World->Prop}{f post}(i rest)(hi:decide (i<l.length)=ε)(j:decide (f<l.length)=ε)(h:∀K:Act->World->Prop,(∀a' w',S w'->lN P l.toArray S L f post rest a' w'->K a' w')->wpList P l.toArray (fun e a' w'=>e=.normal/\K a' w') (bG l i) a w)(B:∀K:Act->World->Prop,(∀a' w',S w'->cK P l.toArray S L ((ζ,i)::rest++post) a' w'->K a' w')->wpList P l.toArray (fun e a' w'=>e=.normal/\K a' w') (bG l f) a w):
  lN P l.toArray S L f post ((ζ,i)::rest) a w:=⟨F6 i hi h,F6 f j B⟩
def qx{l a w}{L:Act->World->Prop}{f post}(j:decide (f<l.length)=ε)(B:∀K:Act->World->Prop,(∀a' w',S w'->cK P l.toArray S L post a' w'->K a' w')->wpList P l.toArray (fun e a' w'=>e=.normal/\K a' w') (bG l f) a w):
  lN P l.toArray S L f post [] a w:=F6 f j B
end
def zY{P}(w){base t F e size l}(E:Elem P t e size l){v n xs}(N:w.ownsRow base e size v n xs)(A c):
  (Builtin.append_ #[t,t] F #[v,aO A 0 c]).run P w=.ok v w:=by
 obtain⟨i,z,j,hi,D,I,L,M,C⟩:=E;rcases N.2 with ⟨rfl,rfl⟩|⟨g,G,cur,rfl,_,_,B,_⟩
 .cases A<;>simp[Builtin.append_,abg j,sizeOf,typeInfo,hi,Builtin.lenOf,Builtin.firstCells,loadCells,loadCellsFrom]
 .cases A<;>simp[Builtin.append_,abg j,sizeOf,typeInfo,hi,Builtin.lenOf,Builtin.firstCells,B,storeCells,loadCells,loadCellsFrom]
theorem jk{P w ops rest o a Q t e size l}(E:Elem P t e size l)(D:o.guard=δ)(s x:Operand)(B:o.op=.call {callee:=.builtin .append,args:= #[s,x],argTypes:= #[t,t]})(base v n xs)(hs:a.eval s=v)(N:w.ownsRow base e size v n xs)(A m c C)(J:a.eval x=.slice A m c)(M:Reads w w.heap.size size A m C)(R:∀u∈C,u.oneCell'=ε)(K:n+m<=9223372036854775807)(F:(n+m)*l<=140737488355328)(H:base<=w.heap.size)(h:∀L w',w'.ownsRow base e size L (n+m) (xs++C)->w.grownBy w' v.ownBlock->wpList P ops Q rest (a.put o.dst L) w'):
  wpList P ops Q (o::rest) a w:=by
 rcases Bn m with j|j
 .subst j;obtain rfl:C=[]:=I5 (by simpa using M.1);refine adQ D fun _ I=> ?_;unfold Oper.wp execOp;simp only[B,resolve,invoke,builtin,aaD,aa7,aax,List.map_toArray,abR,List.map_nil,hs,J,zY w E N A c];exact I _ _ (h v w (by simpa using N) (World.grownBy.refl w _))
 .exact Jk E D s x B base v n xs hs N A m c C J M R j K F H (fun g G w' O S _ _=>h _ w' O S)
def wpT_q1{P:Program}{ops:Array Oper}{w0:World}{E:Nat->Bool}{Φ:Nat->Nat->Nat->Value->World->Prop}{Q:Book->Act->Prop}{o:Oper}{l:List Oper}{k:Nat}{F:Book}{a:Act}(B:ops[k]? =γ o)(Y:(!E k&&iZ o.op)=ε)(h:wpQuiet P ops (fun w'=>∃x:aX w0,w'=x.val) (fun a'=>wpT P ops w0 E Φ Q l (k+1) F a') [o] a):wpT P ops w0 E Φ Q (o::l) k F a:=
 J7 1 (fun j C=>by
  obtain rfl:j=0:=aa;exact B.symm) (by simpa[B] using Y) h
def Qs{p q:Prop}(h:q)(t:q->p:=by
 intro h;(repeat (refine wpT_q1 (by rfl) (by rfl) ?_;go_big_quiet_step (fail);refine aa6 ?_));exact h):p:=t h
def Qp{p q:Prop}(h:q)(t:q->p:=by
 intro h;(try simp only[Act.put,aQ,BB,De]);exact h):p:=t h
def Qz{p q:Prop}(h:q)(t:q->p:=by
 intro h;(try simp only[Act.put,aQ,BB,De]);exact h):Hid p:=aW (t h)
def Kn.f{ops:Array Oper}{w0:World}{Φ:Nat->Nat->Nat->Value->World->Prop}{k:Nat}{F:Book}{w:World}(h:Kn ops w0 Φ k F w)(i:Nat)(e:Value×Nat×Nat)(l:F i=γ e:=by rfl)(j:anc ops ops.size k i=ε:=by kernel_rfl):Φ i e.2.1 e.2.2 e.1 w:=h.2 i e l j
section
variable {P:Program} {ops:Array Oper} {w0:World} {E:Nat->Bool} {Φ:Nat->Nat->Nat->Value->World->Prop} {Qt:Book->Act->Prop} {o:Oper} {l:List Oper} {k:Nat} {F:Book} {a:Act}
def Eb{Q:Nat->Nat->Prop}(h:∀g hi,g<hi->Q g hi)(t:(∀g hi,g<hi->Q g hi)->wpT P ops w0 E Φ Qt (o::l) k F a:=by
   intro h;refine eF (by rfl) (by rfl) (by rfl) ?_ ?_
   .intro W I;go_simp;exact⟨Ext.new _ _,rfl,by simp,Blk.new _ _ _⟩
   .intro v g hi B;obtain⟨W,j⟩:=B;obtain⟨rfl,Z,-⟩:=j.get;clear j W;(try simp only[Act.put,aQ,BB,De]);exact h g hi Z):wpT P ops w0 E Φ Qt (o::l) k F a:=t h
def En_{Q:Nat->Nat->Prop}(h:∀lo hi,Q lo hi)(t:(∀lo hi,Q lo hi)->wpT P ops w0 E Φ Qt (o::l) k F a:=by
   intro h;refine eF (by rfl) (by rfl) (by rfl) ?_ ?_
   .intro W I;go_simp;exact⟨Ext.refl _,rfl⟩
   .intro v lo hi B;obtain⟨W,j⟩:=B;obtain rfl:v=_:=j.get;clear j W;(try simp only[Act.put,aQ,BB,De]);exact h lo hi):wpT P ops w0 E Φ Qt (o::l) k F a:=t h
variable {G:Value->World->Prop} {f:FuncId} {args:Array Value}
def E1{Q:Value->Nat->Nat->Prop}(x:∀W,Kn ops w0 Φ k F W->Calls P f args W (fun e w'=>∃v,e=.returned v/\G v w'/\Ext W w'))(h:∀v lo hi,Q v lo hi)(t:(∀W,Kn ops w0 Φ k F W->Calls P f args W (fun e w'=>∃v,e=.returned v/\G v w'/\Ext W w'))->(∀v lo hi,Q v lo hi)->wpT P ops w0 E Φ Qt (o::l) k F a:=by
   intro x h;refine eF (by rfl) (by rfl) (by rfl) ?_ ?_
   .intro W I;have y:=x W I;clear x h I;go_simp;exact⟨rfl,y.mono fun e w' ⟨v,O,hv,J⟩=>⟨v,O,J,hv⟩⟩
   .intro v lo hi j;clear j x;(try simp only[Act.put,aQ,BB,De]);exact h v lo hi):wpT P ops w0 E Φ Qt (o::l) k F a:=t x h
end

def Qd{p q:Prop}(h:q)(t:q->p:=by
 intro h;simp only[aaz,abh,ξ,τ];exact h):p:=t h
def an1(w:World)(j:TypeId)(c1:Array Value):Ext w (w.alloc (.cells c1 j))/\Blk (w.alloc (.cells c1 j)) w.heap.size j c1:=⟨(Ext.trans (Ext.refl w) (Ext.new _ _)),(aeW _ _ ag)⟩
def ah1(w:World)(j:TypeId)(c1:Array Value):Hid (Ext w (w.alloc (.cells c1 j)))/\Hid (Blk (w.alloc (.cells c1 j)) w.heap.size j c1):=⟨aW (Ext.trans (Ext.refl w) (Ext.new _ _)),aW (aeW _ _ ag)⟩
def an2(w:World)(j:TypeId)(c1:Array Value)(l:TypeId)(c2:Array Value):Ext w ((w.alloc (.cells c1 j)).alloc (.cells c2 l))/\Blk ((w.alloc (.cells c1 j)).alloc (.cells c2 l)) w.heap.size j c1/\Blk ((w.alloc (.cells c1 j)).alloc (.cells c2 l)) (w.heap.size+1) l c2:=⟨(Ext.trans (Ext.trans (Ext.refl w) (Ext.new _ _)) (Ext.new _ _)),(Blk.alloc (aeW _ _ ag) _),(aeW _ _ ag)⟩
def ah2(w:World)(j:TypeId)(c1:Array Value)(l:TypeId)(c2:Array Value):Hid (Ext w ((w.alloc (.cells c1 j)).alloc (.cells c2 l)))/\Hid (Blk ((w.alloc (.cells c1 j)).alloc (.cells c2 l)) w.heap.size j c1)/\Hid (Blk ((w.alloc (.cells c1 j)).alloc (.cells c2 l)) (w.heap.size+1) l c2):=⟨aW (Ext.trans (Ext.trans (Ext.refl w) (Ext.new _ _)) (Ext.new _ _)),aW (Blk.alloc (aeW _ _ ag) _),aW (aeW _ _ ag)⟩
def an3(w:World)(j:TypeId)(c1:Array Value)(l:TypeId)(c2:Array Value)(B:TypeId)(c3:Array Value):Ext w (((w.alloc (.cells c1 j)).alloc (.cells c2 l)).alloc (.cells c3 B))/\Blk (((w.alloc (.cells c1 j)).alloc (.cells c2 l)).alloc (.cells c3 B)) w.heap.size j c1/\Blk (((w.alloc (.cells c1 j)).alloc (.cells c2 l)).alloc (.cells c3 B)) (w.heap.size+1) l c2/\Blk (((w.alloc (.cells c1 j)).alloc (.cells c2 l)).alloc (.cells c3 B)) (w.heap.size+2) B c3:=⟨(Ext.trans (Ext.trans (Ext.trans (Ext.refl w) (Ext.new _ _)) (Ext.new _ _)) (Ext.new _ _)),(Blk.alloc (Blk.alloc (aeW _ _ ag) _) _),(Blk.alloc (aeW _ _ ag) _),(aeW _ _ ag)⟩
def ah3(w:World)(j:TypeId)(c1:Array Value)(l:TypeId)(c2:Array Value)(B:TypeId)(c3:Array Value):Hid (Ext w (((w.alloc (.cells c1 j)).alloc (.cells c2 l)).alloc (.cells c3 B)))/\Hid (Blk (((w.alloc (.cells c1 j)).alloc (.cells c2 l)).alloc (.cells c3 B)) w.heap.size j c1)/\Hid (Blk (((w.alloc (.cells c1 j)).alloc (.cells c2 l)).alloc (.cells c3 B)) (w.heap.size+1) l c2)/\Hid (Blk (((w.alloc (.cells c1 j)).alloc (.cells c2 l)).alloc (.cells c3 B)) (w.heap.size+2) B c3):=⟨aW (Ext.trans (Ext.trans (Ext.trans (Ext.refl w) (Ext.new _ _)) (Ext.new _ _)) (Ext.new _ _)),aW (Blk.alloc (Blk.alloc (aeW _ _ ag) _) _),aW (Blk.alloc (aeW _ _ ag) _),aW (aeW _ _ ag)⟩
def an4(w:World)(j:TypeId)(c1:Array Value)(l:TypeId)(c2:Array Value)(B:TypeId)(c3:Array Value)(C:TypeId)(c4:Array Value):Ext w ((((w.alloc (.cells c1 j)).alloc (.cells c2 l)).alloc (.cells c3 B)).alloc (.cells c4 C))/\Blk ((((w.alloc (.cells c1 j)).alloc (.cells c2 l)).alloc (.cells c3 B)).alloc (.cells c4 C)) w.heap.size j c1/\Blk ((((w.alloc (.cells c1 j)).alloc (.cells c2 l)).alloc (.cells c3 B)).alloc (.cells c4 C)) (w.heap.size+1) l c2/\Blk ((((w.alloc (.cells c1 j)).alloc (.cells c2 l)).alloc (.cells c3 B)).alloc (.cells c4 C)) (w.heap.size+2) B c3/\Blk ((((w.alloc (.cells c1 j)).alloc (.cells c2 l)).alloc (.cells c3 B)).alloc (.cells c4 C)) (w.heap.size+3) C c4:=⟨(Ext.trans (Ext.trans (Ext.trans (Ext.trans (Ext.refl w) (Ext.new _ _)) (Ext.new _ _)) (Ext.new _ _)) (Ext.new _ _)),(Blk.alloc (Blk.alloc (Blk.alloc (aeW _ _ ag) _) _) _),(Blk.alloc (Blk.alloc (aeW _ _ ag) _) _),(Blk.alloc (aeW _ _ ag) _),(aeW _ _ ag)⟩
def ah4(w:World)(j:TypeId)(c1:Array Value)(l:TypeId)(c2:Array Value)(B:TypeId)(c3:Array Value)(C:TypeId)(c4:Array Value):Hid (Ext w ((((w.alloc (.cells c1 j)).alloc (.cells c2 l)).alloc (.cells c3 B)).alloc (.cells c4 C)))/\Hid (Blk ((((w.alloc (.cells c1 j)).alloc (.cells c2 l)).alloc (.cells c3 B)).alloc (.cells c4 C)) w.heap.size j c1)/\Hid (Blk ((((w.alloc (.cells c1 j)).alloc (.cells c2 l)).alloc (.cells c3 B)).alloc (.cells c4 C)) (w.heap.size+1) l c2)/\Hid (Blk ((((w.alloc (.cells c1 j)).alloc (.cells c2 l)).alloc (.cells c3 B)).alloc (.cells c4 C)) (w.heap.size+2) B c3)/\Hid (Blk ((((w.alloc (.cells c1 j)).alloc (.cells c2 l)).alloc (.cells c3 B)).alloc (.cells c4 C)) (w.heap.size+3) C c4):=⟨aW (Ext.trans (Ext.trans (Ext.trans (Ext.trans (Ext.refl w) (Ext.new _ _)) (Ext.new _ _)) (Ext.new _ _)) (Ext.new _ _)),aW (Blk.alloc (Blk.alloc (Blk.alloc (aeW _ _ ag) _) _) _),aW (Blk.alloc (Blk.alloc (aeW _ _ ag) _) _),aW (Blk.alloc (aeW _ _ ag) _),aW (aeW _ _ ag)⟩
structure Imp where
 r:Int
 x:Int
 deriving DecidableEq,Inhabited
structure zR where
 name:ByteArray
 z1:Imp
 z0:Imp
 deriving DecidableEq,Inhabited
structure qG where
 name:ByteArray
 emf:Int
 z1:Imp
 z0:Imp
 deriving DecidableEq,Inhabited
structure qO where
 bus:Int
 pos:Int
 deriving DecidableEq,Inhabited
structure il where
 name:ByteArray
 kind:Int
 obj:Int
 en:Int
 z:Imp
 links:List qO
 closed:Bool
 ct:Int
 vt:Int
 sat:Int
 travel:Int
 deriving DecidableEq,Inhabited
structure StD where
 name:ByteArray
 buses:List ByteArray
 lines:List zR
 srcs:List qG
 bays:List il
 deriving DecidableEq,Inhabited
structure dY where
 kind:Int
 line:Bool
 obj:Int
 num:Int
 den:Int
 r:Int
 deriving DecidableEq,Inhabited
structure dH where
 closed:List Bool
 links:List (List Int)
 deriving DecidableEq,Inhabited
def dA (E:Nat->Int):Nat->Int
 |0=>0
 |n+1=>if dA E n=0 then E n else dA E n
def dE{E}:∀{n},(∀i,i<n->E i=0)->dA E n=0
 |0,_=>rfl
 |n+1,h=>by
  show(if dA E n=0 then E n else dA E n)=0;rw[dE (fun i hi=>h i aa),ι rfl];exact h n aa
def mV{E}:∀{n},dA E n=0->∀i,i<n->E i=0
 |0,_,i,hi=>absurd hi aa
 |n+1,h,i,hi=>by
  have K:(if dA E n=0 then E n else dA E n)=0:=h;by_cases e:dA E n=0
  .rw[ι e] at K;by_cases D:i=n
   .rw[D];exact K
   .exact mV e i aa
  .rw[θ e] at K;exact absurd K e
def Ep{E k}(l:∀i,i<k->E i=0)(j:E k≠0):∀{n},k<n->dA E n=E k
 |0,h=>absurd h aa
 |n+1,h=>by
  show(if dA E n=0 then E n else dA E n)=E k;by_cases O:k=n
  .rw[dE (fun i hi=>l i aa),ι rfl,O]
  .rw[Ep l j (n:=n) aa,θ j]
def pK{E F}:∀{n},(∀i,i<n->E i=F i)->dA E n=dA F n
 |0,_=>rfl
 |n+1,h=>by
  show(if dA E n=0 then E n else dA E n)=(if dA F n=0 then F n else dA F n);rw[pK (fun i hi=>h i aa),h n aa]
def dS (c:Nat):Bool:=(decide (65<=c)&&decide (c<=90))||(decide (97<=c)&&decide (c<=122))
def eQ (c:Nat):Bool:=(decide (48<=c)&&decide (c<=57))||decide (c=95)
def wJ (s:ByteArray) (i:Nat):Nat:=(s.data.getD i 0).toNat
def jd (s:ByteArray) (i:Nat):Bool:=dS (wJ s i)||(decide (0<i)&&eQ (wJ s i))
def fJ (s:ByteArray):Bool:=decide (0<s.size)&&decide (s.size<=12)&&(List.range s.size).all (jd s)
def D7{s}(l:0<s.size)(j:s.size<=12)(h:∀i,i<s.size->jd s i=ε):fJ s=ε:=by
 simp only[fJ,l,j,acF,abv,qb,aav];exact h
def dQ{s i}(hi:i<s.size)(h:jd s i=ζ):fJ s=ζ:=by
 cases j:fJ s with
 |false=>rfl
 |true=>
  simp only[fJ,ρ,qb,aav] at j;rw[j.2 i hi] at h;cases h
def zJ{s}(h:s.size=0\/12<s.size):fJ s=ζ:=by
 cases j:fJ s with
 |false=>rfl
 |true=>
  simp only[fJ,ρ,Θ] at j;omega
def btw (n lo hi:Int):Bool:=decide (lo<=n)&&decide (n<=hi)
def fw{n lo hi}:btw n lo hi=ε↔lo<=n/\n<=hi:=by simp[btw]
def okZ (z:Imp):Bool:=btw z.r 0 1000&&btw z.x 1 1000
def vJ{z:Imp}:okZ z=ε↔(0<=z.r/\z.r<=1000)/\1<=z.x/\z.x<=1000:=by simp[okZ,btw]
def nms (s:StD) (b l g q:Nat):List ByteArray:=
 s.buses.take b++(s.lines.take l).map zR.name++(s.srcs.take g).map qG.name++(s.bays.take q).map il.name
def vK (s:ByteArray):List ByteArray->Bool
 |[]=>ζ
 |x::l=>decide (x=s)||vK s l
def eu (l:List ByteArray) (s:ByteArray):Int:=if fJ s=ε then (if vK s l=ε then 8 else 0) else 7
def sJ (s:StD) (i:Nat):Int:=eu (nms s i 0 0 0) (s.buses.getD i η)
def kW (s:StD) (i:Nat):Int:=
 let x:=s.lines.getD i η
 let e:=eu (nms s s.buses.length i 0 0) x.name
 if e=0 then (if (okZ x.z1&&okZ x.z0)=ε then 0 else 2) else e
def jr (x:qG):Bool:=btw x.emf 1 1000000&&okZ x.z1&&okZ x.z0
def rq (s:StD) (i:Nat):Int:=
 let x:=s.srcs.getD i η
 let e:=eu (nms s s.buses.length s.lines.length i 0) x.name
 if e=0 then (if jr x=ε then 0 else 2) else e
def jH (nl ns:Nat) (x:il):Int:=
 if x.kind=1 then (if btw x.obj 0 ((nl:Int)-1)=ε then 0 else 9)
 else if x.kind=2 then (if btw x.obj 0 ((ns:Int)-1)=ε then 0 else 9)
 else if x.kind=3 then (if x.obj=0 then 0 else 9)
 else 10
def dz (x:il):Bool:=
 (if x.kind=3 then okZ x.z&&decide (x.vt=0) else decide (x.z=⟨0,0⟩)&&btw x.vt 1 10000)&&
 (btw x.en 0 (if x.kind=1 then 1 else 0)&&btw x.ct 1 100&&btw x.sat 0 16383&&btw x.travel 1 6)
def mQ (x y:il):Bool:=decide (x.kind=y.kind)&&decide (x.obj=y.obj)&&decide (x.en=y.en)
def oP (l:List il) (x:il):Bool:=decide (x.kind≠3)&&l.any (mQ x)
def iQ (nb:Nat) (x:il) (i:Nat):Int:=
  let l:=x.links.getD i η
  if btw l.bus 0 ((nb:Int)-1)=ε then
    (if l.pos≠1/\(l.pos≠0\/x.kind=3) then 16
     else if 0<i/\(x.links.getD (i-1) η).bus=l.bus then 12 else 0)
  else 9
def iI (nb:Nat) (x:il):Int:=
 if x.links.length<1\/2<x.links.length\/(x.kind=3/\x.links.length≠2) then 3 else dA (iQ nb x) x.links.length
def su (s:StD) (i:Nat):Int:=
 let x:=s.bays.getD i η
 if jH s.lines.length s.srcs.length x=0 then
  (if dz x=ε then (if oP (s.bays.take i) x=ε then 12 else iI s.buses.length x) else 2)
 else jH s.lines.length s.srcs.length x
def tY (s:StD) (i:Nat):Int:=
 let e:=eu (nms s s.buses.length s.lines.length s.srcs.length i) (s.bays.getD i η).name
 if e=0 then su s i else e
def lu (s:StD):Bool:=
 decide (1<=s.buses.length)&&decide (s.buses.length<=4)&&decide (s.lines.length<=6)&&decide (s.srcs.length<=4)&&decide (s.bays.length<=16)
def chk (s:StD):Int:=
 if fJ s.name=ε then
  if lu s=ε then
   if dA (sJ s) s.buses.length=0 then
    if dA (kW s) s.lines.length=0 then
     if dA (rq s) s.srcs.length=0 then dA (tY s) s.bays.length
     else dA (rq s) s.srcs.length
    else dA (kW s) s.lines.length
   else dA (sJ s) s.buses.length
  else 3
 else 7
def fu (nb nl:Nat) (f:dY):Int:=
 if f=⟨0,ζ,0,0,0,0⟩ then 0
 else if btw f.kind 1 10=ε then
  if btw f.obj 0 ((if f.line=ε then (nl:Int) else (nb:Int))-1)=ε then
   if f.line=ε/\(f.den<2\/16<f.den\/f.num<1\/f.den-1<f.num) then 2
   else if f.line=ζ/\(f.num≠0\/f.den≠0) then 2
   else if btw f.r 0 1000=ε then 0 else 2
  else 9
 else 10
def xu (s:StD) (f:dY):Int:=if chk s=0 then fu s.buses.length s.lines.length f else chk s
structure jG (s:StD):Prop where
 nb:1<=s.buses.length/\s.buses.length<=4
 nl:s.lines.length<=6
 ns:s.srcs.length<=4
 nq:s.bays.length<=16
 line:∀i,i<s.lines.length->okZ (s.lines.getD i η).z1=ε/\okZ (s.lines.getD i η).z0=ε
 src:∀i,i<s.srcs.length->jr (s.srcs.getD i η)=ε
 obj:∀i,i<s.bays.length->jH s.lines.length s.srcs.length (s.bays.getD i η)=0
 rng:∀i,i<s.bays.length->dz (s.bays.getD i η)=ε
 conf:∀i,i<s.bays.length->oP (s.bays.take i) (s.bays.getD i η)=ζ
 links:∀i,i<s.bays.length->iI s.buses.length (s.bays.getD i η)=0
theorem uf{s}(h:chk s=0):jG s:=by
 unfold chk at h;split at h
 .split at h
  .rename_i hc
   split at h
   .rename_i D
    split at h
    .rename_i l
     split at h
     .rename_i B
      simp only[lu,ρ,Θ] at hc;have b (i:Nat) (hi:i<s.bays.length):su s i=0:=by
       have hb:=mV h i hi;unfold tY at hb;simp only[] at hb;split at hb
       .exact hb
       .exact absurd hb Abi
      refine⟨⟨aa,aa⟩,aa,aa,aa,?_,?_,?_,?_,?_,?_⟩
      .intro i hi;have hb:=mV l i hi;unfold kW at hb;simp only[] at hb;split at hb
       .split at hb
        .rename_i C
         simpa only[ρ] using C
        .exact absurd hb aj
       .exact absurd hb Abi
      .intro i hi;have hb:=mV B i hi;unfold rq at hb;simp only[] at hb;split at hb
       .split at hb
        .assumption
        .exact absurd hb aj
       .exact absurd hb Abi
      all_goals
       intro i hi;have hb:=b i hi;unfold su at hb;simp only[] at hb;split at hb
       .split at hb
        .split at hb
         .exact absurd hb aj
         .first
          |assumption
          |(rename_i j;exact acR.mpr j)
        .exact absurd hb aj
       .exact absurd hb Abi
     .exact absurd h Abi
    .exact absurd h Abi
   .exact absurd h Abi
  .exact absurd h aj
 .exact absurd h aj
def lT (s:StD) (i:Nat) (x:Int):Bool:=decide (x=1)||(decide ((s.bays.getD i η).kind≠3)&&(decide (x=0)||decide (x=2)))
def jq (s:StD) (p:dH):Int:=
 if p.closed.length=s.bays.length/\p.links.length=s.bays.length then
  if (List.range s.bays.length).all (fun i=>decide ((p.links.getD i []).length=(s.bays.getD i η).links.length))=ε then
   if (List.range s.bays.length).all (fun i=>(p.links.getD i []).all (lT s i))=ε then 0 else 16
  else 3
 else 3
def resolve (c:Int) (p:dH):dH:=⟨p.closed,p.links.map (List.map (fun x=>if x=2 then c else x))⟩
def normal (s:StD):dH:=⟨s.bays.map il.closed,s.bays.map (fun b=>b.links.map qO.pos)⟩
def joins (s:StD) (p:dH) (i:Nat):Bool:=
 decide ((s.bays.getD i η).kind≠3)&&decide ((s.bays.getD i η).links.length=2)&&
 decide ((p.links.getD i []).getD 0 0=1)&&decide ((p.links.getD i []).getD 1 0=1)
def merge (x y:Int) (g:List Int):List Int:=g.map (fun v=>if v=x\/v=y then min x y else v)
def gY (s:StD) (i k:Nat):Nat:=(((s.bays.getD i η).links.getD k η).bus).toNat
def nT (s:StD) (p:dH) (i:Nat) (g:List Int):List Int:=
 if joins s p i=ε then merge (g.getD (gY s i 0) 0) (g.getD (gY s i 1) 0) g else g
def jm (s:StD) (p:dH):Nat->List Int
 |0=>(List.range s.buses.length).map (fun k:Nat=>(k:Int))
 |n+1=>nT s p n (jm s p n)
def groups (s:StD) (p:dH):List Int:=jm s p s.bays.length
def tL (s:StD) (p:dH) (bus:Nat):Int×Int:=(1,(groups s p).getD bus 0)
def oW (s:StD) (p:dH) (i:Nat):Int×Int:=
 if (p.links.getD i []).getD 0 0=1 then tL s p (gY s i 0)
 else if 1<(s.bays.getD i η).links.length/\(p.links.getD i []).getD 1 0=1 then tL s p (gY s i 1)
 else (0,0)
def sides (s:StD) (p:dH) (i:Nat):(Int×Int)×(Int×Int):=
 if (s.bays.getD i η).kind=3 then (tL s p (gY s i 0),tL s p (gY s i 1))
 else (oW s p i,((if (s.bays.getD i η).kind=1 then 2 else 3),(s.bays.getD i η).obj))
def OL{x y}(g):g.map (fun v=>if v=max x y then min x y else v)=merge x y g:=by
 refine acA fun v _=> ?_;by_cases h:v=max x y
 .rw[ι h,ι aa]
 .rw[θ h];by_cases j:v=x\/v=y
  .rw[ι j];omega
  .rw[θ j]
def xy{x y}(g):(merge x y g).length=g.length:=by simp[merge]
theorem kP(s p):∀n,(jm s p n).length=s.buses.length
 |0=>by simp[jm]
 |n+1=>by
  show(nT s p n (jm s p n)).length=_;unfold nT;split
  .rw[xy];exact kP s p n
  .exact kP s p n
def OE (g:List Int):Prop:=∀k,k<g.length->0<=g.getD k 0/\g.getD k 0<=(k:Int)/\g.getD (g.getD k 0).toNat 0=g.getD k 0
def yK{x y}(g k)(j:k<g.length):(merge x y g).getD k 0=if g.getD k 0=x\/g.getD k 0=y then min x y else g.getD k 0:=by
 simp[merge,σ,z8,ν j]
def OE.merge{g:List Int}(h:OE g){a b:Nat}(ha:a<g.length)(hb:b<g.length):OE (merge (g.getD a 0) (g.getD b 0) g):=by
 intro k j;rw[xy] at j;have⟨k0,C,D⟩:=h k j;have⟨H,I,F⟩:=h a ha;have⟨G,b1,b2⟩:=h b hb;rw[yK g k j];by_cases e:g.getD k 0=g.getD a 0\/g.getD k 0=g.getD b 0
 .rw[ι e];refine⟨aa,aa,?_⟩;have B:g.getD (min (g.getD a 0) (g.getD b 0)).toNat 0=min (g.getD a 0) (g.getD b 0):=by
   by_cases l:g.getD a 0<=g.getD b 0
   .rw[show min (g.getD a 0) (g.getD b 0)=g.getD a 0 by omega];exact F
   .rw[show min (g.getD a 0) (g.getD b 0)=g.getD b 0 by omega];exact b2
  rw[yK g _ aa,B,ι aa]
 .rw[θ e];refine⟨k0,C,?_⟩;rw[yK g _ aa,D,θ e]
theorem Mf{s}(p)(Z:∀i,i<s.bays.length->joins s p i=ε->gY s i 0<s.buses.length/\gY s i 1<s.buses.length):∀n,n<=s.bays.length->OE (jm s p n)
 |0,_=>by
  intro k D;have l:k<s.buses.length:=by rw[<-kP s p 0];exact D
  have e:∀j,j<s.buses.length->(jm s p 0).getD j 0=(j:Int):=by
   intro j C;simp[jm,σ,z8,aaA C]
  rw[e k l];refine⟨aa,aa,?_⟩;rw[Ex];exact e k l
 |n+1,hn=>by
  have B:=Mf p Z n aa;show OE (nT s p n (jm s p n));unfold nT;by_cases C:joins s p n=ε
  .rw[ι C];obtain⟨G,F⟩:=Z n aa C;exact B.merge (by rw[kP];exact G) (by rw[kP];exact F)
  .rw[θ C];exact B
theorem jG.link{s}(h:jG s){i}(hi:i<s.bays.length):
  (1<=(s.bays.getD i η).links.length/\(s.bays.getD i η).links.length<=2)/\((s.bays.getD i η).kind=3->(s.bays.getD i η).links.length=2)/\
  ∀k,k<(s.bays.getD i η).links.length->iQ s.buses.length (s.bays.getD i η) k=0:=by
 have Z:=h.links i hi;unfold iI at Z;split at Z
 .exact absurd Z aj
 .rename_i hn
  refine⟨⟨aa,aa⟩,fun j=> ?_,mV Z⟩;by_cases e:(s.bays.getD i η).links.length=2
  .exact e
  .exact absurd (Or.inr (Or.inr ⟨j,e⟩)) hn
theorem jG.bus{s}(h:jG s){i k}(hi:i<s.bays.length)(j:k<(s.bays.getD i η).links.length):
  ((s.bays.getD i η).links.getD k η).bus=(gY s i k:Nat)/\gY s i k<s.buses.length:=by
 have Z:=(h.link hi).2.2 k j;unfold iQ at Z;simp only[] at Z;split at Z
 .rename_i hb
  rw[fw] at hb;unfold gY;omega
 .exact absurd Z aj
def jG.groups{s:StD}(h:jG s)(p:dH):OE (groups s p):=by
 refine Mf p (fun i hi j=> ?_) _ (κ _);have T:(s.bays.getD i η).links.length=2:=by
  simp only[joins,ρ,Θ] at j;exact j.1.1.2
 exact⟨(h.bus hi aa).2,(h.bus hi aa).2⟩
def lF(s p):(groups s p).length=s.buses.length:=kP s p _
def Nl{s i}(hi:i<s.size):(s[i]'hi).toNat=wJ s i:=by
 have j:i<s.data.size:=hi;show(s.data[i]'j).toNat=(s.data.getD i 0).toNat;rw[Array.getD,dif_pos j];rfl
def jO{s k}(h:∀j,j<k->jd s j=ε)(g:jd s k=ε)(j)(l:j<k+1):jd s j=ε:=by
 by_cases e:j=k
 .rw[e];exact g
 .exact h j aa
def Ew(s i):wJ s i<256:=(s.data.getD i 0).toNat_lt
def MX{s i l}(h:wJ s i=l):jd s i=(dS l||(decide (0<i)&&eQ l)):=by rw[<-h];rfl
def nc0(l:Nat)(h:0<=l)(g:l<=47):decide ((97:Int)<=(l:Int))=ζ/\(¬(97:Int)<=(l:Int))/\decide ((65:Int)<=(l:Int))=ζ/\(¬(65:Int)<=(l:Int))/\decide ((48:Int)<=(l:Int))=ζ/\(¬(48:Int)<=(l:Int))/\decide ((l:Int)<=122)=ε/\(l:Int)<=122/\decide ((l:Int)<=90)=ε/\(l:Int)<=90/\decide ((l:Int)<=57)=ε/\(l:Int)<=57/\decide ((l:Int)<48)=ε/\(l:Int)<48/\decide ((57:Int)<(l:Int))=ζ/\(¬(57:Int)<(l:Int))/\((l:Int)==95)=ζ/\((l:Int) !=95)=ε/\(¬(l:Int)=95):=by
 refine⟨?_,?_,?_,?_,?_,?_,?_,?_,?_,?_,?_,?_,?_,?_,?_,?_,?_,?_,?_⟩<;>first|omega|(simp;omega)|simp
def nc1(l:Nat)(h:48<=l)(g:l<=57):decide ((97:Int)<=(l:Int))=ζ/\(¬(97:Int)<=(l:Int))/\decide ((65:Int)<=(l:Int))=ζ/\(¬(65:Int)<=(l:Int))/\decide ((48:Int)<=(l:Int))=ε/\(48:Int)<=(l:Int)/\decide ((l:Int)<=122)=ε/\(l:Int)<=122/\decide ((l:Int)<=90)=ε/\(l:Int)<=90/\decide ((l:Int)<=57)=ε/\(l:Int)<=57/\decide ((l:Int)<48)=ζ/\(¬(l:Int)<48)/\decide ((57:Int)<(l:Int))=ζ/\(¬(57:Int)<(l:Int))/\((l:Int)==95)=ζ/\((l:Int) !=95)=ε/\(¬(l:Int)=95):=by
 refine⟨?_,?_,?_,?_,?_,?_,?_,?_,?_,?_,?_,?_,?_,?_,?_,?_,?_,?_,?_⟩<;>first|omega|(simp;omega)|simp
def nc2(l:Nat)(h:58<=l)(g:l<=64):decide ((97:Int)<=(l:Int))=ζ/\(¬(97:Int)<=(l:Int))/\decide ((65:Int)<=(l:Int))=ζ/\(¬(65:Int)<=(l:Int))/\decide ((48:Int)<=(l:Int))=ε/\(48:Int)<=(l:Int)/\decide ((l:Int)<=122)=ε/\(l:Int)<=122/\decide ((l:Int)<=90)=ε/\(l:Int)<=90/\decide ((l:Int)<=57)=ζ/\(¬(l:Int)<=57)/\decide ((l:Int)<48)=ζ/\(¬(l:Int)<48)/\decide ((57:Int)<(l:Int))=ε/\(57:Int)<(l:Int)/\((l:Int)==95)=ζ/\((l:Int) !=95)=ε/\(¬(l:Int)=95):=by
 refine⟨?_,?_,?_,?_,?_,?_,?_,?_,?_,?_,?_,?_,?_,?_,?_,?_,?_,?_,?_⟩<;>first|omega|(simp;omega)|simp
def nc3(l:Nat)(h:65<=l)(g:l<=90):decide ((97:Int)<=(l:Int))=ζ/\(¬(97:Int)<=(l:Int))/\decide ((65:Int)<=(l:Int))=ε/\(65:Int)<=(l:Int)/\decide ((48:Int)<=(l:Int))=ε/\(48:Int)<=(l:Int)/\decide ((l:Int)<=122)=ε/\(l:Int)<=122/\decide ((l:Int)<=90)=ε/\(l:Int)<=90/\decide ((l:Int)<=57)=ζ/\(¬(l:Int)<=57)/\decide ((l:Int)<48)=ζ/\(¬(l:Int)<48)/\decide ((57:Int)<(l:Int))=ε/\(57:Int)<(l:Int)/\((l:Int)==95)=ζ/\((l:Int) !=95)=ε/\(¬(l:Int)=95):=by
 refine⟨?_,?_,?_,?_,?_,?_,?_,?_,?_,?_,?_,?_,?_,?_,?_,?_,?_,?_,?_⟩<;>first|omega|(simp;omega)|simp
def nc4(l:Nat)(h:91<=l)(g:l<=96)(O:l≠95):decide ((97:Int)<=(l:Int))=ζ/\(¬(97:Int)<=(l:Int))/\decide ((65:Int)<=(l:Int))=ε/\(65:Int)<=(l:Int)/\decide ((48:Int)<=(l:Int))=ε/\(48:Int)<=(l:Int)/\decide ((l:Int)<=122)=ε/\(l:Int)<=122/\decide ((l:Int)<=90)=ζ/\(¬(l:Int)<=90)/\decide ((l:Int)<=57)=ζ/\(¬(l:Int)<=57)/\decide ((l:Int)<48)=ζ/\(¬(l:Int)<48)/\decide ((57:Int)<(l:Int))=ε/\(57:Int)<(l:Int)/\((l:Int)==95)=ζ/\((l:Int) !=95)=ε/\(¬(l:Int)=95):=by
 refine⟨?_,?_,?_,?_,?_,?_,?_,?_,?_,?_,?_,?_,?_,?_,?_,?_,?_,?_,?_⟩<;>first|omega|(simp;omega)|simp
def nc5(l:Nat)(h:95<=l)(g:l<=95):decide ((97:Int)<=(l:Int))=ζ/\(¬(97:Int)<=(l:Int))/\decide ((65:Int)<=(l:Int))=ε/\(65:Int)<=(l:Int)/\decide ((48:Int)<=(l:Int))=ε/\(48:Int)<=(l:Int)/\decide ((l:Int)<=122)=ε/\(l:Int)<=122/\decide ((l:Int)<=90)=ζ/\(¬(l:Int)<=90)/\decide ((l:Int)<=57)=ζ/\(¬(l:Int)<=57)/\decide ((l:Int)<48)=ζ/\(¬(l:Int)<48)/\decide ((57:Int)<(l:Int))=ε/\(57:Int)<(l:Int)/\((l:Int)==95)=ε/\((l:Int) !=95)=ζ/\(l:Int)=95:=by
 refine⟨?_,?_,?_,?_,?_,?_,?_,?_,?_,?_,?_,?_,?_,?_,?_,?_,?_,?_,?_⟩<;>first|omega|(simp;omega)|simp
def nc6(l:Nat)(h:97<=l)(g:l<=122):decide ((97:Int)<=(l:Int))=ε/\(97:Int)<=(l:Int)/\decide ((65:Int)<=(l:Int))=ε/\(65:Int)<=(l:Int)/\decide ((48:Int)<=(l:Int))=ε/\(48:Int)<=(l:Int)/\decide ((l:Int)<=122)=ε/\(l:Int)<=122/\decide ((l:Int)<=90)=ζ/\(¬(l:Int)<=90)/\decide ((l:Int)<=57)=ζ/\(¬(l:Int)<=57)/\decide ((l:Int)<48)=ζ/\(¬(l:Int)<48)/\decide ((57:Int)<(l:Int))=ε/\(57:Int)<(l:Int)/\((l:Int)==95)=ζ/\((l:Int) !=95)=ε/\(¬(l:Int)=95):=by
 refine⟨?_,?_,?_,?_,?_,?_,?_,?_,?_,?_,?_,?_,?_,?_,?_,?_,?_,?_,?_⟩<;>first|omega|(simp;omega)|simp
def nc7(l:Nat)(h:123<=l)(g:l<=255):decide ((97:Int)<=(l:Int))=ε/\(97:Int)<=(l:Int)/\decide ((65:Int)<=(l:Int))=ε/\(65:Int)<=(l:Int)/\decide ((48:Int)<=(l:Int))=ε/\(48:Int)<=(l:Int)/\decide ((l:Int)<=122)=ζ/\(¬(l:Int)<=122)/\decide ((l:Int)<=90)=ζ/\(¬(l:Int)<=90)/\decide ((l:Int)<=57)=ζ/\(¬(l:Int)<=57)/\decide ((l:Int)<48)=ζ/\(¬(l:Int)<48)/\decide ((57:Int)<(l:Int))=ε/\(57:Int)<(l:Int)/\((l:Int)==95)=ζ/\((l:Int) !=95)=ε/\(¬(l:Int)=95):=by
 refine⟨?_,?_,?_,?_,?_,?_,?_,?_,?_,?_,?_,?_,?_,?_,?_,?_,?_,?_,?_⟩<;>first|omega|(simp;omega)|simp
def yM(s w):
  Calls prog 63 #[.string s] w fun e w'=>e=.returned (.bool (fJ s))/\w'=w:=by
 by_cases h0:s.size=0\/12<s.size
 .have HR:=aW (zJ h0);rcases h0 with h0|h0
  .have hs:s=ByteArray.empty:=by
    cases s with
    |mk d=>exact congrArg ByteArray.mk (acp h0)
   subst hs;go_enter aeF,adR;exact Acg
  .have t1:decide ((s.size:Int)<1)=ζ:=ae;have t2:¬(s.size:Int)<1:=aa;have t3:decide ((12:Int)<s.size)=ε:=ae;have t4:(12:Int)<s.size:=aa;have t5:((s.size:Int)==0)=ζ:=by simp;intro e;rw[e] at h0;simp at h0
   have t6:¬(s.size:Int)=0:=aa;have t7:¬s=ByteArray.empty:=by intro e;rw[e] at h0;simp at h0
   clear h0;go_enter aeF,adR;exact Acg
 .have hp:0<s.size:=aa;have hm:s.size<=12:=aa;have t1:decide ((s.size:Int)<1)=ζ:=ae;have t2:¬(s.size:Int)<1:=aa;have t3:decide ((12:Int)<s.size)=ζ:=ae;have t4:¬(12:Int)<s.size:=aa;have t5:((s.size:Int)==0)=ζ:=by simp;intro e;rw[e] at hp;simp at hp
  have t6:¬(s.size:Int)=0:=aa;have t7:¬s=ByteArray.empty:=by intro e;rw[e] at hp;simp at hp
  clear h0;go_enter aeF,adR;go_wp2_with fail
  go_loop [3] (fun i=>∃k:Nat,k<=s.size/\i=.int .i64 (k:Int)/\∀j,j<k->jd s j=ε) (fun i=>s.size-(intOf i).toNat)
  case atStart=>exact⟨0,aa,rfl,fun j hj=>absurd hj aa⟩
  case round=>
   exact Aad
def JE(s w):
  Calls prog 70 #[.string s] w fun e w'=>e=.returned (.bool (fJ s))/\w'=w:=by
 by_cases h0:s.size=0\/12<s.size
 .have HR:=aW (zJ h0);rcases h0 with h0|h0
  .have hs:s=ByteArray.empty:=by
    cases s with
    |mk d=>exact congrArg ByteArray.mk (acp h0)
   subst hs;go_enter aeG,adS;exact Acg
  .have t1:decide ((s.size:Int)<1)=ζ:=ae;have t2:¬(s.size:Int)<1:=aa;have t3:decide ((12:Int)<s.size)=ε:=ae;have t4:(12:Int)<s.size:=aa;have t5:((s.size:Int)==0)=ζ:=by simp;intro e;rw[e] at h0;simp at h0
   have t6:¬(s.size:Int)=0:=aa;have t7:¬s=ByteArray.empty:=by intro e;rw[e] at h0;simp at h0
   clear h0;go_enter aeG,adS;exact Acg
 .have hp:0<s.size:=aa;have hm:s.size<=12:=aa;have t1:decide ((s.size:Int)<1)=ζ:=ae;have t2:¬(s.size:Int)<1:=aa;have t3:decide ((12:Int)<s.size)=ζ:=ae;have t4:¬(12:Int)<s.size:=aa;have t5:((s.size:Int)==0)=ζ:=by simp;intro e;rw[e] at hp;simp at hp
  have t6:¬(s.size:Int)=0:=aa;have t7:¬s=ByteArray.empty:=by intro e;rw[e] at hp;simp at hp
  clear h0;go_enter aeG,adS;go_wp2_with fail
  go_loop [17] (fun i=>∃k:Nat,k<=s.size/\i=.int .i64 (k:Int)/\∀j,j<k->jd s j=ε) (fun i=>s.size-(intOf i).toNat)
  case atStart=>exact⟨0,aa,rfl,fun j hj=>absurd hj aa⟩
  case round=>
   exact Aad
def bO(x lo hi w):
  Calls prog 109 #[.int .i64 x,.int .i64 lo,.int .i64 hi] w fun e w'=>e=.returned (.bool (btw x lo hi))/\w=w':=by
 go_enter func109,ntmps109;go_wp2
 .go_ret;simp_all [btw]
 .go_ret;simp_all [btw];omega
def dL(x lo hi w):
  Calls prog 116 #[.int .i64 x,.int .i64 lo,.int .i64 hi] w fun e w'=>e=.returned (.bool (btw x lo hi))/\w=w':=by
 go_enter func116,ntmps116;go_wp2
 .go_ret;simp_all [btw]
 .go_ret;simp_all [btw];omega
def Tf (z:Imp):Value:=.agg #[z.r,z.x]
theorem bT(z:Imp)(w):
  Calls prog 66 #[Tf z] w fun e w'=>e=.returned (.bool (okZ z))/\w'=w.alloc (.cells #[z.r,z.x] 54):=by
 obtain⟨r,x⟩:=z;unfold Tf;dsimp only;cases h:btw r 0 1000
 .have T:Hid (okZ ⟨r,x⟩=ζ):=aW (by simp[okZ,h]);exact Aa3
 .have T:Hid (okZ ⟨r,x⟩=btw x 1 1000):=aW (by simp[okZ,h]);exact Aa3
theorem bZ(z:Imp)(w):
  Calls prog 115 #[Tf z] w fun e w'=>e=.returned (.bool (okZ z))/\w'=w.alloc (.cells #[z.r,z.x] 54):=by
 obtain⟨r,x⟩:=z;unfold Tf;dsimp only;cases h:btw r 0 1000
 .have T:Hid (okZ ⟨r,x⟩=ζ):=aW (by simp[okZ,h]);exact Aa2
 .have T:Hid (okZ ⟨r,x⟩=btw x 1 1000):=aW (by simp[okZ,h]);exact Aa2
def Uh (g:qG):Value:=.agg #[g.name,g.emf,g.z1.r,g.z1.x,g.z0.r,g.z0.x]
theorem zN(g w):
  CE 67 #[Uh g] w (.bool (jr g)):=by
 obtain⟨nm,emf,⟨r1,l⟩,⟨r0,j⟩⟩:=g;unfold Uh;dsimp only;cases h:btw emf 1 1000000
 .have T:Hid (jr ⟨nm,emf,⟨r1,l⟩,⟨r0,j⟩⟩=ζ):=aW (by simp[jr,h]);go_enter aeH,adT;(go_wp2_with (go_at_call 109;refine(bO _ _ _ _).mono ?_;rintro e w1 ⟨rfl,rfl⟩));go_ret;exact⟨bE T.symm,Ext.new _ _⟩
 .cases B:okZ ⟨r1,l⟩
  .have T:Hid (jr ⟨nm,emf,⟨r1,l⟩,⟨r0,j⟩⟩=ζ):=aW (by simp[jr,h,B]);go_enter aeH,adT;(go_wp2_with (first|(go_at_call 109;refine(bO _ _ _ _).mono ?_;rintro e w1 ⟨rfl,rfl⟩)|(go_at_call 66;refine(bT ⟨_,_⟩ _).mono ?_;rintro e w1 ⟨rfl,rfl⟩)));go_ret;exact⟨bE T.symm,(Ext.new _ _).trans (Ext.new _ _)⟩
  .have T:Hid (jr ⟨nm,emf,⟨r1,l⟩,⟨r0,j⟩⟩=okZ ⟨r0,j⟩):=aW (by simp[jr,h,B]);go_enter aeH,adT;(go_wp2_with (first|(go_at_call 109;refine(bO _ _ _ _).mono ?_;rintro e w1 ⟨rfl,rfl⟩)|(go_at_call 66;refine(bT ⟨_,_⟩ _).mono ?_;rintro e w1 ⟨rfl,rfl⟩)));go_ret;exact⟨bE T.symm,((Ext.new _ _).trans (Ext.new _ _)).trans (Ext.new _ _)⟩
def Ac (b:il) (A:Option Addr) (n c:Nat):Value:=
 .agg #[b.name,b.kind,b.obj,b.en,b.z.r,b.z.x,aO A n c,b.closed,b.ct,b.vt,b.sat,b.travel]
theorem JX(b A n c w):
  CE 117 #[Ac b A n c] w (.bool (dz b)):=by
 obtain⟨nm,kd,obj,en,⟨r,x⟩,B,l,ct,vt,sat,j⟩:=b;unfold Ac;dsimp only;by_cases G:kd=3
 .subst G;cases h:okZ ⟨r,x⟩
  .skip;have T:Hid (dz ⟨nm,3,obj,en,⟨r,x⟩,B,l,ct,vt,sat,j⟩=ζ):=aW (by simp[dz,h]);exact AbK
  by_cases hv:vt=0
  .subst hv;cases D:btw en 0 0
   .skip;have T:Hid (dz ⟨nm,3,obj,en,⟨r,x⟩,B,l,ct,0,sat,j⟩=ζ):=aW (by simp[dz,h,D]);exact AbK
   cases F:btw ct 1 100
   .skip;have T:Hid (dz ⟨nm,3,obj,en,⟨r,x⟩,B,l,ct,0,sat,j⟩=ζ):=aW (by simp[dz,h,D,F]);exact AbK
   cases H:btw sat 0 16383
   .skip;have T:Hid (dz ⟨nm,3,obj,en,⟨r,x⟩,B,l,ct,0,sat,j⟩=ζ):=aW AcV;exact AbK
   have T:Hid (dz ⟨nm,3,obj,en,⟨r,x⟩,B,l,ct,0,sat,j⟩=btw j 1 6):=aW AcV;exact AbK
  have v1:((vt:Int)==0)=ζ:=ae;have M:((vt:Int) !=0)=ε:=ae;have T:Hid (dz ⟨nm,3,obj,en,⟨r,x⟩,B,l,ct,vt,sat,j⟩=ζ):=aW (by simp[dz,h,hv]);exact AbK
 have C:((kd:Int)==3)=ζ:=ae;by_cases L:r=0/\x=0
 .obtain⟨rfl,rfl⟩:=L;cases h:btw vt 1 10000
  .skip;have T:Hid (dz ⟨nm,kd,obj,en,⟨0,0⟩,B,l,ct,vt,sat,j⟩=ζ):=aW (by simp[dz,G,h]);exact Aaf
  by_cases I:kd=1
  .subst I;cases D:btw en 0 1
   .skip;have T:Hid (dz ⟨nm,1,obj,en,⟨0,0⟩,B,l,ct,vt,sat,j⟩=ζ):=aW (by simp[dz,h,D]);exact Aaf
   cases F:btw ct 1 100
   .skip;have T:Hid (dz ⟨nm,1,obj,en,⟨0,0⟩,B,l,ct,vt,sat,j⟩=ζ):=aW (by simp[dz,h,D,F]);exact Aaf
   cases H:btw sat 0 16383
   .skip;have T:Hid (dz ⟨nm,1,obj,en,⟨0,0⟩,B,l,ct,vt,sat,j⟩=ζ):=aW AcV;exact Aaf
   have T:Hid (dz ⟨nm,1,obj,en,⟨0,0⟩,B,l,ct,vt,sat,j⟩=btw j 1 6):=aW AcV;exact Aaf
  have N:((kd:Int)==1)=ζ:=ae;cases D:btw en 0 0
  .skip;have T:Hid (dz ⟨nm,kd,obj,en,⟨0,0⟩,B,l,ct,vt,sat,j⟩=ζ):=aW (by simp[dz,G,h,I,D]);exact Aaf
  cases F:btw ct 1 100
  .skip;have T:Hid (dz ⟨nm,kd,obj,en,⟨0,0⟩,B,l,ct,vt,sat,j⟩=ζ):=aW (by simp[dz,G,h,I,D,F]);exact Aaf
  cases H:btw sat 0 16383
  .skip;have T:Hid (dz ⟨nm,kd,obj,en,⟨0,0⟩,B,l,ct,vt,sat,j⟩=ζ):=aW (by simp[dz,G,h,I,D,F,H]);exact Aaf
  have T:Hid (dz ⟨nm,kd,obj,en,⟨0,0⟩,B,l,ct,vt,sat,j⟩=btw j 1 6):=aW (by simp[dz,G,h,I,D,F,H]);exact Aaf
 by_cases K:r=0
 .subst K;have J:¬x=0:=fun e=>L ⟨rfl,e⟩;have O:((x:Int)==0)=ζ:=by simp;exact J
  have T:Hid (dz ⟨nm,kd,obj,en,⟨0,x⟩,B,l,ct,vt,sat,j⟩=ζ):=aW (by simp[dz,G,J]);exact Aaf
 have r1:((r:Int)==0)=ζ:=by simp;exact K
 have T:Hid (dz ⟨nm,kd,obj,en,⟨r,x⟩,B,l,ct,vt,sat,j⟩=ζ):=aW (by simp[dz,G,K]);exact Aaf
theorem uA(b A n c w):
  CE 111 #[Ac b A n c] w (.bool (dz b)):=by
 obtain⟨nm,kd,obj,en,⟨r,x⟩,B,l,ct,vt,sat,j⟩:=b;unfold Ac;dsimp only;by_cases H:kd=3
 .subst H;by_cases G:en=0
  rotate_left
  .have O:((en:Int)==0)=ζ:=ae;have N:((en:Int) !=0)=ε:=ae;have D:btw en 0 0=ζ:=by simp[btw];omega
   have T:Hid (dz ⟨nm,3,obj,en,⟨r,x⟩,B,l,ct,vt,sat,j⟩=ζ):=aW (by simp[dz,D]);exact Aaa
  have O:((en:Int)==0)=ε:=ae;have N:((en:Int) !=0)=ζ:=ae;have D:btw en 0 0=ε:=by simp[btw];omega
  cases h:okZ ⟨r,x⟩
  .skip;have T:Hid (dz ⟨nm,3,obj,en,⟨r,x⟩,B,l,ct,vt,sat,j⟩=ζ):=aW (by simp[dz,D,h]);exact AbI
  cases F:btw ct 1 100
  .skip;have T:Hid (dz ⟨nm,3,obj,en,⟨r,x⟩,B,l,ct,vt,sat,j⟩=ζ):=aW (by simp[dz,D,h,F]);exact AbI
  by_cases hv:vt=0
  .subst hv;cases I:btw sat 0 16383
   .skip;have T:Hid (dz ⟨nm,3,obj,en,⟨r,x⟩,B,l,ct,0,sat,j⟩=ζ):=aW (by simp[dz,D,h,F,I]);exact AbI
   have T:Hid (dz ⟨nm,3,obj,en,⟨r,x⟩,B,l,ct,0,sat,j⟩=btw j 1 6):=aW (by simp[dz,D,h,F,I]);exact AbI
  have v1:((vt:Int)==0)=ζ:=ae;have Q:((vt:Int) !=0)=ε:=ae;have T:Hid (dz ⟨nm,3,obj,en,⟨r,x⟩,B,l,ct,vt,sat,j⟩=ζ):=aW (by simp[dz,D,h,F,hv]);exact AbI
 have C:((kd:Int)==3)=ζ:=ae;by_cases K:kd=1
 .subst K;cases G:btw en 0 1
  .skip;have T:Hid (dz ⟨nm,1,obj,en,⟨r,x⟩,B,l,ct,vt,sat,j⟩=ζ):=aW (by simp[dz,G]);exact Aaa
  by_cases M:r=0/\x=0
  .obtain⟨rfl,rfl⟩:=M;cases F:btw ct 1 100
   .skip;have T:Hid (dz ⟨nm,1,obj,en,⟨0,0⟩,B,l,ct,vt,sat,j⟩=ζ):=aW (by simp[dz,G,F]);exact Aaa
   cases hv:btw vt 1 10000
   .skip;have T:Hid (dz ⟨nm,1,obj,en,⟨0,0⟩,B,l,ct,vt,sat,j⟩=ζ):=aW (by simp[dz,G,F,hv]);exact Aaa
   cases I:btw sat 0 16383
   .skip;have T:Hid (dz ⟨nm,1,obj,en,⟨0,0⟩,B,l,ct,vt,sat,j⟩=ζ):=aW (by simp[dz,G,F,hv,I]);exact Aaa
   have T:Hid (dz ⟨nm,1,obj,en,⟨0,0⟩,B,l,ct,vt,sat,j⟩=btw j 1 6):=aW (by simp[dz,G,F,hv,I]);exact Aaa
  by_cases L:r=0
  .subst L;have J:¬x=0:=fun e=>M ⟨rfl,e⟩;have P:((x:Int)==0)=ζ:=by simp;exact J
   have T:Hid (dz ⟨nm,1,obj,en,⟨0,x⟩,B,l,ct,vt,sat,j⟩=ζ):=aW (by simp[dz,G,J]);exact Aaa
  have r1:((r:Int)==0)=ζ:=by simp;exact L
  have T:Hid (dz ⟨nm,1,obj,en,⟨r,x⟩,B,l,ct,vt,sat,j⟩=ζ):=aW (by simp[dz,G,L]);exact Aaa
 have R:((kd:Int)==1)=ζ:=ae;by_cases G:en=0
 rotate_left
 .have O:((en:Int)==0)=ζ:=ae;have N:((en:Int) !=0)=ε:=ae;have D:btw en 0 0=ζ:=by simp[btw];omega
  have T:Hid (dz ⟨nm,kd,obj,en,⟨r,x⟩,B,l,ct,vt,sat,j⟩=ζ):=aW (by simp[dz,H,K,D]);exact Aaa
 have O:((en:Int)==0)=ε:=ae;have N:((en:Int) !=0)=ζ:=ae;have D:btw en 0 0=ε:=by simp[btw];omega
 by_cases M:r=0/\x=0
 .obtain⟨rfl,rfl⟩:=M;cases F:btw ct 1 100
  .skip;have T:Hid (dz ⟨nm,kd,obj,en,⟨0,0⟩,B,l,ct,vt,sat,j⟩=ζ):=aW (by simp[dz,H,K,D,F]);exact Aaa
  cases hv:btw vt 1 10000
  .skip;have T:Hid (dz ⟨nm,kd,obj,en,⟨0,0⟩,B,l,ct,vt,sat,j⟩=ζ):=aW (by simp[dz,H,K,D,F,hv]);exact Aaa
  cases I:btw sat 0 16383
  .skip;have T:Hid (dz ⟨nm,kd,obj,en,⟨0,0⟩,B,l,ct,vt,sat,j⟩=ζ):=aW (by simp[dz,H,K,D,F,hv,I]);exact Aaa
  have T:Hid (dz ⟨nm,kd,obj,en,⟨0,0⟩,B,l,ct,vt,sat,j⟩=btw j 1 6):=aW (by simp[dz,H,K,D,F,hv,I]);exact Aaa
 by_cases L:r=0
 .subst L;have J:¬x=0:=fun e=>M ⟨rfl,e⟩;have P:((x:Int)==0)=ζ:=by simp;exact J
  have T:Hid (dz ⟨nm,kd,obj,en,⟨0,x⟩,B,l,ct,vt,sat,j⟩=ζ):=aW (by simp[dz,H,K,D,J]);exact Aaa
 have r1:((r:Int)==0)=ζ:=by simp;exact L
 have T:Hid (dz ⟨nm,kd,obj,en,⟨r,x⟩,B,l,ct,vt,sat,j⟩=ζ):=aW (by simp[dz,H,K,D,L]);exact Aaa
def stV (nm:ByteArray) (A0:Option Addr) (n0 c0:Nat) (A1:Option Addr) (n1 c1:Nat) (A2:Option Addr) (n2 c2:Nat) (A3:Option Addr) (n3 c3:Nat):Value:=
 .agg #[nm,aO A0 n0 c0,aO A1 n1 c1,aO A2 n2 c2,aO A3 n3 c3]
def Strs (w:World) (A:Option Addr) (n:Nat) (l:List ByteArray):Prop:=Reads w w.heap.size 1 A n (l.map Value.string)
def Strs.ext{w w' A n}{l:List ByteArray}(h:Strs w A n l)(e:Ext w w'):Strs w' A n l:=Reads.ext h e
def Strs.len{w A n}{l:List ByteArray}(h:Strs w A n l):l.length=n:=by simpa using h.1
def Strs.at_{w A n k}{l:List ByteArray}(h:Strs w A n l)(C:k<n):∃j x,A=γ j/\j.block<w.heap.size/\l[k]? =γ x/\w.cell? (j.add k)=γ (.string x):=by
 obtain⟨j,u,e,hb,B,hc⟩:=Reads.at_ h C;rw[z8,abz] at B;obtain⟨x,J,rfl⟩:=B;exact⟨j,x,e,hb,J,hc⟩
def vY (s:ByteArray):List ByteArray->Nat->Int
 |[],_=> -1
 |x::l,k=>if x=s then (k:Int) else vY s l (k+1)
theorem D6(s):∀(l:List ByteArray) (k:Nat),decide (0<=vY s l k)=vK s l
 |[],k=>by simp[vY,vK]
 |x::l,k=>by
  have B:=D6 s l (k+1);unfold vY vK;by_cases h:x=s
  .rw[ι h,Δ h];simp
  .rw[θ h,B,π h];simp
def toList_eq{x s:ByteArray}:(x.toList==s.toList)=decide (x=s):=by
 rw[Lib.toList_data,Lib.toList_data];by_cases h:x=s
 .rw[h];simp
 .rw[π h];have:¬x.data.toList=s.data.toList:=by
   intro e;apply h;cases x with|mk a=>cases s with|mk b=>exact congrArg ByteArray.mk (Array.toList_inj.1 e)
  simpa using this
def OW{s x}{l:List ByteArray}{k}(J:l[k]? =γ x)(h:x=s):vY s (l.drop k) k=(k:Int):=by
 obtain⟨j,rfl⟩:=μ.1 J;rw[aaC j,vY,ι h]
def Vh{s x}{l:List ByteArray}{k}(J:l[k]? =γ x)(h:x≠s):vY s (l.drop k) k=vY s (l.drop (k+1)) (k+1):=by
 obtain⟨j,rfl⟩:=μ.1 J;rw[aaC j,vY,θ h]
def RV{s}{l:List ByteArray}{k}(h:l.length<=k):vY s (l.drop k) k= -1:=by
 rw[aal h];rfl
def Dy(s)(l:List ByteArray)(A n c w)(h:Strs w A n l)(hn:n<=9223372036854775807):
  Calls prog 108 #[aO A n c,.string s] w fun e w'=>e=.returned (.int .i64 (vY s l 0))/\w=w':=by
 have H:=aW h.len;go_enter func108,ntmps108;go_wp2_with fail
 go_loop [5] (fun i=>∃k:Nat,k<=n/\i=.int .i64 (k:Int)/\vY s l 0=vY s (l.drop k) k) (fun i=>n-(intOf i).toNat)
 case atStart=>exact⟨0,q9 _,rfl,rfl⟩
 case round=>
  obtain⟨k,L,rfl,B⟩:=hrel;have D:=aW B;clear B;by_cases C:k<n
  .obtain⟨M,x,rfl,hb,J,K⟩:=h.at_ C;have G:=aW J;clear J;by_cases j:x=s
   .have I:(x.toList==s.toList)=ε:=by rw[toList_eq];simp[j]
    have F:=aW j;clear j;go_wp2;go_ret;exact⟨aY (by rw[D.o,OW G.o F.o]),rfl⟩
   .have I:(x.toList==s.toList)=ζ:=by rw[toList_eq];simp[j]
    have F:=aW j;go_wp2_with fail
    go_round
    case rel=>exact⟨k+1,aa,au,by rw[D.o,Vh G.o F.o]⟩
    case measure=>exact aV
  .go_wp2;go_ret;exact⟨aY (by rw[D.o,RV Ady]),rfl⟩
def sM(s)(l:List ByteArray)(A n c w)(h:Strs w A n l)(C:n<=9223372036854775807):
  Calls prog 64 #[aO A n c,.string s] w fun e w'=>e=.returned (.int .i64 (eu l s))/\w=w':=by
 have F:∀w:World,Calls prog 63 #[s] w fun e w'=>e=.returned (.bool (fJ s))/\w=w':=fun w=>(yM s w).mono (fun e w' B=>⟨B.1,B.2.symm⟩);cases hn:fJ s
 .have j:Hid (eu l s=7):=aW (by simp[eu,hn]);go_enter func64,ntmps64;(go_wp2_with (first|(go_at_call 63;refine(F _).mono ?_;rintro e w1 ⟨rfl,rfl⟩)));go_ret;exact⟨aY j.symm,rfl⟩
 .have hd:=D6 s l 0;cases hc:vK s l
  .have j:Hid (eu l s=0):=aW (by simp only[eu,hn,hc];rfl);rw[hc] at hd;have hd':¬0<=vY s l 0:=by simpa using hd
   exact AaM
  .have j:Hid (eu l s=8):=aW (by simp only[eu,hn,hc];rfl);rw[hc] at hd;have hd':0<=vY s l 0:=by simpa using hd
   exact AaM
theorem qN(nm A0 n0 c0 A1 n1 c1 A2 n2 c2 A3 n3 c3 b A n c w):
  CE 110 #[stV nm A0 n0 c0 A1 n1 c1 A2 n2 c2 A3 n3 c3,Ac b A n c] w (.int .i64 (jH n1 n2 b)):=by
 obtain⟨D,kd,obj,en,⟨r,x⟩,B,l,ct,vt,sat,j⟩:=b;unfold Ac stV;dsimp only;by_cases I:kd=1
 .subst I;by_cases hn:obj<0
  .have G:decide ((obj:Int)<0)=ε:=ae;exact AcO
  have G:decide ((obj:Int)<0)=ζ:=ae;by_cases L:(n1:Int)<=obj
  .have F:decide ((n1:Int)<=obj)=ε:=ae;exact AcO
  have F:decide ((n1:Int)<=obj)=ζ:=ae;have T:Hid (jH n1 n2 ⟨D,1,obj,en,⟨r,x⟩,B,l,ct,vt,sat,j⟩=0):=aW Ab0;exact Aas
 have C:((kd:Int)==1)=ζ:=ae;by_cases H:kd=2
 .subst H;by_cases hn:obj<0
  .have G:decide ((obj:Int)<0)=ε:=ae;exact Ada
  have G:decide ((obj:Int)<0)=ζ:=ae;by_cases L:(n2:Int)<=obj
  .have F:decide ((n2:Int)<=obj)=ε:=ae;exact Ada
  have F:decide ((n2:Int)<=obj)=ζ:=ae;have T:Hid (jH n1 n2 ⟨D,2,obj,en,⟨r,x⟩,B,l,ct,vt,sat,j⟩=0):=aW Ab0;exact Aas
 have N:((kd:Int)==2)=ζ:=ae;by_cases K:kd=3
 .subst K;by_cases J:obj=0
  .subst J;have T:Hid (jH n1 n2 ⟨D,3,0,en,⟨r,x⟩,B,l,ct,vt,sat,j⟩=0):=aW Ab0;exact Aas
  have G:((obj:Int)==0)=ζ:=ae;have F:((obj:Int) !=0)=ε:=ae;have T:Hid (jH n1 n2 ⟨D,3,obj,en,⟨r,x⟩,B,l,ct,vt,sat,j⟩=9):=aW (by simp[jH,btw,J]<;>omega);exact Aas
 have M:((kd:Int)==3)=ζ:=ae;have T:Hid (jH n1 n2 ⟨D,kd,obj,en,⟨r,x⟩,B,l,ct,vt,sat,j⟩=10):=aW (by simp[jH,btw,I,H,K]<;>omega);exact Aas
structure Hd where
 A:Option Addr
 n:Nat
 c:Nat
def Hd.v (h:Hd):Value:=.slice h.A h.n h.c
def Arr (w:World) (A:Option Addr) (n k:Nat) (f:Nat->List Value):Prop:=
 0<n->∃b o,A=γ ⟨b,o,δ⟩/\b<w.heap.size/\∀i,i<n->∀t u,(f i)[t]? =γ u->w.cell? (aM b (o+i*k+t))=γ u
def Arr.ext{w w' A n k f}(h:Arr w A n k f)(x:Ext w w'):Arr w' A n k f:=fun hn=>by
 obtain⟨b,o,e,hb,hc⟩:=h hn;exact⟨b,o,e,ο hb x.size,fun i hi t u j=>(x.cell (p:=aM b _) hb).trans (hc i hi t u j)⟩
def Arr.at_{w A n k i f}(h:Arr w A n k f)(hi:i<n):∃b o,A=γ ⟨b,o,δ⟩/\b<w.heap.size/\∀t u,(f i)[t]? =γ u->w.cell? (aM b (o+i*k+t))=γ u:=by
 obtain⟨b,o,e,hb,hc⟩:=h aa;exact⟨b,o,e,hb,hc i hi⟩
def Arr.congr{w A n k f g}(h:Arr w A n k f)(e:∀i,i<n->f i=g i):Arr w A n k g:=fun hn=>by
 obtain⟨b,o,l,hb,hc⟩:=h hn;exact⟨b,o,l,hb,fun i hi t u j=>hc i hi t u (by rw[e i hi];exact j)⟩
def Ml (l:qO):List Value:=[.int .i64 l.bus,.int .i64 l.pos]
def ry (l:zR):List Value:=[.string l.name,.int .i64 l.z1.r,.int .i64 l.z1.x,.int .i64 l.z0.r,.int .i64 l.z0.x]
def oN (g:qG):List Value:=[.string g.name,.int .i64 g.emf,.int .i64 g.z1.r,.int .i64 g.z1.x,.int .i64 g.z0.r,.int .i64 g.z0.x]
def j6 (b:il) (h:Hd):List Value:=[.string b.name,.int .i64 b.kind,.int .i64 b.obj,.int .i64 b.en,.int .i64 b.z.r,.int .i64 b.z.x,.slice h.A h.n h.c,.bool b.closed,.int .i64 b.ct,.int .i64 b.vt,.int .i64 b.sat,.int .i64 b.travel]
def Lks (w:World) (A:Option Addr) (n:Nat) (l:List qO):Prop:=l.length=n/\Arr w A n 2 (fun k=>Ml (l.getD k η))
def Lks.ext{w w' A n l}(h:Lks w A n l)(x:Ext w w'):Lks w' A n l:=⟨h.1,h.2.ext x⟩
theorem EN{nb x}(B:1<=x.links.length)(l:x.links.length<=2)(j:x.kind=3->x.links.length=2):iI nb x=dA (iQ nb x) x.links.length:=by
 unfold iI;rw[θ (fun h=>by rcases h with h|h|⟨h,K⟩<;>first|omega|exact K (j h))]
def dK{E n k v}(B:∀j,j<k->E j=0)(Y:E k=v)(hv:v≠0)(l:k<n):v=dA E n:=by
 rw[Ep B (by rw[Y];exact hv) l,Y]
def gQ{E:Nat->Int}{k:Nat}(l:∀j,j<k->E j=0)(Y:E k=0):∀j,j<k+1->E j=0:=fun j B=>by
 by_cases e:j=k
 .rw[e];exact Y
 .exact l j aa
theorem rR{nb x}(h:x.links.length<1\/2<x.links.length\/(x.kind=3/\x.links.length≠2)):iI nb x=3:=by
 unfold iI;rw[ι h]
theorem wO(nm A0 n0 c0 A1 n1 c1 A2 n2 c2 A3 n3 c3 b A n c w)(hL:Lks w A n b.links):
    CE 112 #[stV nm A0 n0 c0 A1 n1 c1 A2 n2 c2 A3 n3 c3,Ac b A n c] w (.int .i64 (iI n0 b)):=by
  have Z:=hL.1;have HL:=aW hL;clear hL;have H:=aW Z;clear Z;unfold Ac stV;by_cases h1:n<1
  · have d1:decide ((n:Int)<1)=ε:=ae;have T:Hid (iI n0 b=3):=aW (rR (Or.inl Ady));exact AaS
  have d1:decide ((n:Int)<1)=ζ:=ae;by_cases h2:2<n
  · have d2:decide ((2:Int)<n)=ε:=ae;have T:Hid (iI n0 b=3):=aW (rR (Or.inr (Or.inl Ady)));exact AaS
  have d2:decide ((2:Int)<n)=ζ:=ae;by_cases h3:b.kind=3/\n≠2
  · obtain⟨Y,Zh⟩:=h3;have d3:((b.kind:Int)==3)=ε:=by simp[Y]
    have d4:((n:Int) !=2)=ε:=ae;have T:Hid (iI n0 b=3):=aW (rR (Or.inr (Or.inr ⟨Y,by have:=H.o;omega⟩)));clear Zh Y;exact AaS
  have T:Hid (iI n0 b=dA (iQ n0 b) n):=aW (by
    have hh:=H.o;have e:=EN (nb:=n0) (x:=b) aa aa (fun Y=>by
      by_cases e:n=2
      · omega
      · exact absurd (And.intro Y e) h3)
    rw[hh] at e;exact e)
  have H3:=aW h3;clear h3;have hd:(∃k3:Bool,((b.kind:Int)==3)=k3/\(k3=ε->((n:Int) !=2)=ζ)):=⟨_,rfl,fun h=>by
    have Y:b.kind=3:=by simpa using h
    have:=H3.o;simp;omega⟩
  obtain⟨k3,d3,d4⟩:=hd;cases k3
  (all_goals (first|(replace d4:=d4 rfl)|clear d4));all_goals
    obtain⟨W,B2,B3⟩:=an2 w 27 #[nm,aO A0 n0 c0,aO A1 n1 c1,aO A2 n2 c2,aO A3 n3 c3] 57 #[b.name,b.kind,b.obj,b.en,b.z.r,b.z.x,aO A n c,b.closed,b.ct,b.vt,b.sat,b.travel];have U:=aW B2;have Yu:=aW B3;have D:=aW W;clear B2 B3 W;go_enter func112,ntmps112;go_wp2_with fail
    go_loopw [6] (fun i wr=>∃k:Nat,k<=n/\i=.int .i64 (k:Int)/\(∀j,j<k->iQ n0 b j=0)/\Ext (aL (aL w #[nm,aO A0 n0 c0,aO A1 n1 c1,aO A2 n2 c2,aO A3 n3 c3] 27) #[b.name,b.kind,b.obj,b.en,b.z.r,b.z.x,aO A n c,b.closed,b.ct,b.vt,b.sat,b.travel] 57) wr) (aT n)
    case atStart=>exact⟨0,aa,rfl,by intros;omega,Ext.refl _⟩
    case round=>
      obtain⟨k,Y,rfl,hz,J⟩:=hrel;have R:=aW hz;have M:=aW J;have k2:=(U.ext J).cell;have k3:=(Yu.ext J).cell;have hs:w.heap.size+1<wr.heap.size:=by have:=J.size;simp at this;omega
      have YQ:w.heap.size<wr.heap.size:=aa;clear hz J;by_cases L:k<n
      · obtain⟨lb,lo,hA,hb,hc⟩:=(HL.ext (D.trans M.o)).2.at_ L;subst hA;have e0:wr.cell? (aM lb (lo+k*2))=γ (.int .i64 (b.links.getD k η).bus):=hc 0 _ rfl;have e1:=hc 1 _ rfl;clear hc;have C:Hid (iQ n0 b k=if btw (b.links.getD k η).bus 0 ((n0:Int)-1)=ε then
    (if (b.links.getD k η).pos≠1/\((b.links.getD k η).pos≠0\/b.kind=3) then 16
     else if 0<k/\(b.links.getD (k-1) η).bus=(b.links.getD k η).bus then 12 else 0)
  else 9):=aW rfl
        generalize b.links.getD k η=l at e0 e1 C;obtain⟨bus,pos⟩:=l;dsimp only at e0 e1 C;by_cases Yw:bus<0
        · have q1:decide (bus<0)=ε:=ae;exact Ads
        have q1:decide (bus<0)=ζ:=ae;by_cases YE:(n0:Int)<=bus
        · have q2:decide ((n0:Int)<=bus)=ε:=ae;exact Ads
        have q2:decide ((n0:Int)<=bus)=ζ:=ae;have G:Hid (¬(pos≠1/\(pos≠0\/b.kind=3))->iQ n0 b k=if 0<k/\(b.links.getD (k-1) η).bus=bus then 12 else 0):=aW (fun h=>by
          rw[C.o,ι Acz,θ h])
        by_cases hp:pos=1
        · subst hp;by_cases Ze:k=0
          · subst Ze;rw[aaV,I4] at e0 e1;have F:Hid (iQ n0 b 0=0):=aW (by rw[G.o ag,θ aa]);go_wp2;go_quiet (fail);go_wp2;go_roundw
            case rel=>exact⟨1,aa,rfl,gQ R.o F.o,(M.alloc _).drewN _⟩
            case measure=>exact aV
          · obtain rfl:k=1:=aa;obtain⟨K,N,hA,Q,hc⟩:=(HL.ext (D.trans M.o)).2.at_ (show 0<n by omega);simp only[aay,acf,ac4] at hA;obtain⟨rfl,rfl⟩:=hA;have f0:wr.cell? (aM lb lo)=γ (.int .i64 (b.links.getD 0 η).bus):=by
              exact Adh
            clear hc;rw[show lo+1*2=lo+2 from rfl] at e0 e1;by_cases B:(b.links.getD 0 η).bus=bus
            · have F:Hid (iQ n0 b 1=12):=aW (by rw[G.o ag,ι ⟨aa,B⟩]);exact Ac0
            · have F:Hid (iQ n0 b 1=0):=aW (by rw[G.o ag,θ (fun h=>B h.2)]);generalize (b.links.getD 0 η).bus=b0 at f0 B;have q5:((bus:Int)==b0)=ζ:=ae;clear B;go_wp2;go_quiet (fail);go_wp2;go_roundw
              case rel=>exact⟨2,aa,rfl,gQ R.o F.o,(M.alloc _).drewN _⟩
              case measure=>exact aV
        by_cases I:pos=0
        · subst I;by_cases O:b.kind=3
          · first
            |(exfalso;simp[O] at d3;done)
            |(have F:Hid (iQ n0 b k=16):=aW (by rw[C.o,ι Acz,ι ⟨aj,Or.inr O⟩]);go_wp2;go_ret;exact⟨aY AbW,(D.trans M.o).alloc _⟩)
          · first
            |(exfalso;simp at d3;exact O d3)
            |
              skip;by_cases Ze:k=0
              · subst Ze;rw[aaV,I4] at e0 e1;have F:Hid (iQ n0 b 0=0):=aW (by rw[G.o (by simp;exact O),θ aa]);go_wp2;go_quiet (fail);go_wp2;go_roundw
                case rel=>exact⟨1,aa,rfl,gQ R.o F.o,(M.alloc _).drewN _⟩
                case measure=>exact aV
              · obtain rfl:k=1:=aa;obtain⟨K,N,hA,Q,hc⟩:=(HL.ext (D.trans M.o)).2.at_ (show 0<n by omega);simp only[aay,acf,ac4] at hA;obtain⟨rfl,rfl⟩:=hA;have f0:wr.cell? (aM lb lo)=γ (.int .i64 (b.links.getD 0 η).bus):=by
                  exact Adh
                clear hc;rw[show lo+1*2=lo+2 from rfl] at e0 e1;by_cases B:(b.links.getD 0 η).bus=bus
                · have F:Hid (iQ n0 b 1=12):=aW (by rw[G.o (by simp;exact O),ι ⟨aa,B⟩]);exact Ac0
                · have F:Hid (iQ n0 b 1=0):=aW (by rw[G.o (by simp;exact O),θ (fun h=>B h.2)]);generalize (b.links.getD 0 η).bus=b0 at f0 B;have q5:((bus:Int)==b0)=ζ:=ae;clear B;go_wp2;go_quiet (fail);go_wp2;go_roundw
                  case rel=>exact⟨2,aa,rfl,gQ R.o F.o,(M.alloc _).drewN _⟩
                  case measure=>exact aV
        · have q6:((pos:Int)==1)=ζ:=by simp;exact hp
          have P:((pos:Int) !=1)=ε:=by simp;exact hp
          have V:((pos:Int)==0)=ζ:=by simp;exact I
          have S:((pos:Int) !=0)=ε:=by simp;exact I
          have F:Hid (iQ n0 b k=16):=aW (by rw[C.o,ι Acz,ι ⟨hp,Or.inl I⟩]);go_wp2;go_ret;exact⟨aY AbW,(D.trans M.o).alloc _⟩
      · obtain rfl:k=n:=aa;go_wp2;go_ret;exact⟨aY (by rw[T.o];exact(dE R.o).symm),D.trans M.o⟩
structure j5 (w:World) (A0:Option Addr) (n0 c0:Nat) (A1:Option Addr) (n1 c1:Nat) (A2:Option Addr) (n2 c2:Nat) (A3:Option Addr) (n3 c3:Nat) (L:Nat->Hd) (s:StD):Prop where
 buses:Strs w A0 n0 s.buses
 nc:n0<=c0
 mx:n0<=1000000/\n1<=1000000/\n2<=1000000/\n3<=1000000
 l1:s.lines.length=n1
 lines:Arr w A1 n1 5 (fun i=>ry (s.lines.getD i η))
 l2:s.srcs.length=n2
 srcs:Arr w A2 n2 6 (fun i=>oN (s.srcs.getD i η))
 l3:s.bays.length=n3
 bays:Arr w A3 n3 12 (fun i=>j6 (s.bays.getD i η) (L i))
 links:∀i,i<n3->Lks w (L i).A (L i).n (s.bays.getD i η).links
section
variable {w w':World} {A0:Option Addr} {n0 c0:Nat} {A1:Option Addr} {n1 c1:Nat} {A2:Option Addr} {n2 c2:Nat} {A3:Option Addr} {n3 c3:Nat} {L:Nat->Hd} {s:StD}
def j5.ext(h:j5 w A0 n0 c0 A1 n1 c1 A2 n2 c2 A3 n3 c3 L s)(x:Ext w w'):j5 w' A0 n0 c0 A1 n1 c1 A2 n2 c2 A3 n3 c3 L s:=
 ⟨h.buses.ext x,h.nc,h.mx,h.l1,h.lines.ext x,h.l2,h.srcs.ext x,h.l3,h.bays.ext x,fun i hi=>(h.links i hi).ext x⟩
end
def uu:Elem prog 22 9 1 16:=afa underlying22 (z:=.string ByteArray.empty) ah rfl aa
def Um(l:List ByteArray):∀u∈l.map Value.string,u.oneCell'=ε:=by
 exact Abh
def kU{α:Type}[Inhabited α]{l:List α}{k}(j:k<l.length):l.take (k+1)=l.take k++[l.getD k η]:=by
 rw[aaN j,σ,ν j];rfl
theorem Vx{s b k}(j:k<s.lines.length):nms s b (k+1) 0 0=nms s b k 0 0++[(s.lines.getD k η).name]:=by
 unfold nms;rw[kU j];simp
theorem VA{s b l k}(j:k<s.srcs.length):nms s b l (k+1) 0=nms s b l k 0++[(s.srcs.getD k η).name]:=by
 unfold nms;rw[kU j];simp
theorem VO{s b l g k}(j:k<s.bays.length):nms s b l g (k+1)=nms s b l g k++[(s.bays.getD k η).name]:=by
 unfold nms;rw[kU j];simp
theorem Qn{s b}:nms s b 0 0 0=s.buses.take b:=by unfold nms;simp
theorem Aj{s b l g q}(C:b<=s.buses.length)(B:l<=s.lines.length)(j:g<=s.srcs.length)(D:q<=s.bays.length):(nms s b l g q).length=b+l+g+q:=by
 unfold nms;simp;omega
def Strs.take{w A n b}{l:List ByteArray}(h:Strs w A n l)(hb:b<=n):Strs w A b (l.take b):=by
 have Z:=h.len;refine⟨ae,fun hp=> ?_⟩;obtain⟨D,e,C,hc⟩:=h.2 aa;refine⟨D,e,C,fun j u B=>hc j u ?_⟩;rw[List.map_take,acK] at B;split at B
 .exact B
 .cases B
def age{w B n v}{l:List ByteArray}(h:w.ownsRow B 9 1 v n (l.map Value.string)):∃A c,v=.slice A n c/\n<=c/\Strs w A n l:=by
 obtain⟨A,c,e,C,_,j⟩:=jD h;exact⟨A,c,e,C,j⟩
theorem KW(nm){A0 n0 c0 A1 n1 c1 A2 n2 c2 A3 n3 c3 L s}(w)(hs:j5 w A0 n0 c0 A1 n1 c1 A2 n2 c2 A3 n3 c3 L s)(b l g q)(hb:b<=n0)(Z:l<=n1)(hg:g<=n2)(hq:q<=n3):
  Calls prog 65 #[stV nm A0 n0 c0 A1 n1 c1 A2 n2 c2 A3 n3 c3,(b:Int),(l:Int),(g:Int),(q:Int)] w
   fun e w'=>∃A c,e=.returned (.slice A (b+l+g+q) c)/\Strs w' A (b+l+g+q) (nms s b l g q)/\Ext w w':=by
 have B:=hs.nc;have YN:=hs.mx;obtain⟨m0,m1,m2,m3⟩:=YN;have S:=(hs.buses.take hb).ext (Ext.new w (.cells #[nm,aO A0 n0 c0,aO A1 n1 c1,aO A2 n2 c2,aO A3 n3 c3] 27));have O:=aW hs;have HT:=aW S;clear hs S;have Zl:b<=c0:=aa;unfold stV;obtain⟨-,B2⟩:=an1 w 27 #[nm,aO A0 n0 c0,aO A1 n1 c1,aO A2 n2 c2,aO A3 n3 c3];have U:=aW B2;clear B2;have j:Hid (((w.alloc (.cells #[nm,aO A0 n0 c0,aO A1 n1 c1,aO A2 n2 c2,aO A3 n3 c3] 27)).alloc (.cells #[] 9)).ownsRow (w.heap.size+1) 9 1 (.slice (γ (aM (w.heap.size+1) 0)) 0 0) 0 []):=aW (by
  have:=aaZ (base:=w.heap.size+1) (e:=9) (size:=1) (aL w #[nm,aO A0 n0 c0,aO A1 n1 c1,aO A2 n2 c2,aO A3 n3 c3] 27) #[] 0 ag AdA ag;simpa using this)
 go_enter func65,ntmps65;(go_wp2_with (at_builtin;refine jk uu rfl (.tmp 15) (.tmp 19) rfl (w.heap.size+1) _ 0 [] rf j.o _ b _ ((s.buses.take b).map Value.string) rf (HT.ext (Ext.new _ _)) (Um _) aa aa Adr ?_));intro v1 w1 I Y;have G:Ext (aL w #[nm,aO A0 n0 c0,aO A1 n1 c1,aO A2 n2 c2,aO A3 n3 c3] 27) w1:=fI Y (Ext.new _ _) Ac8;have H:=aW G;have F:Hid (w1.ownsRow (w.heap.size+1) 9 1 v1 (b+0) ((nms s b 0 0 0).map Value.string)):=aW (by rw[Qn];simpa using I);clear G I Y;go_wp2_with fail
 go_loopw [11,12] (fun v i wr=>∃k:Nat,k<=l/\i=.int .i64 (k:Int)/\wr.ownsRow (w.heap.size+1) 9 1 v (b+k) ((nms s b k 0 0).map Value.string)/\Ext (aL w #[nm,aO A0 n0 c0,aO A1 n1 c1,aO A2 n2 c2,aO A3 n3 c3] 27) wr) (fun _ i _=>l-(intOf i).toNat)
 case atStart=>exact⟨0,aa,rfl,F.o,H.o⟩
 case round=>
  clear F H;obtain⟨k,hk,rfl,I,J⟩:=hrel;have F:=aW I;have H:=aW J;have T:w.heap.size<wr.heap.size:=by have:=J.size;simp at this;omega
  have k2:=(U.ext J).cell;clear I J;by_cases R:k<l
  .have hd:decide (k<l)=ε:=ae;obtain⟨lb,lo,hA,Q,hc⟩:=(O.ext ((Ext.new _ _).trans H.o)).lines.at_ (show k<n1 by omega);have N:Hid (nms s b (k+1) 0 0=nms s b k 0 0++[(s.lines.getD k η).name]):=aW (Vx (by have:=O.l1;omega));subst hA;have P:wr.cell? (aM lb (lo+k*5))=γ (.string (s.lines.getD k η).name):=hc 0 _ rfl;clear hc;generalize (s.lines.getD k η).name=x at P N;(go_wp2_with (at_builtin;refine eX uu rfl (.tmp 26) (.tmp 33) rfl (w.heap.size+1) _ (b+k) _ rf (F.alloc _) wr.heap.size 1 1 [.string x] rf (Blk.new _ _ _) rfl AaB aa aa aa Adr ?_));intro g1 C w2 D V _ _;have M:Hid (w2.ownsRow (w.heap.size+1) 9 1 (.slice (γ (aM g1 0)) (b+k+1) C) (b+(k+1)) ((nms s b (k+1) 0 0).map Value.string)):=aW Ach;have W:=aW (fI V (H.alloc _) (fun g' K=>by have:=(F.lt g' K).1;simp;omega));clear D V;go_wp2_with fail
   go_roundw
   case rel=>exact⟨k+1,aa,au,M.o,W.o⟩
   case measure=>exact aV
  .obtain rfl:l=k:=aa
   go_wp2_with fail
   go_loopw [11,13] (fun v i wr=>∃k:Nat,k<=g/\i=.int .i64 (k:Int)/\wr.ownsRow (w.heap.size+1) 9 1 v (b+l+k) ((nms s b l k 0).map Value.string)/\Ext (aL w #[nm,aO A0 n0 c0,aO A1 n1 c1,aO A2 n2 c2,aO A3 n3 c3] 27) wr) (fun _ i _=>g-(intOf i).toNat)
   case atStart=>exact⟨0,aa,rfl,F.o,H.o⟩
   case round=>
    clear F H;obtain⟨k,hk,rfl,I,J⟩:=hrel;have F:=aW I;have H:=aW J;have T:w.heap.size<wr.heap.size:=by have:=J.size;simp at this;omega
    have k2:=(U.ext J).cell;clear I J;by_cases R:k<g
    .have hd:decide (k<g)=ε:=ae;obtain⟨lb,lo,hA,Q,hc⟩:=(O.ext ((Ext.new _ _).trans H.o)).srcs.at_ (show k<n2 by omega);have N:Hid (nms s b l (k+1) 0=nms s b l k 0++[(s.srcs.getD k η).name]):=aW (VA (by have:=O.l2;omega));subst hA;have P:wr.cell? (aM lb (lo+k*6))=γ (.string (s.srcs.getD k η).name):=hc 0 _ rfl;clear hc;generalize (s.srcs.getD k η).name=x at P N;(go_wp2_with (at_builtin;refine eX uu rfl (.tmp 40) (.tmp 47) rfl (w.heap.size+1) _ (b+l+k) _ rf (F.alloc _) wr.heap.size 1 1 [.string x] rf (Blk.new _ _ _) rfl AaB aa aa aa Adr ?_));intro g1 C w2 D V _ _;have M:Hid (w2.ownsRow (w.heap.size+1) 9 1 (.slice (γ (aM g1 0)) (b+l+k+1) C) (b+l+(k+1)) ((nms s b l (k+1) 0).map Value.string)):=aW Ach;have W:=aW (fI V (H.alloc _) (fun g' K=>by have:=(F.lt g' K).1;simp;omega));clear D V;go_wp2_with fail
     go_roundw
     case rel=>exact⟨k+1,aa,au,M.o,W.o⟩
     case measure=>exact aV
    .obtain rfl:g=k:=aa
     go_wp2_with fail
     go_loopw [11,14] (fun v i wr=>∃k:Nat,k<=q/\i=.int .i64 (k:Int)/\wr.ownsRow (w.heap.size+1) 9 1 v (b+l+g+k) ((nms s b l g k).map Value.string)/\Ext (aL w #[nm,aO A0 n0 c0,aO A1 n1 c1,aO A2 n2 c2,aO A3 n3 c3] 27) wr) (fun _ i _=>q-(intOf i).toNat)
     case atStart=>exact⟨0,aa,rfl,F.o,H.o⟩
     case round=>
      clear F H;obtain⟨k,hk,rfl,I,J⟩:=hrel;have F:=aW I;have H:=aW J;have T:w.heap.size<wr.heap.size:=by have:=J.size;simp at this;omega
      have k2:=(U.ext J).cell;clear I J;by_cases R:k<q
      .have hd:decide (k<q)=ε:=ae;obtain⟨lb,lo,hA,Q,hc⟩:=(O.ext ((Ext.new _ _).trans H.o)).bays.at_ (show k<n3 by omega);have N:Hid (nms s b l g (k+1)=nms s b l g k++[(s.bays.getD k η).name]):=aW (VO (by have:=O.l3;omega));subst hA;have P:wr.cell? (aM lb (lo+k*12))=γ (.string (s.bays.getD k η).name):=hc 0 _ rfl;clear hc;generalize (s.bays.getD k η).name=x at P N;(go_wp2_with (at_builtin;refine eX uu rfl (.tmp 54) (.tmp 61) rfl (w.heap.size+1) _ (b+l+g+k) _ rf (F.alloc _) wr.heap.size 1 1 [.string x] rf (Blk.new _ _ _) rfl AaB aa aa aa Adr ?_));intro g1 C w2 D V _ _;have M:Hid (w2.ownsRow (w.heap.size+1) 9 1 (.slice (γ (aM g1 0)) (b+l+g+k+1) C) (b+l+g+(k+1)) ((nms s b l g (k+1)).map Value.string)):=aW Ach;have W:=aW (fI V (H.alloc _) (fun g' K=>by have:=(F.lt g' K).1;simp;omega));clear D V;go_wp2_with fail
       go_roundw
       case rel=>exact⟨k+1,aa,au,M.o,W.o⟩
       case measure=>exact aV
      .obtain rfl:q=k:=aa;go_wp2_with fail;obtain⟨A,c,rfl,hc,hr⟩:=age F.o;go_wp2;go_ret;exact⟨A,c,rfl,hr,(Ext.new _ _).trans H.o⟩
def Arr.bay{w:World}{A:Option Addr}{n i:Nat}{f:Nat->il}{g:Nat->Hd}(h:Arr w A n 12 (fun i=>j6 (f i) (g i)))(hi:i<n):
  ∃lb lo,A=γ ⟨lb,lo,δ⟩/\lb<w.heap.size/\w.cell? (aM lb (lo+i*12))=γ (.string (f i).name)/\w.cell? (aM lb (lo+i*12+1))=γ (.int .i64 (f i).kind)/\w.cell? (aM lb (lo+i*12+2))=γ (.int .i64 (f i).obj)/\w.cell? (aM lb (lo+i*12+3))=γ (.int .i64 (f i).en)/\w.cell? (aM lb (lo+i*12+4))=γ (.int .i64 (f i).z.r)/\w.cell? (aM lb (lo+i*12+5))=γ (.int .i64 (f i).z.x)/\w.cell? (aM lb (lo+i*12+6))=γ (.slice (g i).A (g i).n (g i).c)/\w.cell? (aM lb (lo+i*12+7))=γ (.bool (f i).closed)/\w.cell? (aM lb (lo+i*12+8))=γ (.int .i64 (f i).ct)/\w.cell? (aM lb (lo+i*12+9))=γ (.int .i64 (f i).vt)/\w.cell? (aM lb (lo+i*12+10))=γ (.int .i64 (f i).sat)/\w.cell? (aM lb (lo+i*12+11))=γ (.int .i64 (f i).travel):=by
 obtain⟨lb,lo,j,hb,hc⟩:=h.at_ hi;exact⟨lb,lo,j,hb,hc 0 _ rfl,hc 1 _ rfl,hc 2 _ rfl,hc 3 _ rfl,hc 4 _ rfl,hc 5 _ rfl,hc 6 _ rfl,hc 7 _ rfl,hc 8 _ rfl,hc 9 _ rfl,hc 10 _ rfl,hc 11 _ rfl⟩
def GZ{α:Type}[Inhabited α]{p:α->Bool}{l:List α}:∀{k:Nat},k<=l.length->(∀j,j<k->p (l.getD j η)=ζ)->(l.take k).any p=ζ
 |0,_,_=>ag
 |k+1,hk,h=>by
  rw[kU aa,List.any_append,GZ aa (fun j B=>h j aa)];simp[-List.getD_eq_getElem?_getD,h k aa]
def any_some{α:Type}[Inhabited α]{p:α->Bool}{l:List α}{k i}(j:k<i)(hi:i<=l.length)(h:p (l.getD k η)=ε):(l.take i).any p=ε:=by
 rw[List.any_eq_true];refine⟨l.getD k η,?_,h⟩;rw[σ,ν aa];rw[List.mem_take_iff_getElem];exact⟨k,aa,rfl⟩
theorem rG{x y}(h:x.kind≠y.kind\/x.obj≠y.obj\/x.en≠y.en):mQ x y=ζ:=by
 unfold mQ;rcases h with h|h|h<;>simp[h]
theorem Eh{x y}(l:x.kind=y.kind)(j:x.obj=y.obj)(B:x.en=y.en):mQ x y=ε:=by
 unfold mQ;simp[l,j,B]
theorem G8(nm){A0 n0 c0 A1 n1 c1 A2 n2 c2 A3 n3 c3 L s}(w)(hs:j5 w A0 n0 c0 A1 n1 c1 A2 n2 c2 A3 n3 c3 L s)(i)(hi:i<n3):
  CE 68 #[stV nm A0 n0 c0 A1 n1 c1 A2 n2 c2 A3 n3 c3,(i:Int)] w (.int .i64 (su s i)):=by
 have S:=hs.l1;have YL:=hs.l2;have Y:=hs.l3;have YN:=hs.mx;have Zi:s.buses.length=n0:=hs.buses.len;have G:=hs.links i hi;have O:Hid (su s i=if jH n1 n2 (s.bays.getD i η)=0 then
  (if dz (s.bays.getD i η)=ε then (if oP (s.bays.take i) (s.bays.getD i η)=ε then 12 else iI n0 (s.bays.getD i η)) else 2)
 else jH n1 n2 (s.bays.getD i η)):=aW (by rw[<-S,<-YL,<-Zi];rfl)
 have HS:=aW hs;have Z:=aW Y;obtain⟨m0,m1,m2,m3⟩:=YN;clear S YL Y Zi;obtain⟨lb,lo,H,hb,e0,e1,e2,e3,e4,e5,e6,e7,e8,e9,YJ,YM⟩:=hs.bays.bay hi;have HA:=aW H;rw[H];clear hs H;revert e0 e1 e2 e3 e4 e5 e6 e7 e8 e9 YJ YM O G;generalize V:s.bays.getD i η=b;generalize L i=h;intro G O e0 e1 e2 e3 e4 e5 e6 e7 e8 e9 YJ YM;have YU:=aW V;have I:=aW G;clear V G;obtain⟨W,B2,B3⟩:=an2 w 27 #[nm,aO A0 n0 c0,aO A1 n1 c1,aO A2 n2 c2,aO (γ (aM lb lo)) n3 c3] 57 #[b.name,b.kind,b.obj,b.en,b.z.r,b.z.x,aO h.A h.n h.c,b.closed,b.ct,b.vt,b.sat,b.travel];have U:=aW B2;have F:=aW B3;have D:=aW W;clear B2 B3 W;unfold stV;generalize ho:jH n1 n2 b=l at O;have HO:=aW ho;clear ho;by_cases h0:l=0
 rotate_left
 .have q0:((l:Int) !=0)=ε:=by simp;exact h0
  have T:Hid (su s i=l):=aW (by rw[O.o,θ h0]);clear h0;go_enter adj,ac5;go_wp2_with fail;refine(qN nm A0 n0 c0 A1 n1 c1 A2 n2 c2 _ n3 c3 b h.A h.n h.c _).mono ?_;rintro e w1 ⟨rfl,J⟩;rw[HO.o];go_wp2_with fail;go_ret;exact⟨aY T.symm,D.trans J⟩
 subst h0;cases P:dz b
 .have T:Hid (su s i=2):=aW (by rw[O.o,ι rfl,θ (by rw[P];decide)]);have HR:=aW P;clear P;go_enter adj,ac5;go_wp2_with fail;refine(qN nm A0 n0 c0 A1 n1 c1 A2 n2 c2 _ n3 c3 b h.A h.n h.c _).mono ?_;rintro e w1 ⟨rfl,J⟩;rw[HO.o];have k3:=(F.ext J).cell;have B:=aW (D.trans J);clear J;go_wp2_with fail;refine(uA b h.A h.n h.c _).mono ?_;rintro e w2 ⟨rfl,J⟩;rw[HR.o];go_wp2_with fail;go_ret;exact⟨aY T.symm,B.trans J⟩
 have HR:=aW P;have T:Hid (su s i=if oP (s.bays.take i) b=ε then 12 else iI n0 b):=aW (by rw[O.o,ι rfl,ι P]);clear P O;by_cases C:b.kind=3
 .have q3:((b.kind:Int) !=3)=ζ:=by simp[C]
  have ac:Hid (su s i=iI n0 b):=aW (by rw[T.o,θ (by simp[oP,C])]);clear C;go_enter adj,ac5;go_wp2_with fail;refine(qN nm A0 n0 c0 A1 n1 c1 A2 n2 c2 _ n3 c3 b h.A h.n h.c _).mono ?_;rintro e w1 ⟨rfl,J⟩;rw[HO.o];have k3:=(F.ext J).cell;have B:=aW J;clear J;go_wp2_with fail;refine(uA b h.A h.n h.c _).mono ?_;rintro e w2 ⟨rfl,J⟩;rw[HR.o];replace B:=B.aC J;have k3:=(F.ext B.o).cell;have k2:=(U.ext B.o).cell;clear J;go_wp2_with fail;refine wp_loop_rounds 1 ?_;rw[rounds_succ];by_cases M:0<i
  .have d0:decide (0<i)=ε:=ae;exact AaQ
  .have d0:decide (0<i)=ζ:=ae;exact AaQ
 .have q3:((b.kind:Int) !=3)=ε:=by simp;exact C
  have Zv:=aW C;clear C;go_enter adj,ac5;go_wp2_with fail;refine(qN nm A0 n0 c0 A1 n1 c1 A2 n2 c2 _ n3 c3 b h.A h.n h.c _).mono ?_;rintro e w1 ⟨rfl,J⟩;rw[HO.o];have k3:=(F.ext J).cell;have B:=aW J;clear J;go_wp2_with fail;refine(uA b h.A h.n h.c _).mono ?_;rintro e w2 ⟨rfl,J⟩;rw[HR.o];replace B:=B.aC J;clear J k3;go_wp2_with fail
  go_loopw [7] (fun j wr=>∃k:Nat,k<=i/\j=.int .i64 (k:Int)/\(∀j,j<k->mQ b (s.bays.getD j η)=ζ)/\Ext (aL (aL w #[nm,aO A0 n0 c0,aO A1 n1 c1,aO A2 n2 c2,aO (γ (aM lb lo)) n3 c3] 27) #[b.name,b.kind,b.obj,b.en,b.z.r,b.z.x,aO h.A h.n h.c,b.closed,b.ct,b.vt,b.sat,b.travel] 57) wr) (aT i)
  case atStart=>exact⟨0,aa,rfl,by intros;omega,B.o⟩
  case round=>
   clear B;obtain⟨k,hk,rfl,hz,J⟩:=hrel;have HZ:=aW hz;have B:=aW J;have k2:=(U.ext J).cell;have k3:=(F.ext J).cell;clear hz J;by_cases Yp:k<i
   .have d0:decide (k<i)=ε:=ae;obtain⟨K,N,H,Q,f0,f1,f2,f3,_⟩:=(HS.ext (D.trans B.o)).bays.bay (show k<n3 by omega);rw[HA.o] at H;simp only[aay,acf,ac4] at H;obtain⟨rfl,rfl⟩:=H;clear f0;generalize R:s.bays.getD k η=y at f1 f2 f3;have HY:=aW R;clear R;have C:k<n3:=aa;by_cases g1:y.kind=b.kind
    .have t1:((y.kind:Int)==b.kind)=ε:=by simp;exact g1
     by_cases g2:y.obj=b.obj
     .have t2:((y.obj:Int)==b.obj)=ε:=by simp;exact g2
      by_cases g3:y.en=b.en
      .have t3:((y.en:Int)==b.en)=ε:=by simp;exact g3
       have HC:Hid (oP (s.bays.take i) b=ε):=aW (by
        unfold oP;rw[any_some Yp AcF (by rw[HY.o];exact Eh g1.symm g2.symm g3.symm),Δ Zv.o];rfl)
       clear g1 g2 g3;go_wp2_with fail;go_quiet (fail);go_wp2_with fail;go_ret;exact⟨aY (by rw[T.o,ι HC.o]),(D.trans B.o).drewN _⟩
      .have t3:((y.en:Int)==b.en)=ζ:=by simp;exact g3
       have HN:Hid (mQ b (s.bays.getD k η)=ζ):=aW (by rw[HY.o];exact rG (.inr (.inr (fun e=>g3 e.symm))));clear g1 g2 g3;go_wp2_with fail;go_quiet (fail);go_wp2_with fail
       go_roundw
       case rel=>exact⟨k+1,aa,au,(fun j hj=>by
        by_cases e:j=k
        .rw[e];exact HN.o
        .exact HZ.o j aa),B.drewN _⟩
       case measure=>exact aV
     .have t2:((y.obj:Int)==b.obj)=ζ:=by simp;exact g2
      have HN:Hid (mQ b (s.bays.getD k η)=ζ):=aW (by rw[HY.o];exact rG (.inr (.inl (fun e=>g2 e.symm))));clear g1 g2;go_wp2_with fail;go_quiet (fail);go_wp2_with fail
      go_roundw
      case rel=>exact⟨k+1,aa,au,(fun j hj=>by
       by_cases e:j=k
       .rw[e];exact HN.o
       .exact HZ.o j aa),B.drewN _⟩
      case measure=>exact aV
    .have t1:((y.kind:Int)==b.kind)=ζ:=by simp;exact g1
     have HN:Hid (mQ b (s.bays.getD k η)=ζ):=aW (by rw[HY.o];exact rG (.inl (fun e=>g1 e.symm)));clear g1;go_wp2_with fail;go_quiet (fail);go_wp2_with fail
     go_roundw
     case rel=>exact⟨k+1,aa,au,(fun j hj=>by
      by_cases e:j=k
      .rw[e];exact HN.o
      .exact HZ.o j aa),B.drewN _⟩
     case measure=>exact aV
   .obtain rfl:i=k:=aa;have HC:Hid (su s i=iI n0 b):=aW (by rw[T.o,θ (by unfold oP;rw[GZ AcF HZ.o];simp)]);go_wp2_with fail;refine(wO nm A0 n0 c0 A1 n1 c1 A2 n2 c2 _ n3 c3 b h.A h.n h.c _ (I.ext (D.trans B.o))).mono ?_;rintro e w3 ⟨rfl,J⟩;go_wp2_with fail;go_ret;exact⟨aY HC.symm,(D.trans B.o).trans J⟩
def xS(nm){A0 n0 c0 A1 n1 c1 A2 n2 c2 A3 n3 c3 L s}(w)(hs:j5 w A0 n0 c0 A1 n1 c1 A2 n2 c2 A3 n3 c3 L s)(b l g q n)(hb:b<=n0)(Z:l<=n1)(j:g<=n2)(hq:q<=n3)(hn:b+l+g+q=n):
  Calls prog 65 #[stV nm A0 n0 c0 A1 n1 c1 A2 n2 c2 A3 n3 c3,(b:Int),(l:Int),(g:Int),(q:Int)] w
   fun e w'=>∃A c,e=.returned (.slice A n c)/\Strs w' A n (nms s b l g q)/\Ext w w':=by
 subst hn;exact KW nm w hs b l g q hb Z j hq
def Strs.getD{w A n k}{l:List ByteArray}(h:Strs w A n l)(B:k<n):∃j,A=γ j/\j.block<w.heap.size/\w.cell? (j.add k)=γ (.string (l.getD k η)):=by
 obtain⟨j,x,e,hb,J,hc⟩:=h.at_ B;refine⟨j,e,hb,?_⟩;rw[σ,J];exact hc
theorem Ry{s}(j:fJ s.name=ε)(l:lu s=ε):chk s=(if dA (sJ s) s.buses.length=0 then
    if dA (kW s) s.lines.length=0 then
     if dA (rq s) s.srcs.length=0 then dA (tY s) s.bays.length
     else dA (rq s) s.srcs.length
    else dA (kW s) s.lines.length
   else dA (sJ s) s.buses.length):=by
 unfold chk;rw[ι j,ι l]
theorem Rn{s}(h:fJ s.name=ζ):chk s=7:=by unfold chk;rw[θ (by rw[h];decide)]
theorem QH{s}(j:fJ s.name=ε)(l:lu s=ζ):chk s=3:=by unfold chk;rw[ι j,θ (by rw[l];decide)]
theorem uo{A0 n0 c0 A1 n1 c1 A2 n2 c2 A3 n3 c3 L s}(w)(hs:j5 w A0 n0 c0 A1 n1 c1 A2 n2 c2 A3 n3 c3 L s):
  CE 31 #[stV s.name A0 n0 c0 A1 n1 c1 A2 n2 c2 A3 n3 c3] w (.int .i64 (chk s)):=by
 have F:∀w:World,Calls prog 63 #[s.name] w fun e w'=>e=.returned (.bool (fJ s.name))/\w=w':=fun w=>(yM s.name w).mono (fun e w' hh=>⟨hh.1,hh.2.symm⟩);have N:s.buses.length=n0:=hs.buses.len;have S:=hs.l1;have YL:=hs.l2;have Yz:=hs.l3;have YN:=hs.mx;obtain⟨m0,m1,m2,m3⟩:=YN;have HS:=aW hs;clear hs;have Ze:=aW N;have R:=aW S;have YE:=aW YL;have Z:=aW Yz;unfold stV;cases hn:fJ s.name
 .have T:Hid (chk s=7):=aW (Rn hn);clear N S YL Yz;exact AbY
 cases hc:lu s
 .have T:Hid (chk s=3):=aW (QH hn hc);have YH:¬(1<=n0/\n0<=4/\n1<=6/\n2<=4/\n3<=16):=by
   exact Adi
  clear N S YL Yz hc;have HC:=aW YH;clear YH;by_cases O:n0<1
  .have d0:decide ((n0:Int)<1)=ε:=ae;clear O;exact Aaj
  have d0:decide ((n0:Int)<1)=ζ:=ae;by_cases t1:4<n0
  .have d1:decide ((4:Int)<n0)=ε:=ae;clear t1;exact Aaj
  have d1:decide ((4:Int)<n0)=ζ:=ae;by_cases t2:6<n1
  .have d2:decide ((6:Int)<n1)=ε:=ae;clear t2;exact Aaj
  have d2:decide ((6:Int)<n1)=ζ:=ae;by_cases t3:4<n2
  .have d3:decide ((4:Int)<n2)=ε:=ae;clear t3;exact Aaj
  have d3:decide ((4:Int)<n2)=ζ:=ae;by_cases t4:16<n3
  .have d4:decide ((16:Int)<n3)=ε:=ae;clear t4;exact Aaj
  exact Adu
 have T:=aW (Ry hn hc);have YR:1<=n0/\n0<=4/\n1<=6/\n2<=4/\n3<=16:=by
  unfold lu at hc;rw[N,S,YL,Yz] at hc;simp at hc;omega
 obtain⟨g0,B,g1,g2,g3⟩:=YR;clear hc;rw[N,S,YL,Yz] at T;clear N S YL Yz;have d0:decide ((n0:Int)<1)=ζ:=ae;have d1:decide ((4:Int)<n0)=ζ:=ae;have d2:decide ((6:Int)<n1)=ζ:=ae;have d3:decide ((4:Int)<n2)=ζ:=ae;have d4:decide ((16:Int)<n3)=ζ:=ae;obtain⟨-,B1⟩:=an1 w 27 #[s.name,aO A0 n0 c0,aO A1 n1 c1,aO A2 n2 c2,aO A3 n3 c3];have Yr:=aW B1;clear B1;have D:Hid (Ext w (aL w #[s.name,aO A0 n0 c0,aO A1 n1 c1,aO A2 n2 c2,aO A3 n3 c3] 27)):=aW (Ext.new _ _);go_enter aeE,adL;(go_wp2_with (first|(go_at_call 63;refine(F _).mono ?_;rintro e w1 ⟨rfl,rfl⟩)));go_quiet (fail);go_wp2_with fail;clear d0 d1 d2 d3 d4 F;have H:Hid (Ext (aL w #[s.name,aO A0 n0 c0,aO A1 n1 c1,aO A2 n2 c2,aO A3 n3 c3] 27) ((w.alloc (.cells #[s.name,aO A0 n0 c0,aO A1 n1 c1,aO A2 n2 c2,aO A3 n3 c3] 27)).drewN nq)):=aW ((Ext.refl _).drewN _);go_loopw [7] (fun i wr=>∃k:Nat,k<=n0/\i=.int .i64 (k:Int)/\(∀j,j<k->sJ s j=0)/\Ext (aL w #[s.name,aO A0 n0 c0,aO A1 n1 c1,aO A2 n2 c2,aO A3 n3 c3] 27) wr) (aT n0)
 case atStart=>exact⟨0,aa,rfl,by intros;omega,H.o⟩
 case round=>
  clear H;obtain⟨k,hk,rfl,hz,J⟩:=hrel;have YM:=aW hz;have H:=aW J;have YQ:w.heap.size<wr.heap.size:=by have:=J.size;simp at this;omega
  have C:=(Yr.ext J).cell;clear hz J;by_cases V:k<n0
  .have hd:decide (k<n0)=ε:=ae;have l:=aW (HS.ext (D.trans H.o));obtain⟨ad,hA,hb,e0⟩:=l.buses.getD V;have M:Hid (sJ s k=eu (nms s k 0 0 0) (s.buses.getD k η)):=aW rfl;generalize s.buses.getD k η=x at e0 M;subst hA;generalize Yt:eu (nms s k 0 0 0) x=ne at M;have YS:=aW Yt;clear Yt;have Y1:=aX.blk (Yr.ext H.o);have Y2:=fun x:aX wr=>aX.cell e0 x;go_wp2_with fail;refine bM 9 [(ε,0),(ε,1),(ε,3),(ε,4),(ε,5),(ε,6),(ε,7),(ζ,2),(ζ,8)] ah ah ?_;refine bC [0,1,3,4,5,6,7] [(ζ,2),(ζ,8)] _ ah ?_;refine Gq ?_;refine bz 2 [(ζ,8)] ah ?_;intro K I;simp only[bG];go_wp2_with fail;refine(xS s.name _ (l.ext ((Ext.refl wr).drew)) k 0 0 0 k (show k<=n0 by omega) (q9 _) (q9 _) (q9 _) rfl).mono ?_;rintro e w2 ⟨A,c,rfl,hr,J⟩;have HR:=aW hr;have P:=((Ext.refl wr).drew).trans J;have W:=aW P;clear J hr;go_wp2_with fail;refine I _ _ ⟨⟨w2,P⟩,rfl⟩ ?_;clear I K P;refine bz 8 [] ah ?_;intro K I;simp only[bG];go_wp2_with fail;refine(sM x _ _ _ _ _ HR.o aa).mono ?_;rintro e w3 ⟨rfl,rfl⟩;rw[YS.o];go_wp2_with fail;refine I _ _ ⟨⟨w2,W.o⟩,rfl⟩ ?_;clear I K Y1 Y2;simp only[cK,ξ,τ];have C:=(Yr.ext (H.trans W.o)).cell;by_cases U:ne=0
   rotate_left
   .have q0:((ne:Int) !=0)=ε:=by simp;exact U
    have q1:((ne:Int)==0)=ζ:=by simp;exact U
    have Y:Hid (sJ s k=ne):=M;have Q:=aW U;clear U;go_wp2_with fail;go_ret;exact⟨aY (by
     have h:=dK YM.o Y.o Q.o V;rw[T.o];skip
     first|exact h|(rw[θ AcC];exact h)),(D.trans H.o).trans W.o⟩
   subst U;have Y:Hid (sJ s k=0):=M;go_wp2_with fail
   go_roundw
   case rel=>exact⟨k+1,aa,au,gQ YM.o Y.o,H.trans W.o⟩
   case measure=>exact aV
  .obtain rfl:n0=k:=aa;clear V YQ C;go_wp2_with fail
   go_loopw [9] (fun i wr=>∃k:Nat,k<=n1/\i=.int .i64 (k:Int)/\(∀j,j<k->kW s j=0)/\Ext (aL w #[s.name,aO A0 n0 c0,aO A1 n1 c1,aO A2 n2 c2,aO A3 n3 c3] 27) wr) (aT n1)
   case atStart=>exact⟨0,aa,rfl,by intros;omega,H.o⟩
   case round=>
    clear H;obtain⟨k,hk,rfl,hz,J⟩:=hrel;have YP:=aW hz;have H:=aW J;have YQ:w.heap.size<wr.heap.size:=by have:=J.size;simp at this;omega
    have C:=(Yr.ext J).cell;clear hz J;by_cases V:k<n1
    .have hd:decide (k<n1)=ε:=ae;have l:=aW (HS.ext (D.trans H.o));obtain⟨lb,lo,hA,hb,hc⟩:=l.lines.at_ V;have e0:wr.cell? (aM lb (lo+k*5))=γ (.string (s.lines.getD k η).name):=hc 0 _ rfl;have e1:=hc 1 _ rfl;have e2:=hc 2 _ rfl;have e3:=hc 3 _ rfl;have e4:=hc 4 _ rfl;clear hc;have M:Hid (kW s k=if eu (nms s n0 k 0 0) (s.lines.getD k η).name=0 then (if (okZ (s.lines.getD k η).z1&&okZ (s.lines.getD k η).z0)=ε then 0 else 2) else eu (nms s n0 k 0 0) (s.lines.getD k η).name):=aW (by rw[<-Ze.o];rfl);generalize s.lines.getD k η=x at e0 e1 e2 e3 e4 M;subst hA;generalize Yt:eu (nms s n0 k 0 0) x.name=ne at M;have YS:=aW Yt;clear Yt;have Y1:=aX.blk (Yr.ext H.o);have Y2:=fun x:aX wr=>aX.cell e0 x;go_wp2_with fail;refine bM 11 [(ε,0),(ε,1),(ε,2),(ε,4),(ε,5),(ε,6),(ε,7),(ε,8),(ε,9),(ζ,3),(ζ,10)] ah ah ?_;refine bC [0,1,2,4,5,6,7,8,9] [(ζ,3),(ζ,10)] _ ah ?_;refine Gq ?_;refine bz 3 [(ζ,10)] ah ?_;intro K I;simp only[bG];go_wp2_with fail;refine(xS s.name _ (l.ext ((Ext.refl wr).drew)) n0 k 0 0 (n0+k) (κ _) (show k<=n1 by omega) (q9 _) (q9 _) rfl).mono ?_;rintro e w2 ⟨A,c,rfl,hr,J⟩;have HR:=aW hr;have P:=((Ext.refl wr).drew).trans J;have W:=aW P;clear J hr;go_wp2_with fail;refine I _ _ ⟨⟨w2,P⟩,rfl⟩ ?_;clear I K P;refine bz 10 [] ah ?_;intro K I;simp only[bG];go_wp2_with fail;refine(sM x.name _ _ _ _ _ HR.o aa).mono ?_;rintro e w3 ⟨rfl,rfl⟩;rw[YS.o];go_wp2_with fail;refine I _ _ ⟨⟨w2,W.o⟩,rfl⟩ ?_;clear I K Y1 Y2;simp only[cK,ξ,τ];have C:=(Yr.ext (H.trans W.o)).cell;by_cases U:ne=0
     rotate_left
     .have q0:((ne:Int) !=0)=ε:=by simp;exact U
      have q1:((ne:Int)==0)=ζ:=by simp;exact U
      have Y:Hid (kW s k=ne):=aW (by rw[M.o,θ U]);have Q:=aW U;clear U;go_wp2_with fail;go_ret;exact⟨aY (by
       have h:=dK YP.o Y.o Q.o V;rw[T.o];rw[ι (dE YM.o)]
       first|exact h|(rw[θ AcC];exact h)),(D.trans H.o).trans W.o⟩
     subst U;generalize YA:okZ x.z1=z1 at M;generalize YJ:okZ x.z0=z0 at M;have Yy:=aW YA;have G:=aW YJ;clear YA YJ;have YB:lb<w2.heap.size:=ο hb W.size;have ZC:w.heap.size<w2.heap.size:=ο YQ W.size;replace e0:=W.cell_ e0;replace e1:=W.cell_ e1;replace e2:=W.cell_ e2;replace e3:=W.cell_ e3;replace e4:=W.cell_ e4;cases z1
     .have Y:Hid (kW s k=2):=aW Ac5;have Q:Hid ((2:Int)≠0):=aW aj;go_wp2_with fail;refine(bT x.z1 _).mono ?_;rintro e w4 ⟨rfl,rfl⟩;rw[Yy.o];go_wp2_with fail;go_ret;exact⟨aY (by
       have h:=dK YP.o Y.o Q.o V;rw[T.o];rw[ι (dE YM.o)]
       first|exact h|(rw[θ AcC];exact h)),(D.trans H.o).trans (W.alloc _)⟩
     cases z0
     .have Y:Hid (kW s k=2):=aW Ac5;have Q:Hid ((2:Int)≠0):=aW aj;go_wp2_with fail;refine(bT x.z1 _).mono ?_;rintro e w4 ⟨rfl,rfl⟩;rw[Yy.o];go_wp2_with fail;refine(bT x.z0 _).mono ?_;rintro e w5 ⟨rfl,rfl⟩;rw[G.o];go_wp2_with fail;go_ret;exact⟨aY (by
       have h:=dK YP.o Y.o Q.o V;rw[T.o];rw[ι (dE YM.o)]
       first|exact h|(rw[θ AcC];exact h)),(D.trans H.o).trans ((W.alloc _).alloc _)⟩
     have Y:Hid (kW s k=0):=aW Ac5;go_wp2_with fail;refine(bT x.z1 _).mono ?_;rintro e w4 ⟨rfl,rfl⟩;rw[Yy.o];go_wp2_with fail;refine(bT x.z0 _).mono ?_;rintro e w5 ⟨rfl,rfl⟩;rw[G.o];go_wp2_with fail
     go_roundw
     case rel=>exact⟨k+1,aa,au,gQ YP.o Y.o,H.trans ((W.alloc _).alloc _)⟩
     case measure=>exact aV
    .obtain rfl:n1=k:=aa;clear V YQ C;go_wp2_with fail
     go_loopw [11] (fun i wr=>∃k:Nat,k<=n2/\i=.int .i64 (k:Int)/\(∀j,j<k->rq s j=0)/\Ext (aL w #[s.name,aO A0 n0 c0,aO A1 n1 c1,aO A2 n2 c2,aO A3 n3 c3] 27) wr) (aT n2)
     case atStart=>exact⟨0,aa,rfl,by intros;omega,H.o⟩
     case round=>
      clear H;obtain⟨k,hk,rfl,hz,J⟩:=hrel;have Za:=aW hz;have H:=aW J;have YQ:w.heap.size<wr.heap.size:=by have:=J.size;simp at this;omega
      have C:=(Yr.ext J).cell;clear hz J;by_cases V:k<n2
      .have hd:decide (k<n2)=ε:=ae;have l:=aW (HS.ext (D.trans H.o));obtain⟨lb,lo,hA,hb,hc⟩:=l.srcs.at_ V;have e0:wr.cell? (aM lb (lo+k*6))=γ (.string (s.srcs.getD k η).name):=hc 0 _ rfl;have e1:=hc 1 _ rfl;have e2:=hc 2 _ rfl;have e3:=hc 3 _ rfl;have e4:=hc 4 _ rfl;have e5:=hc 5 _ rfl;clear hc;have M:Hid (rq s k=if eu (nms s n0 n1 k 0) (s.srcs.getD k η).name=0 then (if jr (s.srcs.getD k η)=ε then 0 else 2) else eu (nms s n0 n1 k 0) (s.srcs.getD k η).name):=aW (by rw[<-Ze.o,<-R.o];rfl);generalize s.srcs.getD k η=x at e0 e1 e2 e3 e4 e5 M;subst hA;generalize Yt:eu (nms s n0 n1 k 0) x.name=ne at M;have YS:=aW Yt;clear Yt;have Y1:=aX.blk (Yr.ext H.o);have Y2:=fun x:aX wr=>aX.cell e0 x;go_wp2_with fail;refine bM 12 [(ε,0),(ε,1),(ε,2),(ε,3),(ε,5),(ε,6),(ε,7),(ε,8),(ε,9),(ε,10),(ζ,4),(ζ,11)] ah ah ?_;refine bC [0,1,2,3,5,6,7,8,9,10] [(ζ,4),(ζ,11)] _ ah ?_;refine Gq ?_;refine bz 4 [(ζ,11)] ah ?_;intro K I;simp only[bG];go_wp2_with fail;refine(xS s.name _ (l.ext ((Ext.refl wr).drew)) n0 n1 k 0 (n0+n1+k) (κ _) (κ _) (show k<=n2 by omega) (q9 _) rfl).mono ?_;rintro e w2 ⟨A,c,rfl,hr,J⟩;have HR:=aW hr;have P:=((Ext.refl wr).drew).trans J;have W:=aW P;clear J hr;go_wp2_with fail;refine I _ _ ⟨⟨w2,P⟩,rfl⟩ ?_;clear I K P;refine bz 11 [] ah ?_;intro K I;simp only[bG];go_wp2_with fail;refine(sM x.name _ _ _ _ _ HR.o aa).mono ?_;rintro e w3 ⟨rfl,rfl⟩;rw[YS.o];go_wp2_with fail;refine I _ _ ⟨⟨w2,W.o⟩,rfl⟩ ?_;clear I K Y1 Y2;simp only[cK,ξ,τ];have C:=(Yr.ext (H.trans W.o)).cell;by_cases U:ne=0
       rotate_left
       .have q0:((ne:Int) !=0)=ε:=by simp;exact U
        have q1:((ne:Int)==0)=ζ:=by simp;exact U
        have Y:Hid (rq s k=ne):=aW (by rw[M.o,θ U]);have Q:=aW U;clear U;go_wp2_with fail;go_ret;exact⟨aY (by
         have h:=dK Za.o Y.o Q.o V;rw[T.o];rw[ι (dE YM.o)];rw[ι (dE YP.o)]
         first|exact h|(rw[θ AcC];exact h)),(D.trans H.o).trans W.o⟩
       subst U;generalize YA:jr x=z1 at M;have Yy:=aW YA;clear YA;have YB:lb<w2.heap.size:=ο hb W.size;have ZC:w.heap.size<w2.heap.size:=ο YQ W.size;replace e0:=W.cell_ e0;replace e1:=W.cell_ e1;replace e2:=W.cell_ e2;replace e3:=W.cell_ e3;replace e4:=W.cell_ e4;replace e5:=W.cell_ e5;cases z1
       .have Y:Hid (rq s k=2):=aW Ac5;have Q:Hid ((2:Int)≠0):=aW aj;go_wp2_with fail;refine(zN x _).mono ?_;rintro e w4 ⟨rfl,J⟩;have YO:=aW (W.trans J);clear J;rw[Yy.o];go_wp2_with fail;go_ret;exact⟨aY (by
         have h:=dK Za.o Y.o Q.o V;rw[T.o];rw[ι (dE YM.o)];rw[ι (dE YP.o)]
         first|exact h|(rw[θ AcC];exact h)),(D.trans H.o).trans YO.o⟩
       have Y:Hid (rq s k=0):=aW Ac5;go_wp2_with fail;refine(zN x _).mono ?_;rintro e w4 ⟨rfl,J⟩;have YO:=aW (W.trans J);clear J;rw[Yy.o];go_wp2_with fail
       go_roundw
       case rel=>exact⟨k+1,aa,au,gQ Za.o Y.o,H.trans YO.o⟩
       case measure=>exact aV
      .obtain rfl:n2=k:=aa;clear V YQ C;go_wp2_with fail
       go_loopw [13] (fun i wr=>∃k:Nat,k<=n3/\i=.int .i64 (k:Int)/\(∀j,j<k->tY s j=0)/\Ext (aL w #[s.name,aO A0 n0 c0,aO A1 n1 c1,aO A2 n2 c2,aO A3 n3 c3] 27) wr) (aT n3)
       case atStart=>exact⟨0,aa,rfl,by intros;omega,H.o⟩
       case round=>
        clear H;obtain⟨k,hk,rfl,hz,J⟩:=hrel;have YX:=aW hz;have H:=aW J;have YQ:w.heap.size<wr.heap.size:=by have:=J.size;simp at this;omega
        have C:=(Yr.ext J).cell;clear hz J;by_cases V:k<n3
        .have hd:decide (k<n3)=ε:=ae;have l:=aW (HS.ext (D.trans H.o));obtain⟨lb,lo,hA,hb,hc⟩:=l.bays.at_ V;have e0:wr.cell? (aM lb (lo+k*12))=γ (.string (s.bays.getD k η).name):=hc 0 _ rfl;clear hc;have M:Hid (tY s k=if eu (nms s n0 n1 n2 k) (s.bays.getD k η).name=0 then su s k else eu (nms s n0 n1 n2 k) (s.bays.getD k η).name):=aW (by rw[<-Ze.o,<-R.o,<-YE.o];rfl);generalize s.bays.getD k η=x at e0 M;subst hA;generalize Yt:eu (nms s n0 n1 n2 k) x.name=ne at M;have YS:=aW Yt;clear Yt;have Y1:=aX.blk (Yr.ext H.o);have Y2:=fun x:aX wr=>aX.cell e0 x;go_wp2_with fail;refine bM 13 [(ε,0),(ε,1),(ε,2),(ε,3),(ε,4),(ε,6),(ε,7),(ε,8),(ε,9),(ε,10),(ε,11),(ζ,5),(ζ,12)] ah ah ?_;refine bC [0,1,2,3,4,6,7,8,9,10,11] [(ζ,5),(ζ,12)] _ ah ?_;refine Gq ?_;refine bz 5 [(ζ,12)] ah ?_;intro K I;simp only[bG];go_wp2_with fail;refine(xS s.name _ (l.ext ((Ext.refl wr).drew)) n0 n1 n2 k (n0+n1+n2+k) (κ _) (κ _) (κ _) (show k<=n3 by omega) rfl).mono ?_;rintro e w2 ⟨A,c,rfl,hr,J⟩;have HR:=aW hr;have P:=((Ext.refl wr).drew).trans J;have W:=aW P;clear J hr;go_wp2_with fail;refine I _ _ ⟨⟨w2,P⟩,rfl⟩ ?_;clear I K P;refine bz 12 [] ah ?_;intro K I;simp only[bG];go_wp2_with fail;refine(sM x.name _ _ _ _ _ HR.o aa).mono ?_;rintro e w3 ⟨rfl,rfl⟩;rw[YS.o];go_wp2_with fail;refine I _ _ ⟨⟨w2,W.o⟩,rfl⟩ ?_;clear I K Y1 Y2;simp only[cK,ξ,τ];have C:=(Yr.ext (H.trans W.o)).cell;by_cases U:ne=0
         rotate_left
         .have q0:((ne:Int) !=0)=ε:=by simp;exact U
          have q1:((ne:Int)==0)=ζ:=by simp;exact U
          have Y:Hid (tY s k=ne):=aW (by rw[M.o,θ U]);have Q:=aW U;clear U;go_wp2_with fail;go_ret;exact⟨aY (by
           have h:=dK YX.o Y.o Q.o V;rw[T.o];rw[ι (dE YM.o)];rw[ι (dE YP.o)];rw[ι (dE Za.o)]
           first|exact h|(rw[θ AcC];exact h)),(D.trans H.o).trans W.o⟩
         subst U;generalize YA:su s k=be at M;have Yy:=aW YA;clear YA;by_cases Yw:be=0
         .subst Yw;have Y:Hid (tY s k=0):=aW Ac5;go_wp2_with fail;refine(G8 s.name _ (l.ext W.o) k V).mono ?_;rintro e w4 ⟨rfl,J⟩;have YO:=aW (W.trans J);clear J;rw[Yy.o];go_wp2_with fail
          go_roundw
          case rel=>exact⟨k+1,aa,au,gQ YX.o Y.o,H.trans YO.o⟩
          case measure=>exact aV
         .have q0:((be:Int) !=0)=ε:=by simp;exact Yw
          have Y:Hid (tY s k=be):=aW Ac5;have Q:=aW Yw;clear Yw;go_wp2_with fail;refine(G8 s.name _ (l.ext W.o) k V).mono ?_;rintro e w4 ⟨rfl,J⟩;have YO:=aW (W.trans J);clear J;rw[Yy.o];go_wp2_with fail;go_ret;exact⟨aY (by
           have h:=dK YX.o Y.o Q.o V;rw[T.o];rw[ι (dE YM.o)];rw[ι (dE YP.o)];rw[ι (dE Za.o)]
           first|exact h|(rw[θ AcC];exact h)),(D.trans H.o).trans YO.o⟩
        .obtain rfl:n3=k:=aa;clear V YQ C;go_wp2_with fail;go_ret;exact⟨aY (by rw[T.o,ι (dE YM.o),ι (dE YP.o),ι (dE Za.o),dE YX.o]),D.trans H.o⟩
def val:List Nat->Nat
 |[]=>0
 |d::l=>d+4294967296*val l
def Dig (l:List Nat):Prop:=∀d∈l,d<4294967296
def ae9:Dig []:=by intro d h;cases h
def Dig.cons{d l}(hd:d<4294967296)(Z:Dig l):Dig (d::l):=by
 intro x J;cases J with
 |head=>exact hd
 |tail _ h=>exact Z x h
def Dig.head{d l}(h:Dig (d::l)):d<4294967296:=h d ag
def Dig.tail{d l}(h:Dig (d::l)):Dig l:=fun x J=>h x (by simp[J])
def Dig.append{a b}(ha:Dig a)(hb:Dig b):Dig (a++b):=by
 intro x J;rcases aaH.1 J with h|h
 .exact ha x h
 .exact hb x h
def Dig.one{d}(h:d<4294967296):Dig [d]:=Dig.cons h ae9
def Dig.take{l}(h:Dig l)(k):Dig (l.take k):=fun x J=>h x (adr J)
def Dig.drop{l}(h:Dig l)(k):Dig (l.drop k):=fun x J=>h x (List.mem_of_mem_drop J)
def Dig.at_{l}(h:Dig l){k x:Nat}(J:l[k]? =γ x):x<4294967296:=h x (wo J)
def Dig.replicate(k):Dig (List.replicate k 0):=by
 intro x J;rw[List.mem_replicate] at J;omega
def Dig.set{l}(h:Dig l)(k){x}(J:x<4294967296):Dig (l.set k x):=by
 intro y R;rcases List.mem_or_eq_of_mem_set R with j|j
 .exact h y j
 .omega
def val_append(a b):val (a++b)=val a+4294967296^a.length*val b:=by
 induction a with
 |nil=>simp[val]
 |cons d l ih=>simp only[abM,val,ih,nV,wN,ω];rw[nG (4294967296^l.length) 4294967296,φ];omega
def qY(k):val (List.replicate k 0)=0:=by
 induction k with
 |zero=>rfl
 |succ k ih=>simp[aaJ,val,ih]
def ky(a x):val (a++[x])=val a+4294967296^a.length*x:=by rw[val_append];simp[val]
def bU{l:List Nat}{k x}(J:l[k]? =γ x):val (l.take (k+1))=val (l.take k)+4294967296^k*x:=by
 obtain⟨j,rfl⟩:=μ.1 J;rw[aaN j,ky];simp[aao (aaj j)]
def kR{l k}(h:l.length<=k):val (l.take k)=val l:=by rw[χ h]
def vP{l:List Nat}{k}(h:l.length<=k):val (l.take (k+1))=val (l.take k):=by rw[kR h,kR aa]
def iy(l k)(j:k<=l.length):val l=val (l.take k)+4294967296^k*val (l.drop k):=by
 have:=val_append (l.take k) (l.drop k);rw[aci] at this;rw[this];simp[aao j]
def mW{l}(h:Dig l):val l<4294967296^l.length:=by
 induction l with
 |nil=>simp[val]
 |cons d l ih=>
  have j:=ih h.tail;have B:=h.head;simp only[val,nV,wN];omega
def qH{l k x y}(J:l[k]? =γ x):val (l.set k y)+4294967296^k*x=val l+4294967296^k*y:=by
 induction l generalizing k with
 |nil=>simp at J
 |cons d l ih=>
  cases k with
  |zero=>simp at J;subst J;simp[val];omega
  |succ k=>
   have:=ih (k:=k) (by simpa using J);simp only[BB,val,wN];have e:∀z,4294967296^k*4294967296*z=4294967296*(4294967296^k*z):=fun z=>by rw[nG (4294967296^k) 4294967296,φ]
   rw[e,e];omega
def Canon (l:List Nat):Prop:=∀x,l.getLast? =γ x->x≠0
def afJ:Canon []:=by intro x h;simp at h
def sW{d l}(h:Canon (d::l)):Canon l:=by
 intro x J;cases l with
 |nil=>simp at J
 |cons e m=>exact h x (by rw[adf];exact J)
def NN{l}(h:Canon l)(Z:l≠[]):0<val l:=by
 induction l with
 |nil=>exact absurd rfl Z
 |cons d l ih=>
  cases l with
  |nil=>have:=h d ag;simp[val];omega
  |cons e m=>
   have:=ih (sW h) ag;simp only[val] at this⊢;omega
def Ka{l}(h:Canon l)(Z:l≠[]):4294967296^(l.length-1)<=val l:=by
 induction l with
 |nil=>exact absurd rfl Z
 |cons d l ih=>
  cases l with
  |nil=>have:=h d ag;simp[val];omega
  |cons e m=>
   have:=ih (sW h) ag;simp only[val,nV,Nat.add_sub_cancel] at this⊢;rw[wN];omega
def Tm{a b}(ha:Dig a)(hb:Dig b)(C:Canon a)(j:Canon b)(h:val a=val b):a=b:=by
 induction a generalizing b with
 |nil=>
  cases b with
  |nil=>rfl
  |cons d l=>have:=NN j ag;rw[<-h] at this;simp[val] at this
 |cons d l ih=>
  cases b with
  |nil=>have:=NN C ag;rw[h] at this;simp[val] at this
  |cons e m=>
   simp only[val] at h;have G:=ha.head;have F:=hb.head;have D:d=e:=aa;have B:val l=val m:=aa;rw[D,ih ha.tail hb.tail (sW C) (sW j) B]
def dF (n:Nat):List Nat:=if h:n=0 then [] else n%4294967296::dF (n/4294967296)
termination_by n
decreasing_by omega
def iT:dF 0=[]:=by rw[dF];simp
def xR{n}(h:n≠0):dF n=n%4294967296::dF (n/4294967296):=by rw[dF];simp[h]
def aZ(n):val (dF n)=n:=by
 induction n using Nat.strongRecOn with
 |_ n ih=>
  by_cases h:n=0
  .subst h;rw[iT];rfl
  .rw[xR h];have:=ih (n/4294967296) aa;simp only[val,this];omega
def qy(n):Dig (dF n):=by
 induction n using Nat.strongRecOn with
 |_ n ih=>
  by_cases h:n=0
  .subst h;rw[iT];exact ae9
  .rw[xR h];exact Dig.cons aa (ih (n/4294967296) aa)
def LV{d l}(h:Canon l)(hd:l=[]->d≠0):Canon (d::l):=by
 intro x J;cases l with
 |nil=>simp at J;subst J;exact hd rfl
 |cons e m=>rw[adf] at J;exact h x J
def oC{n}:dF n=[]↔n=0:=by
 constructor
 .intro h;by_cases j:n=0
  .exact j
  .rw[xR j] at h;cases h
 .rintro rfl;exact iT
def bX(n):Canon (dF n):=by
 induction n using Nat.strongRecOn with
 |_ n ih=>
  by_cases h:n=0
  .subst h;rw[iT];exact afJ
  .rw[xR h];refine LV (ih (n/4294967296) aa) fun j=> ?_;have:=oC.1 j;omega
def G7{l}(h:Dig l)(c:Canon l):dF (val l)=l:=Tm (qy _) h (bX _) c (aZ _)
def jl (l:List Nat):Nat->Nat
 |0=>0
 |k+1=>if l.getD k 0=0 then jl l k else k+1
theorem Qi(l k):jl l k<=k:=by
 induction k with
 |zero=>simp[jl]
 |succ k ih=>unfold jl;split<;>omega
theorem Jh(l k):∀j,jl l k<=j->j<k->l.getD j 0=0:=by
 induction k with
 |zero=>intro j _ h;omega
 |succ k ih=>
  intro j B F;unfold jl at B;split at B
  .rename_i D
   by_cases C:j=k
   .subst C;exact D
   .exact ih j B aa
  .omega
theorem Lx(l k)(h:0<jl l k):l.getD (jl l k-1) 0≠0:=by
 induction k with
 |zero=>simp[jl] at h
 |succ k ih=>
  unfold jl at h⊢;split
  .rename_i j
   rw[ι j] at h;exact ih h
  .rename_i j
   simpa using j
def P9{l}(h:∀j,j<l.length->l.getD j 0=0):l=List.replicate l.length 0:=by
 apply aam;intro i;by_cases hi:i<l.length
 .have:=h i hi;simp[hi] at this⊢;exact this
 .simp[Nat.not_lt.1 hi]
def MO{l}(h:Dig l):l.take (jl l l.length)=dF (val l):=by
 have B:=Qi l l.length;have F:l.drop (jl l l.length)=List.replicate (l.length-jl l l.length) 0:=by
  have:=P9 (l:=l.drop (jl l l.length)) (fun j C=>by
   have:=Jh l l.length (jl l l.length+j) aa (by simp at C;omega);simpa using this)
  simpa using this
 have hv:val l=val (l.take (jl l l.length)):=by
  have:=iy l _ B;rw[this,F,qY];simp
 rw[hv];refine(G7 (h.take _) fun x J=> ?_).symm;by_cases D:jl l l.length=0
 .rw[D] at J;simp at J
 .have:=Lx l l.length aa;rw[abX,Be,aao B] at J;rw[NK aa] at J;simpa[List.getD,J] using this
def eG{n k}(h:n<4294967296^k):(dF n).length<=k:=by
 by_cases l:dF n=[]
 .simp[l]
 .have:=Ka (bX n) l;rw[aZ] at this;rcases Na ((dF n).length-1) k with j|j
  .omega
  .have:=Ab (n:=4294967296) aa j;omega
def eD{n k}(h:(dF n).length<=k):n<4294967296^k:=by
 have:=mW (qy n);rw[aZ] at this;exact ο this (Ab aa h)
def Yg{l n a b c}(hd:Dig l)(B:val l<4294967296^(n+3))(ha:l[n+2]? =γ a)(hb:l[n+1]? =γ b)(hc:l[n]? =γ c):
  ∃r,r<4294967296^n/\val l=(a*(4294967296*4294967296)+b*4294967296+c)*4294967296^n+r:=by
 have hn:n+2<l.length:=(μ.1 ha).1;have j:=iy l (n+3) aa;have F:val (l.drop (n+3))=0:=by
  rcases Bn (val (l.drop (n+3))) with h|h
  .exact h
  .have:4294967296^(n+3)*1<=4294967296^(n+3)*val (l.drop (n+3)):=Ω _ h;omega
 rw[F,Nat.mul_zero,I4,bU ha,bU hb,bU hc] at j;refine⟨val (l.take n),?_,?_⟩
 .exact AbF
 .rw[j];have C:4294967296^(n+2)=4294967296^n*(4294967296*4294967296):=by rw[aap]
  have D:4294967296^(n+1)=4294967296^n*4294967296:=by rw[wN]
  rw[C,D,Z4,Z4,nG (a*(4294967296*4294967296)),nG (b*4294967296),nG c,φ,φ,nG a,nG b];omega
def Yl{l n b c}(hd:Dig l)(Z:l.length=n+2)(hb:l[n+1]? =γ b)(hc:l[n]? =γ c):
  ∃r,r<4294967296^n/\val l=(b*4294967296+c)*4294967296^n+r:=by
 have j:=kR (l:=l) (k:=n+2) aa;rw[bU hb,bU hc] at j;refine⟨val (l.take n),?_,?_⟩
 .exact AbF
 .rw[<-j,wN,Z4,nG (b*4294967296),nG c,φ,nG b];omega
section
variable {S V P u2 u1 u0 v1 v0 r s g rest:Nat}
structure sj (S V P u2 u1 u0 v1 v0:Nat):Prop where
 pos:0<P
 hS:∃r,r<P/\S=(u2*(4294967296*4294967296)+u1*4294967296+u0)*P+r
 hV:∃s,s<P/\V=(v1*4294967296+v0)*P+s
 top:2147483648<=v1
 l1:v1<4294967296
 l0:v0<4294967296
 m2:u2<4294967296
 m1:u1<4294967296
 m0:u0<4294967296
 fits:S<4294967296*V
def sj.Ue(t:sj S V P u2 u1 u0 v1 v0):0<V:=by
 rcases Bn V with h|h
 .have:=t.fits;rw[h] at this;omega
 .exact h
def sj.WC(t:sj S V P u2 u1 u0 v1 v0):S/V<4294967296:=by
 rw[aaQ t.Ue];exact t.fits
def sj.MU(t:sj S V P u2 u1 u0 v1 v0):u2*4294967296+u1<4294967296*(v1+1):=by
 obtain⟨r,F,hS⟩:=t.hS;obtain⟨s,hs,hV⟩:=t.hV;have C:=t.fits;have H:=t.l0;rcases Na (u2*4294967296+u1) (4294967296*(v1+1)) with h|h
 .exact h
 .exfalso;have G:4294967296*(v1+1)*(4294967296*P)<=(u2*4294967296+u1)*(4294967296*P):=pq _ h;have D:(u2*4294967296+u1)*(4294967296*P)<=S:=by
   rw[hS];have:(u2*4294967296+u1)*(4294967296*P)=(u2*(4294967296*4294967296)+u1*4294967296)*P:=by rw[<-φ,Z4 (u2*4294967296) u1 4294967296,φ u2]
   rw[this];have:(u2*(4294967296*4294967296)+u1*4294967296)*P<=(u2*(4294967296*4294967296)+u1*4294967296+u0)*P:=pq _ aa;omega
  have l:V<=(v1+1)*(4294967296*P):=by
   rw[hV];have e:(v1+1)*(4294967296*P)=(v1*4294967296+4294967296)*P:=by rw[<-φ,Z4 v1 1,aaw]
   rw[e];have:(v1*4294967296+v0+1)*P<=(v1*4294967296+4294967296)*P:=pq _ aa;rw[Z4 _ 1,aaw] at this;omega
  have j:4294967296*V<=4294967296*((v1+1)*(4294967296*P)):=Ω _ l;rw[<-φ] at j;omega
def sj.above(t:sj S V P u2 u1 u0 v1 v0)(h:u2*(4294967296*4294967296)+u1*4294967296+u0<g*(v1*4294967296+v0)):S/V<g:=by
 obtain⟨r,B,hS⟩:=t.hS;obtain⟨s,hs,hV⟩:=t.hV;rw[aaQ t.Ue];have j:(u2*(4294967296*4294967296)+u1*4294967296+u0+1)*P<=g*(v1*4294967296+v0)*P:=pq _ h;rw[Z4 _ 1,aaw] at j;have l:g*(v1*4294967296+v0)*P<=g*V:=by
  rw[φ];exact Ω _ (by rw[hV];omega)
 omega
def sj.first(t:sj S V P u2 u1 u0 v1 v0):S/V<=(u2*4294967296+u1)/v1:=by
 obtain⟨r,C,hS⟩:=t.hS;obtain⟨s,hs,hV⟩:=t.hV;have hv:=t.top;have l:=t.m0;rw[Nat.le_div_iff_mul_le aa];have D:S/V*V<=S:=Nat.div_mul_le_self S V;have B:S/V*(v1*(4294967296*P))<=S/V*V:=by
  refine Ω _ ?_;rw[hV];have e:v1*(4294967296*P)=v1*4294967296*P:=by rw[φ]
  have:v1*4294967296*P<=(v1*4294967296+v0)*P:=pq _ aa;omega
 have F:S<(u2*4294967296+u1+1)*(4294967296*P):=by
  rw[hS];have e:(u2*4294967296+u1+1)*(4294967296*P)=(u2*(4294967296*4294967296)+u1*4294967296+4294967296)*P:=by rw[<-φ,Z4 (u2*4294967296+u1) 1 4294967296,Z4 (u2*4294967296) u1 4294967296,φ u2,aaw]
  rw[e];have:(u2*(4294967296*4294967296)+u1*4294967296+u0+1)*P<=(u2*(4294967296*4294967296)+u1*4294967296+4294967296)*P:=pq _ aa;rw[Z4 _ 1,aaw] at this;omega
 have j:S/V*v1*(4294967296*P)<(u2*4294967296+u1+1)*(4294967296*P):=by
  rw[φ];omega
 have:=Nat.lt_of_mul_lt_mul_right j;omega
def sj.close(t:sj S V P u2 u1 u0 v1 v0)(B:g<4294967296)(h:g*(v1*4294967296+v0)<=u2*(4294967296*4294967296)+u1*4294967296+u0):g<=S/V+1:=by
 obtain⟨r,C,hS⟩:=t.hS;obtain⟨s,hs,hV⟩:=t.hV;have hv:=t.top;have D:g*V<=(u2*(4294967296*4294967296)+u1*4294967296+u0)*P+g*P:=by
  rw[hV,ω,<-φ];have j:g*(v1*4294967296+v0)*P<=(u2*(4294967296*4294967296)+u1*4294967296+u0)*P:=pq _ h;have l:g*s<=g*P:=Ω _ (aaj hs);omega
 have F:g*P<V:=by
  rw[hV];have j:g*P<4294967296*P:=aa8 B t.pos;have l:4294967296*P<=(v1*4294967296+v0)*P:=pq _ aa;omega
 have G:g*V<S+V:=aa;rcases Na (S/V+1) g with hc|hc
 .exfalso;have j:(S/V+2)*V<=g*V:=pq _ hc;have l:=Nat.lt_div_mul_add (a:=S) (b:=V) t.Ue;have H:(S/V+2)*V=S/V*V+V+V:=by rw[Z4];omega
  omega
 .exact hc
end
def WO{A C D R u0 X:Nat}(e:X=C+D)(l:A=C+R):D>R+u0↔A+u0<X:=by
 subst e l;constructor
 .intro j;omega
 .intro j;omega
def Df{u2 u1 u0 v1 v0 g rest}(h:g*v1+rest=u2*4294967296+u1):g*v0>rest*4294967296+u0↔u2*(4294967296*4294967296)+u1*4294967296+u0<g*(v1*4294967296+v0):=
 WO (C:=g*v1*4294967296) (by rw[ω,<-φ]) aa
def g3 (a b d:Int):Nat:=Nat.gcd (Nat.gcd d.natAbs a.natAbs) b.natAbs
def sgZ (d:Int):Int:=if d<0 then-1 else 1
def gZ (a b d:Int):Int:=sgZ d*(g3 a b d:Int)
def nf (a b d:Int):Int×Int×Int:=(a/gZ a b d,b/gZ a b d,d/gZ a b d)
theorem Fu{a b d}(hd:d≠0):0<g3 a b d:=by
 unfold g3;exact abt _ (abt _ aa)
theorem Kh(a b d):(g3 a b d:Int)∣a/\(g3 a b d:Int)∣b/\(g3 a b d:Int)∣d:=by
 unfold g3;refine⟨?_,?_,?_⟩
 .exact aab.2 (aae (Ha _ _) (aah _ _))
 .exact aab.2 (aah _ _)
 .exact aab.2 (aae (Ha _ _) (Ha _ _))
theorem WV(a b d):Nat.gcd (Nat.gcd a.natAbs b.natAbs) d.natAbs=g3 a b d:=by
 unfold g3;rw[aaE,<-acg]
theorem ED{a b d}(hd:d≠0):gZ a b d≠0:=by
 unfold gZ sgZ;have:=Fu (a:=a) (b:=b) hd;split<;>omega
theorem uZ{a b d}(hd:d≠0):∃N J I:Int,nf a b d=(N,J,I)/\a=gZ a b d*N/\b=gZ a b d*J/\d=gZ a b d*I/\0<I/\g3 N J I=1:=by
 have H:=ED (a:=a) (b:=b) hd;obtain⟨⟨C,ha⟩,⟨b1,hb⟩,⟨B,j⟩⟩:=Kh a b d;have W:=Fu (a:=a) (b:=b) hd;have l:sgZ d*sgZ d=1:=by unfold sgZ;split<;>rfl
 have fac:∀{x R:Int},x=(g3 a b d:Int)*R->x=gZ a b d*(sgZ d*R):=by
  intro x R h;unfold gZ;rw[h,aaL,abC (g3 a b d:Int),<-aaL,l,aeI]
 have P:=fac ha;have M:=fac hb;have D:=fac j;refine⟨sgZ d*C,sgZ d*b1,sgZ d*B,?_,P,M,D,?_,?_⟩
 .unfold nf;have O:a/gZ a b d=sgZ d*C:=by rw[abG H ⟨_,P⟩];exact P
  have K:b/gZ a b d=sgZ d*b1:=by rw[abG H ⟨_,M⟩];exact M
  have Q:d/gZ a b d=sgZ d*B:=by rw[abG H ⟨_,D⟩];exact D
  rw[O,K,Q]
 .have L:(0:Int)<(g3 a b d:Int):=aa;unfold sgZ;by_cases hn:d<0
  .rw[ι hn];have:B<0:=by
    rcases acS B 0 with h|h|h
    .exact h
    .rw[h] at j;simp at j;exact absurd j hd
    .have:=Int.mul_pos L h;omega
   omega
  .rw[θ hn];have:0<B:=by
    rcases acS B 0 with h|h|h
    .have:=ac1 L h;omega
    .rw[h] at j;simp at j;exact absurd j hd
    .exact h
   omega
 .have F:∀x:Int,(sgZ d*x).natAbs=x.natAbs:=by
   intro x;rw[Ej];unfold sgZ;split<;>simp
  have U:g3 (sgZ d*C) (sgZ d*b1) (sgZ d*B)=g3 C b1 B:=by unfold g3;rw[F,F,F]
  rw[U];have T:g3 a b d=g3 a b d*g3 C b1 B:=by
   have O:a.natAbs=g3 a b d*C.natAbs:=by
    have:=congrArg Int.natAbs ha;exact Abd
   have K:b.natAbs=g3 a b d*b1.natAbs:=by
    have:=congrArg Int.natAbs hb;exact Abd
   have Q:d.natAbs=g3 a b d*B.natAbs:=by
    have:=congrArg Int.natAbs j;exact Abd
   have Y:g3 a b d=Nat.gcd (Nat.gcd d.natAbs a.natAbs) b.natAbs:=rfl;generalize g3 a b d=G at*
   have S:Nat.gcd (Nat.gcd d.natAbs a.natAbs) b.natAbs=G*g3 C b1 B:=by
    rw[O,K,Q,abN,abN];rfl
   exact Y.trans S
  have V:g3 a b d*1=g3 a b d*g3 C b1 B:=by rw[aaq];exact T
  exact(abf W V).symm
theorem xW{a b d a' b' d'}(l:a*d'=a'*d)(j:b*d'=b'*d)(C:g3 a b d=1):d∣d':=by
 have h:(g3 (a*d') (b*d') (d*d'):Nat)=d'.natAbs:=by
  unfold g3;rw[Ej,Ej,Ej,acT,acT];have:Nat.gcd (Nat.gcd d.natAbs a.natAbs) b.natAbs=1:=C;rw[this,aaw]
 have ha:d.natAbs∣(a*d').natAbs:=by rw[l,Ej];exact ac6 _ _
 have hb:d.natAbs∣(b*d').natAbs:=by rw[j,Ej];exact ac6 _ _
 have hc:d.natAbs∣(d*d').natAbs:=by rw[Ej];exact Nat.dvd_mul_right _ _
 have B:d.natAbs∣d'.natAbs:=by
  rw[<-h];unfold g3;exact acG (acG hc ha) hb
 exact ado.1 B
def pW{a b d a' b' d'}(hd:d≠0)(hd':d'≠0)(S:a*d'=a'*d)(R:b*d'=b'*d):nf a b d=nf a' b' d':=by
 obtain⟨M,L,I,T,ea,W,U,hp,V⟩:=uZ (a:=a) (b:=b) hd;obtain⟨N,b1,K,e1,B,j,D,J,Q⟩:=uZ (a:=a') (b:=b') hd';have Y:=ED (a:=a) (b:=b) hd;have F:=ED (a:=a') (b:=b') hd';generalize gZ a b d=G at*
 generalize gZ a' b' d'=H at*
 have l:G*H≠0:=nk Y F;have c1:M*K=N*I:=by
  rw[ea,D,B,U] at S;have:(G*H)*(M*K)=(G*H)*(N*I):=by
   calc (G*H)*(M*K)=G*M*(H*K):=by rw[aaL,aaL,abC H M K]
    _=H*N*(G*I):=S
    _=(G*H)*(N*I):=by rw[ac7 G H,aaL,aaL,abC G N I]
  exact ac2 l this
 have c2:L*K=b1*I:=by
  rw[W,D,j,U] at R;have:(G*H)*(L*K)=(G*H)*(b1*I):=by
   calc (G*H)*(L*K)=G*L*(H*K):=by rw[aaL,aaL,abC H L K]
    _=H*b1*(G*I):=R
    _=(G*H)*(b1*I):=by rw[ac7 G H,aaL,aaL,abC G b1 I]
  exact ac2 l this
 have C:I∣K:=xW c1 c2 V;have Z:K∣I:=xW c1.symm c2.symm Q;have P:I=K:=Int.le_antisymm (Int.le_of_dvd J C) (Int.le_of_dvd hp Z);subst P;have O:I≠0:=aa;have ha:M=N:=acO O c1;have hb:L=b1:=acO O c2;rw[T,e1,ha,hb]
def Low (a b d:Int):Prop:=0<d/\g3 a b d=1
theorem BK{a b d}(h:Low a b d):nf a b d=(a,b,d):=by
 obtain⟨l,j⟩:=h;unfold nf gZ sgZ;rw[j,θ aa];simp
def WW{a b d}(hd:d≠0):Low (nf a b d).1 (nf a b d).2.1 (nf a b d).2.2:=by
 obtain⟨C,D,B,j,_,_,_,hp,l⟩:=uZ (a:=a) (b:=b) hd;rw[j];exact⟨hp,l⟩

@[ext] structure GQ where
 re:Rat
 im:Rat
namespace GQ
instance:Add GQ:=⟨fun x y=>⟨x.re+y.re,x.im+y.im⟩⟩
instance:Sub GQ:=⟨fun x y=>⟨x.re-y.re,x.im-y.im⟩⟩
instance:Neg GQ:=⟨fun x=>⟨-x.re,-x.im⟩⟩
instance:Mul GQ:=⟨fun x y=>⟨x.re*y.re-x.im*y.im,x.re*y.im+x.im*y.re⟩⟩
def nrm (y:GQ):Rat:=y.re*y.re+y.im*y.im
instance:Div GQ:=⟨fun x y=>⟨(x.re*y.re+x.im*y.im)/y.nrm,(x.im*y.re-x.re*y.im)/y.nrm⟩⟩
def i (a b:Int):GQ:=⟨a,b⟩
def cO(x y:GQ):(x+y).re=x.re+y.re:=rfl
def bY(x y:GQ):(x+y).im=x.im+y.im:=rfl
def dU(x y:GQ):(x-y).re=x.re-y.re:=rfl
def dV(x y:GQ):(x-y).im=x.im-y.im:=rfl
def lI(x:GQ):(-x).re= -x.re:=rfl
def lM(x:GQ):(-x).im= -x.im:=rfl
def bL(x y:GQ):(x*y).re=x.re*y.re-x.im*y.im:=rfl
def bK(x y:GQ):(x*y).im=x.re*y.im+x.im*y.re:=rfl
def yN(x y:GQ):(x/y).re=(x.re*y.re+x.im*y.im)/y.nrm:=rfl
def uB(x y:GQ):(x/y).im=(x.im*y.re-x.re*y.im)/y.nrm:=rfl
def dM(a b):(i a b).re=a:=rfl
def dJ(a b):(i a b).im=b:=rfl
def dZ(x y:GQ):x*y=y*x:=by ext<;>simp only[bL,bK]<;>grind
def dB(x y z:GQ):x*y*z=x*(y*z):=by ext<;>simp only[bL,bK]<;>grind
theorem Dh{y}(h:y≠i 0 0):y.nrm≠0:=by
 intro e;apply h;have C:0<=y.re*y.re:=by
  rcases adV (a:=0) (b:=y.re) with h|h
  .exact aaR h h
  .have:=aaR (a:= -y.re) (b:= -y.re) ak ak;grind
 have B:0<=y.im*y.im:=by
  rcases adV (a:=0) (b:=y.im) with h|h
  .exact aaR h h
  .have:=aaR (a:= -y.im) (b:= -y.im) ak ak;grind
 unfold nrm at e;have j:y.re*y.re=0:=ak;have l:y.im*y.im=0:=ak;ext<;>simp only[dM,dJ]
 .rcases abw.1 j with h|h<;>simpa using h
 .rcases abw.1 l with h|h<;>simpa using h
theorem Mv{x y}(h:y≠i 0 0):x*y/y=x:=by
 have hn:=Dh h;unfold nrm at hn;ext<;>simp only[bL,bK,yN,uB,nrm]<;>grind
end GQ
structure Is (q:GQ) (a b d:Int):Prop where
 low:Low a b d
 re:q.re=(a:Rat)/(d:Rat)
 im:q.im=(b:Rat)/(d:Rat)
def ig{d:Int}(h:d≠0):(d:Rat)≠0:=by exact_mod_cast h
def MB{a b d}(hd:d≠0):(nf a b d).1.natAbs<=a.natAbs/\(nf a b d).2.1.natAbs<=b.natAbs/\(nf a b d).2.2.natAbs<=d.natAbs:=by
 obtain⟨I,D,F,j,B,l,U,hp,C⟩:=uZ (a:=a) (b:=b) hd;have H:=ED (a:=a) (b:=b) hd;rw[j];generalize gZ a b d=G at*
 have R:∀x y:Int,x=G*y->y.natAbs<=x.natAbs:=by
  intro x y h;rw[h,Ej];exact abA _ aa
 exact⟨R _ _ B,R _ _ l,R _ _ U⟩
def SS{a b d:Int}(hd:d≠0):Is ⟨(a:Rat)/(d:Rat),(b:Rat)/(d:Rat)⟩ (nf a b d).1 (nf a b d).2.1 (nf a b d).2.2:=by
 refine⟨WW hd,?_,?_⟩;all_goals
  obtain⟨F,H,j,l,C,D,U,hp,I⟩:=uZ (a:=a) (b:=b) hd;have J:=ig (ED (a:=a) (b:=b) hd);have B:(j:Rat)≠0:=ig aa;rw[l];generalize gZ a b d=G at*
  subst C D U;simp only[aac];grind
def Is.Ii{q:GQ}{a b d a' b' d':Int}(h:Is q a' b' d')(hd:d≠0)(B:q.re=(a:Rat)/(d:Rat))(hi:q.im=(b:Rat)/(d:Rat)):nf a b d=(a',b',d'):=by
 have hd':d'≠0:=by have:=h.low.1;omega
 rw[<-BK h.low];have C:=ig hd;have l:=ig hd';have j:=h.re;have D:=h.im;apply pW hd hd'
 .have:(a:Rat)*d'=a'*d:=ak
  exact_mod_cast this
 .have:(b:Rat)*d'=b'*d:=ak
  exact_mod_cast this
def Is.unique{q a b d a' b' d'}(h:Is q a b d)(K:Is q a' b' d'):a=a'/\b=b'/\d=d':=by
 have e:=K.Ii (by have:=h.low.1;omega) h.re h.im;rw[BK h.low] at e;simpa using e
structure Sz (n:Nat) (a b d:Int):Prop where
 a:a.natAbs<2^n
 b:b.natAbs<2^n
 d:d.natAbs<2^n
def Sz.mono{m n a b d}(h:Sz m a b d)(N:m<=n):Sz n a b d:=
 ⟨ο h.a (Ab aa N),ο h.b (Ab aa N),ο h.d (Ab aa N)⟩
def Is.size{q:GQ}{a b d A B D:Int}{n:Nat}(h:Is q a b d)(l:D≠0)(C:q.re=(A:Rat)/(D:Rat))(hi:q.im=(B:Rat)/(D:Rat))(hs:Sz n A B D):Sz n a b d:=by
 have e:=h.Ii l C hi;have j:=MB (a:=A) (b:=B) l;rw[e] at j;exact⟨ψ j.1 hs.a,ψ j.2.1 hs.b,ψ j.2.2 hs.d⟩
def bS{x y:Int}{m n}(J:x.natAbs<2^m)(R:y.natAbs<2^n):(x*y).natAbs<2^(m+n):=by
 rw[Ej,aap];exact Nat.mul_lt_mul'' J R
def jC{x y:Int}{m}(J:x.natAbs<2^m)(R:y.natAbs<2^m):(x+y).natAbs<2^(m+1):=by
 have:=ab7 x y;rw[wN];omega
def sG{x y:Int}{m}(J:x.natAbs<2^m)(R:y.natAbs<2^m):(x-y).natAbs<2^(m+1):=by
 have:=abD x y;rw[wN];omega
def jA{x:Int}{m n}(J:x.natAbs<2^m)(h:m<=n):x.natAbs<2^n:=ο J (Ab aa h)
def Is.dne{q a b d}(h:Is q a b d):d≠0:=by have:=h.low.1;omega
section
variable {x y q:GQ} {a b d a' b' d' u v t:Int} {m n:Nat}
def Is.QY(J:Is x a b d)(sx:Sz m a b d)(R:Is y a' b' d')(sy:Sz n a' b' d')(h:Is (x+y) u v t):Sz (m+n+1) u v t:=by
 have l:=ig J.dne;have j:=ig R.dne;refine h.size (A:=a*d'+a'*d) (B:=b*d'+b'*d) (D:=d*d') (nk J.dne R.dne) ?_ ?_ ⟨jC (bS sx.a sy.d) ?_,jC (bS sx.b sy.d) ?_,jA (bS sx.d sy.d) aa⟩
 .rw[GQ.cO,J.re,R.re];exact AaK
 .rw[GQ.bY,J.im,R.im];exact AaK
 .rw[abl];exact bS sy.a sx.d
 .rw[abl];exact bS sy.b sx.d
def Is.Q0(J:Is x a b d)(sx:Sz m a b d)(R:Is y a' b' d')(sy:Sz n a' b' d')(h:Is (x*y) u v t):Sz (m+n+1) u v t:=by
 have l:=ig J.dne;have j:=ig R.dne;refine h.size (A:=a*a'-b*b') (B:=a*b'+b*a') (D:=d*d') (nk J.dne R.dne) ?_ ?_ ⟨sG (bS sx.a sy.a) (bS sx.b sy.b),jC (bS sx.a sy.b) (bS sx.b sy.a),jA (bS sx.d sy.d) aa⟩
 .exact Acr
 .rw[GQ.bK,J.re,R.re,J.im,R.im];exact AaK
end
theorem LX(a b):Is (GQ.i a b) a b 1:=by
 refine⟨⟨aa,?_⟩,?_,?_⟩
 .unfold g3;simp
 .simp only[GQ.dM];grind
 .simp only[GQ.dJ];grind

@[ext] structure PQ where
 u:GQ
 v:GQ
namespace PQ
instance:Add PQ:=⟨fun x y=>⟨x.u+y.u,x.v+y.v⟩⟩
instance:Mul PQ:=⟨fun x y=>⟨x.u*y.u+GQ.i 3 0*(x.v*y.v),x.u*y.v+x.v*y.u⟩⟩
def plain (x:GQ):PQ:=⟨x,GQ.i 0 0⟩
def one:PQ:=plain (GQ.i 1 0)
def half:GQ:=⟨1/2,0⟩
def z:PQ:=⟨half*GQ.i 0 1,half⟩
def zp:Nat->PQ
 |0=>one
 |n+1=>zp n*z
def SC(x y:PQ):(x+y).u=x.u+y.u:=rfl
def PW(x y:PQ):(x+y).v=x.v+y.v:=rfl
def yh(x y:PQ):(x*y).u=x.u*y.u+GQ.i 3 0*(x.v*y.v):=rfl
def xH(x y:PQ):(x*y).v=x.u*y.v+x.v*y.u:=rfl
def dB(x y z:PQ):x*y*z=x*(y*z):=by
 ext<;>simp only[yh,xH,GQ.bL,GQ.bK,GQ.cO,GQ.bY,GQ.dM,GQ.dJ]<;>grind
def dZ(x y:PQ):x*y=y*x:=by
 ext<;>simp only[yh,xH,GQ.bL,GQ.bK,GQ.cO,GQ.bY,GQ.dM,GQ.dJ]<;>grind
def pX(x):x*one=x:=by
 ext<;>simp only[yh,xH,one,plain,GQ.bL,GQ.bK,GQ.cO,GQ.bY,GQ.dM,GQ.dJ]<;>grind
def Kr(m n):zp (m+n)=zp m*zp n:=by
 induction n with
 |zero=>exact(pX _).symm
 |succ n ih=>rw[<-ace];show zp (m+n)*z=zp m*(zp n*z);rw[ih,dB]
def mk4 (a b c d:Rat):PQ:=⟨⟨a,b⟩,⟨c,d⟩⟩
def qR(a b c d:Rat):mk4 a b c d*z=mk4 (3/2*c-b/2) (a/2+3/2*d) (a/2-d/2) (b/2+c/2):=by
 ext<;>simp only[mk4,yh,xH,z,half,GQ.bL,GQ.bK,GQ.cO,GQ.bY,GQ.dM,GQ.dJ]<;>grind
def zp0:zp 0=mk4 1 0 0 0:=by
 ext<;>simp only[zp,one,plain,mk4,GQ.dM,GQ.dJ]<;>grind
def zp1:zp 1=mk4 0 (1/2) (1/2) 0:=by rw[zp,zp0,qR];congr 1<;>grind
def zp2:zp 2=mk4 (1/2) 0 0 (1/2):=by rw[zp,zp1,qR];congr 1<;>grind
def zp3:zp 3=mk4 0 1 0 0:=by rw[zp,zp2,qR];congr 1<;>grind
def zp4:zp 4=mk4 (-1/2) 0 0 (1/2):=by rw[zp,zp3,qR];congr 1<;>grind
def zp5:zp 5=mk4 0 (1/2) (-1/2) 0:=by rw[zp,zp4,qR];congr 1<;>grind
def zp6:zp 6=mk4 (-1) 0 0 0:=by rw[zp,zp5,qR];congr 1<;>grind
def zp7:zp 7=mk4 0 (-1/2) (-1/2) 0:=by rw[zp,zp6,qR];congr 1<;>grind
def zp8:zp 8=mk4 (-1/2) 0 0 (-1/2):=by rw[zp,zp7,qR];congr 1<;>grind
end PQ
def mg (l:List Nat):List Value:=l.map fun(d:Nat)=> .int .u32 (d:Int)
def qX(l):(mg l).length=l.length:=by simp[mg]
def p9{l}{k x:Nat}(h:l[k]? =γ x):(mg l)[k]? =γ (.int .u32 (x:Int)):=by simp[mg,h]
def Cg{l}:∀u∈mg l,u.oneCell'=ε:=by
 intro u j;simp only[mg,Nq] at j;obtain⟨d,_,rfl⟩:=j;rfl
def VV(l:List Nat)(k x:Nat):(mg l).set k (.int .u32 (x:Int))=mg (l.set k x):=by simp[mg,adW]
def FK(n):mg (List.replicate n 0)=List.replicate n (.int .u32 0):=by simp[mg]
structure RM (w:World) (A:Option Addr) (n c:Nat) (l:List Nat):Prop where
 rd:Reads w w.heap.size 1 A n (mg l)
 dg:Dig l
 nc:n<=c
 cm:c<=9223372036854775807
section
variable {w w':World} {A:Option Addr} {n c:Nat} {l:List Nat}
def RM.ext(h:RM w A n c l)(e:Ext w w'):RM w' A n c l:=⟨h.rd.ext e,h.dg,h.nc,h.cm⟩
def RM.len(h:RM w A n c l):l.length=n:=by have:=h.rd.1;rw[qX] at this;omega
def RM.at_{k}(h:RM w A n c l)(C:k<n):∃j x,A=γ j/\j.block<w.heap.size/\l[k]? =γ x/\x<4294967296/\w.cell? (j.add k)=γ (.int .u32 (x:Int)):=by
 obtain⟨j,u,e,hb,B,hc⟩:=h.rd.at_ C;simp only[mg,z8,abz] at B;obtain⟨x,J,rfl⟩:=B;exact⟨j,x,e,hb,J,h.dg.at_ J,hc⟩
def afm:RM w δ 0 0 []:=⟨afp,ae9,κ _,aa⟩
def RM.empty(h:RM w A 0 c l):l=[]:=I5 h.len
def RM.take{k c'}(h:RM w A n c l)(G:k<=n)(hc:k<=c')(C:c'<=9223372036854775807):RM w A k c' (l.take k):=by
 have Z:=h.len;refine⟨⟨?_,fun H=> ?_⟩,h.dg.take k,hc,C⟩
 .rw[qX,Be];omega
 .obtain⟨F,e,hb,B⟩:=h.rd.2 aa;refine⟨F,e,hb,fun j u D=>B j u ?_⟩;simp only[mg,z8,abz] at D⊢;obtain⟨x,J,rfl⟩:=D;refine⟨x,?_,rfl⟩;rw[acK] at J;split at J
  .exact J
  .cases J
end
def AL{l:List Nat}{k x}(h:l[k]? =γ x):l.getD k 0=x:=by simp[List.getD,h]
def BQ{l k}(h:l[k]? =γ 0):jl l (k+1)=jl l k:=by simp[jl,h]
def Bc{l k x}(h:l[k]? =γ x)(J:x≠0):jl l (k+1)=k+1:=by simp[jl,h,J]
def SlM (l:List Nat) (v:Value) (w:World):Prop:=∃A n c,v=.slice A n c/\RM w A n c l
def SA(A n c l w)(h:RM w A n c l):
  Calls prog 174 #[aO A n c] w fun e w'=>(∃v,e=.returned v/\SlM (dF (val l)) v w)/\w=w':=by
 have hn:n<=9223372036854775807:=Ξ h.nc h.cm;have B:=h.nc;have L:=h.cm;have D:=aW h.len;have H:=aW (MO h.dg);go_enter func174,ntmps174;go_wp2;go_loop [3] (fun i=>∃k:Nat,k<=n/\i=.int .i64 k/\jl l n=jl l k) (fun i=>(intOf i).toNat)
 case atStart=>exact⟨n,κ _,rfl,rfl⟩
 case round=>
  obtain⟨k,O,rfl,C⟩:=hrel;have T:=aW C;clear C;by_cases N:k=0
  .subst N;go_wp2;go_ret;refine⟨⟨_,rfl,δ,0,0,rfl,?_⟩,rfl⟩;rw[<-H.o,D.o,T.o];exact afm
  .obtain⟨j,rfl⟩:∃j,k=j+1:=⟨k-1,aa⟩;obtain⟨P,x,rfl,hb,J,M,K⟩:=h.at_ (k:=j) aa;have F:=aW J;clear J;by_cases G:x=0
   .subst G;go_wp2;go_round
    case rel=>exact⟨j,aa,au,by rw[T.o,BQ F.o]⟩
    case measure=>simp[aT,intOf]<;>omega
   .have I:((x:Int)==0)=ζ:=ae;go_wp2;go_ret;refine⟨⟨_,rfl,_,_,_,rfl,?_⟩,rfl⟩;rw[<-H.o,D.o,T.o,Bc F.o G];exact h.take aa aa aa
def nZ (a b:Nat):Int:=if a<b then-1 else if b<a then 1 else 0
def Am{a b}(ha:Dig a)(j:Canon b)(h:a.length<b.length):val a<val b:=by
 have B:=mW ha;have l:=Ka j (by intro e;simp[e] at h);have C:=Ab (n:=4294967296) aa (show a.length<=b.length-1 by omega);omega
def vg{a b k x y}(ha:Dig a)(J:a[k]? =γ x)(R:b[k]? =γ y)(h:a.drop (k+1)=b.drop (k+1))(j:x<y):val a<val b:=by
 obtain⟨G,rfl⟩:=μ.1 J;obtain⟨F,rfl⟩:=μ.1 R;have l:=iy a (k+1) aa;have D:=iy b (k+1) aa;rw[bU J] at l;rw[bU R,<-h] at D;have C:=mW (ha.take k);rw[Be,aao aa] at C;have B:4294967296^k*(a[k]+1)<=4294967296^k*b[k]:=Ω _ j;rw[ω,aaq] at B;omega
def ER{a b:List Nat}{k x}(J:a[k]? =γ x)(R:b[k]? =γ x)(h:a.drop (k+1)=b.drop (k+1)):a.drop k=b.drop k:=by
 obtain⟨B,j⟩:=μ.1 J;obtain⟨l,C⟩:=μ.1 R;rw[aaC B,aaC l,j,C,h]
def AC{a b}(h:a<b): -1=nZ a b:=by simp[nZ,h]
def AU{a b}(h:b<a):1=nZ a b:=by simp[nZ,h];omega
def Mw{a b}(h:a=b):0=nZ a b:=by simp[nZ,h]
def iY(A B n m c d a b w)(F:RM w A n c a)(G:RM w B m d b)(C:Canon a)(Y:Canon b):
  CE 97 #[aO A n c,aO B m d] w (.int .i64 (nZ (val a) (val b))):=by
 have hn:n<=9223372036854775807:=Ξ F.nc F.cm;have hm:m<=9223372036854775807:=Ξ G.nc G.cm;have P:=aW F.len;have O:=aW G.len;rcases ab6 n m with L|T|N
 .have l:((n:Int) !=m)=ε:=ae;go_enter aeJ,adX;exact Acp
 .subst T;go_enter aeJ,adX;exact Aao
 .have l:((n:Int) !=m)=ε:=ae;go_enter aeJ,adX;exact AcR
def iP(A B n m c d a b w)(F:RM w A n c a)(G:RM w B m d b)(C:Canon a)(Y:Canon b):
  CE 113 #[aO A n c,aO B m d] w (.int .i64 (nZ (val a) (val b))):=by
 have hn:n<=9223372036854775807:=Ξ F.nc F.cm;have hm:m<=9223372036854775807:=Ξ G.nc G.cm;have P:=aW F.len;have O:=aW G.len;rcases ab6 n m with L|T|N
 .have l:((n:Int) !=m)=ε:=ae;go_enter adY,ady;exact Acp
 .subst T;go_enter adY,ady;exact Aao
 .have l:((n:Int) !=m)=ε:=ae;go_enter adY,ady;exact AcR
def kL:Elem prog 38 208 1 4:=afa ab8 (z:=.int .u32 0) ah rfl aa
def afs{w base n v l}(h:w.ownsRow base 208 1 v n (mg l))(hd:Dig l):SlM l v w:=by
 obtain⟨A,c,rfl,B,j,C⟩:=jD h;exact⟨A,n,c,rfl,C,hd,B,j⟩
def SlM.ext{w w' l v}(h:SlM l v w)(e:Ext w w'):SlM l v w':=by
 obtain⟨A,n,c,B,j⟩:=h;exact⟨A,n,c,B,j.ext e⟩
def zh(A n c l w)(h:RM w A n c l)(hn:n<=1000000):
  Calls prog 179 #[aO A n c] w fun e w'=>∃v,e=.returned v/\(SlM (dF (val l)) v w'/\∀g,v.ownBlock=γ g->w.heap.size<=g)/\Ext w w':=by
 have B:=h.nc;have F:=h.cm;have S:=aW h.len;have V:=aW (MO h.dg);go_enter func179,ntmps179;go_wp2;go_loop [3] (fun i=>∃k:Nat,k<=n/\i=.int .i64 k/\jl l n=jl l k) (fun i=>(intOf i).toNat)
 case atStart=>exact⟨n,κ _,rfl,rfl⟩
 case round=>
  obtain⟨k,Q,rfl,I⟩:=hrel;have T:=aW I;clear I;have fin:∀j,j<=n->jl l j=j->jl l k=jl l j->RM w A j c (dF (val l)):=fun j U R O=>by
   have:=h.take (k:=j) (c':=c) U aa F;rwa[<-V.o,S.o,T.o,O,R]
  by_cases P:k=0
  .subst P;have H:=aW (fin 0 aa rfl rfl);clear fin;cases A
   all_goals
    (go_wp2_with (at_builtin;refine jk kL rfl (.tmp 18) (.tmp 21) rfl w.heap.size _ 0 [] rf (aaZ _ _ _ aa aa ag) _ 0 _ (mg (dF (val l))) rf (H.ext (Ext.new w _)).rd Cg aa aa ag ?_));exact Aa4
  .obtain⟨j,rfl⟩:∃j,k=j+1:=⟨k-1,aa⟩;obtain⟨W,x,rfl,hb,J,M,K⟩:=h.at_ (k:=j) aa;have L:=aW J;clear J;by_cases G:x=0
   .subst G;clear fin;go_wp2;go_round
    case rel=>exact⟨j,aa,au,by rw[T.o,BQ L.o]⟩
    case measure=>simp[aT,intOf]<;>omega
   .have N:((x:Int)==0)=ζ:=ae;have H:=aW (fin (j+1) Q (Bc L.o G) rfl);clear fin;(go_wp2_with (at_builtin;refine jk kL rfl (.tmp 18) (.tmp 21) rfl w.heap.size _ 0 [] rf (aaZ _ _ _ aa aa ag) _ (j+1) _ (mg (dF (val l))) rf (H.ext (Ext.new w _)).rd Cg aa aa ag ?_));exact Aa4
def iU(A n c l w)(h:RM w A n c l)(hn:n<=1000000):
  CV 179 #[aO A n c] w fun v w'=>SlM (dF (val l)) v w':=
 (zh A n c l w h hn).mono fun _ _ ⟨v,B,j,C⟩=>⟨v,B,j.1,C⟩
abbrev iv (neg:Bool) (A:Option Addr) (n c:Nat):Value:=.agg #[neg,aO A n c]
def RM.at3{w A n c k l}(h:RM w A n c l)(D:k<n):
  ∃C x,A=γ C/\l[k]? =γ x/\x<4294967296/\w.cell? (C.add k)=γ (.int .u32 (x:Int))/\(∀o,(w.alloc o).cell? (C.add k)=γ (.int .u32 (x:Int)))/\
   (∀o B,((w.alloc o).alloc B).cell? (C.add k)=γ (.int .u32 (x:Int)))/\(∀o B j,(((w.alloc o).alloc B).alloc j).cell? (C.add k)=γ (.int .u32 (x:Int))):=by
 obtain⟨C,x,e,hb,J,M,hc⟩:=h.at_ D;exact⟨C,x,e,J,M,hc,fun o=>(Ext.new w o).cell_ hc,fun o B=>((Ext.new w o).alloc B).cell_ hc,fun o B j=>(((Ext.new w o).alloc B).alloc j).cell_ hc⟩
def lJ (neg:Bool) (l:List Nat):Bool:=if l.length=0 then !neg else decide (l.length<=400)&&l.getD (l.length-1) 0 !=0
def zX{neg l}(h:l.length=0):lJ neg l= !neg:=by simp[lJ,h]
def zu{neg l}(h:400<l.length):lJ neg l=ζ:=by
 have:¬l.length=0:=aa;simp[lJ,this];omega
def vo{neg l j x}(h:l.length=j+1)(B:j+1<=400)(J:l[j]? =γ x):lJ neg l=(x !=0):=by
 have:¬l.length=0:=aa;simp only[lJ,h,Nat.add_sub_cancel,AL J];simp[B]
def iB(neg A n c l w)(h:RM w A n c l):
  CE 96 #[iv neg A n c] w (.bool (lJ neg l)):=by
 have hn:n<=9223372036854775807:=Ξ h.nc h.cm;have F:=aW h.len;by_cases N:n=0
 .subst N;cases neg
  all_goals
   go_enter func96,ntmps96;go_wp2;go_ret;exact⟨bE (by rw[zX F.o];rfl),Ext.new _ _⟩
 .obtain⟨j,rfl⟩:∃j,n=j+1:=⟨n-1,aa⟩;have L:(((j+1:Nat):Int)==0)=ζ:=ae;have B:((j:Int)+1==0)=ζ:=ae;by_cases H:j+1<=400
  .obtain⟨P,x,rfl,J,M,_,O,_,_⟩:=h.at3 (k:=j) aa;have K:=aW J;clear J;by_cases G:x=0
   .subst G;have C:lJ neg l=ζ:=by rw[vo F.o H K.o];rfl
    have D:=aW C;clear C;exact Acs
   .have I:((x:Int) !=0)=ε:=ae;have C:lJ neg l=ε:=by rw[vo F.o H K.o];simp[G]
    have D:=aW C;clear C;exact Acs
  .have D:=aW (zu (neg:=neg) (l:=l) (by rw[F.o];omega));exact Acs
def fF(neg A n c l w)(h:RM w A n c l):
  CE 178 #[iv neg A n c] w (.bool (lJ neg l)):=by
 have hn:n<=9223372036854775807:=Ξ h.nc h.cm;have F:=aW h.len;by_cases N:n=0
 .subst N;cases neg
  all_goals
   go_enter func178,ntmps178;go_wp2;go_ret;exact⟨bE (by rw[zX F.o];rfl),Ext.new _ _⟩
 .obtain⟨j,rfl⟩:∃j,n=j+1:=⟨n-1,aa⟩;have L:(((j+1:Nat):Int)==0)=ζ:=ae;have B:((j:Int)+1==0)=ζ:=ae;by_cases H:j+1<=400
  .obtain⟨P,x,rfl,J,M,_,O,_,_⟩:=h.at3 (k:=j) aa;have K:=aW J;clear J;by_cases G:x=0
   .subst G;have C:lJ neg l=ζ:=by rw[vo F.o H K.o];rfl
    have D:=aW C;clear C;exact Acn
   .have I:((x:Int) !=0)=ε:=ae;have C:lJ neg l=ε:=by rw[vo F.o H K.o];simp[G]
    have D:=aW C;clear C;exact Acn
  .have D:=aW (zu (neg:=neg) (l:=l) (by rw[F.o];omega));exact Acn
def RX (w:World) (v:Value) (neg:Bool) (l:List Nat):Prop:=∃A n c,v=iv neg A n c/\RM w A n c l
def RX.ext{w w' v neg l}(h:RX w v neg l)(e:Ext w w'):RX w' v neg l:=by
 obtain⟨A,n,c,B,j⟩:=h;exact⟨A,n,c,B,j.ext e⟩
def DN:Nat:=400
def lim:Nat:=4294967296^DN
def SK{m k}(h:m<4294967296^k)(j:k<=400):m<lim:=ο h (Ab aa (show k<=DN from j))
theorem jY{m}(h:m<lim):(dF m).length<=400:=show(dF m).length<=DN from eG (k:=DN) (by unfold lim at h;exact h)
def RI (w:World) (v:Value) (z:Int):Prop:=RX w v (decide (z<0)) (dF z.natAbs)
def RI.ext{w w' v z}(h:RI w v z)(e:Ext w w'):RI w' v z:=RX.ext h e
def RI.zero(w):RI w (iv ζ δ 0 0) 0:=⟨δ,0,0,rfl,by simpa[iT] using afm⟩
def zOf (neg:Bool) (m:Nat):Int:=if neg then-(m:Int) else m
theorem vk(neg m):(zOf neg m).natAbs=m:=by unfold zOf;split<;>omega
def TZ(neg m):decide (zOf neg m<0)=(neg&&decide (0<m)):=by
 cases neg
 .simp[zOf]
 .simp[zOf]
def RX.made{w A n c m}(neg)(h:RM w A n c (dF m)):RI w (iv (neg&&decide (0<n)) A n c) (zOf neg m):=by
 refine⟨A,n,c,?_,by rw[vk];exact h⟩;have Z:=h.len;rw[TZ];have e:decide (0<n)=decide (0<m):=by
  by_cases j:m=0
  .subst j;rw[iT] at Z;obtain rfl:n=0:=by simpa using Z.symm
   rfl
  .have B:dF m≠[]:=fun e=>j (oC.1 e);have l:0<n:=by rw[<-Z];exact acB.2 B
   rw[Δ l,Δ aa]
 rw[e]
theorem ae3{w v z}(j:RI w v z)(F:z.natAbs<lim):lJ (decide (z<0)) (dF z.natAbs)=ε:=by
 unfold lJ;have C:(dF z.natAbs).length<=400:=jY F;split
 .rename_i B
  have:=oC.1 (I5 B);simp;omega
 .rename_i B
  have l:(dF z.natAbs)[(dF z.natAbs).length-1]? =γ (dF z.natAbs)[(dF z.natAbs).length-1]:=ν aa;have D:=bX z.natAbs _ (by rw[abX];exact l);simp only[ρ,Θ,bne_iff_ne,AL l];exact⟨C,D⟩
def RM.only{w w' A n c g l t cs}(h:RM w A n c l)(F:Only g w w')(hb:Blk w g t cs)(D:∀(j:Nat) (k:IntKind) (x:Int),cs[j]?≠γ (.int k x)):RM w' A n c l:=by
 refine⟨⟨h.rd.1,fun hn=> ?_⟩,h.dg,h.nc,h.cm⟩;obtain⟨b,o,rfl,B,hc⟩:=h.rd.plain hn;obtain⟨H,x,e,_,J,_,_⟩:=h.at_ hn;have C:b≠g:=by
  rintro rfl;have:=hc 0 _ (p9 J);rw[hb.cell] at this;exact D _ _ _ this
 refine⟨_,rfl,ο B F.size,fun j u G=> ?_⟩;rw[add_plain];exact F.cell_ (hc j u G) C
def V4{b A n c}:∀(j:Nat) (k:IntKind) (x:Int),#[Value.bool b,Value.slice A n c][j]?≠γ (.int k x):=by
 intro j k x
 match j with
 |0=>simp
 |1=>simp
 |j+2=>simp
def jJ{w w' g B A0 n0 c0}(J:Ext w w')(j:w.heap.size<=g)(hb:Blk w' g 40 #[.bool B,aO A0 n0 c0])(b A n c):
  Ext w ((w'.setCell ⟨g,0,δ⟩ (.bool b)).setCell ⟨g,1,δ⟩ (.slice A n c))/\Blk ((w'.setCell ⟨g,0,δ⟩ (.bool b)).setCell ⟨g,1,δ⟩ (.slice A n c)) g 40 #[.bool b,aO A n c]/\
   ∀A' n' c' l,RM w' A' n' c' l->RM ((w'.setCell ⟨g,0,δ⟩ (.bool b)).setCell ⟨g,1,δ⟩ (.slice A n c)) A' n' c' l:=
 ⟨(J.setCell j _).setCell j _,(hb.mM 0 _).mM 1 _,fun _ _ _ _ h=>h.only ((Only.set _ _ _ _).trans (Only.set _ _ _ _)) hb V4⟩
def xm{w g b A n c}(hb:Blk w g 40 #[.bool b,aO A n c]):(loadVar 40 ⟨g,0,δ⟩).run prog w=.ok (iv b A n c) w:=by
 have hc:=hb.cell;simp[go_sem,hc]
section
variable {fn:Func} {R:Ending->World->Prop} {a:Act} {w:World} {t u x g g':Nat} {b b':Bool} {A A':Option Addr} {n c n' c':Nat}
def fH(l:fn.results= #[.cell t 40])(hd:a.defers=[])(hp:a.tmps[t]?.getD undef=.pointer (γ (aM g 0)))(hb:Blk w g 40 #[.bool b,aO A n c])(j:R (.returned (iv b A n c)) w):bodyPost prog fn R .ret a w:=aak (by simp[results,l,hp,asAddr,xm hb]) hd j
def iF(l:fn.results= #[.cell t 40,.tmp u])(hd:a.defers=[])(hp:a.tmps[t]?.getD undef=.pointer (γ (aM g 0)))(hb:Blk w g 40 #[b,aO A n c])(j:R (.returned (.tuple #[iv b A n c,a.tmps.getD u undef])) w):bodyPost prog fn R .ret a w:=aak (v:=.tuple #[iv b A n c,a.tmps.getD u undef]) (by simp[results,l,hp,asAddr,xm hb]) hd j
def yl(l:fn.results= #[.cell t 40,.cell u 40,.tmp x])(hd:a.defers=[])(hp:a.tmps[t]?.getD undef=.pointer (γ (aM g 0)))(hb:Blk w g 40 #[b,aO A n c])(J:a.tmps[u]?.getD undef=.pointer (γ (aM g' 0)))(Q:Blk w g' 40 #[b',aO A' n' c'])(j:R (.returned (.tuple #[iv b A n c,iv b' A' n' c',a.tmps.getD x undef])) w):bodyPost prog fn R .ret a w:=
 aak (v:=.tuple #[iv b A n c,iv b' A' n' c',a.tmps.getD x undef]) (by simp[results,l,hp,J,asAddr,xm hb,xm Q]) hd j
end
def iE(neg A n c l w)(h:RM w A n c l)(hn:n<=1000000):
  CV 150 #[.bool neg,aO A n c] w fun v w'=>RI w' v (zOf neg (val l)):=by
 go_enter func150,ntmps150;go_wp2_with fail;refine(iU A n c l _ (h.ext (Ext.new w _)) hn).mono ?_;rintro e w1 ⟨v1,rfl,⟨A1,n1,c1,rfl,F⟩,H⟩;have K:n1<=9223372036854775807:=Ξ F.nc F.cm;have hb:=(Blk.new w 40 _).ext H;have hc:=hb.cell;have L:=hb.frozen;obtain⟨C,J,I⟩:=jJ ((Ext.new w _).trans H) (κ _) hb (neg&&decide (0<n1)) A1 n1 c1;have B:=aW C;have j:=aW J;have D:=aW (RX.made neg (I _ _ _ _ F));clear C J I;by_cases G:0<n1
 all_goals
  cases neg
  all_goals
   go_wp2
   first
    |simp only[abv,ab4,π G] at B j D
    |simp only[abv,ab4,Δ G] at B j D
   exact fH rfl rfl rfl j.o ⟨_,rfl,D.o,B.o⟩
def qi (z:Int):Int×Int:=if z.natAbs<lim then (z,0) else (0,2)
theorem kT{z}(h:z.natAbs<lim):qi z=(z,0):=by unfold qi;rw[ι h]
theorem MJ{z}(h:¬z.natAbs<lim):qi z=(0,2):=by unfold qi;rw[θ h]
def mO (p:Int×Int) (v:Value) (w:World):Prop:=∃u,v=.tuple #[u,p.2]/\RI w u p.1
def mO.ext{w w' v}{p:Int×Int}(h:mO p v w)(e:Ext w w'):mO p v w':=by
 obtain⟨u,l,j⟩:=h;exact⟨u,l,j.ext e⟩
def BZ{m n}(h:(dF m).length=n):n<=400↔m<lim:=
 ⟨fun j=>SK (eD (k:=n) aa) j,fun j=>by have:=jY j;omega⟩
def kJ(A n c l w)(h:RM w A n c l):
  CV 174 #[aO A n c] w fun v w'=>SlM (dF (val l)) v w':=
 (SA A n c l w h).mono fun _ _ ⟨⟨v,C,B⟩,j⟩=>⟨v,C,j ▸ B,j ▸ Ext.refl _⟩
def iV(neg A n c l w)(h:RM w A n c l):
  CV 203 #[.bool neg,aO A n c] w fun v w'=>mO (qi (zOf neg (val l))) v w':=by
 go_enter func203,ntmps203;go_wp2_with fail;refine(kJ A n c l _ (h.ext (Ext.new w _))).mono ?_;rintro e w1 ⟨v1,rfl,⟨A1,n1,c1,rfl,J⟩,H⟩;have hb:=(Blk.new w 40 _).ext H;have hc:=hb.cell;have P:=hb.frozen;have O:n1<=9223372036854775807:=Ξ J.nc J.cm;have j:=BZ J.len;have B:=vk neg (val l);by_cases N:n1<=400
 .obtain⟨C,I,M⟩:=jJ ((Ext.new w _).trans H) (κ _) hb (neg&&decide (0<n1)) A1 n1 c1;have F:=aW C;have D:=aW I;have K:=aW (RX.made neg (M _ _ _ _ J));clear C I M;have G:=aW (kT (z:=zOf neg (val l)) (by rw[B];exact j.1 N));clear j B;by_cases L:0<n1
  all_goals
   cases neg
   all_goals
    go_wp2
    first
     |simp only[abv,ab4,π L] at F D K
     |simp only[abv,ab4,Δ L] at F D K
    exact iF rfl rfl rfl D.o ⟨_,rfl,⟨_,by rw[G.o];rfl,by rw[G.o];exact K.o⟩,F.o⟩
 .have G:=aW (MJ (z:=zOf neg (val l)) (by rw[B];exact fun h=>N (j.2 h)));clear j B;obtain⟨C,I,_⟩:=jJ ((Ext.new w _).trans H) (κ _) hb ζ δ 0 0;have F:=aW C;have D:=aW I;clear C I;go_wp2;exact iF rfl rfl rfl D.o ⟨_,rfl,⟨_,by rw[G.o];rfl,by rw[G.o];exact RI.zero _⟩,F.o⟩
def kz(v z w)(h:RI w v z):
  CV 183 #[v] w fun v w'=>mO (qi z) v w':=by
 obtain⟨A,n,c,rfl,B⟩:=h;have hn:n<=9223372036854775807:=Ξ B.nc B.cm;have j:=BZ B.len;by_cases C:n<=400
 .have l:=aW (kT (z:=z) (j.1 C));clear j;go_enter func183,ntmps183;go_wp2;exact iF rfl rfl rfl (aeW _ _ ag) ⟨_,rfl,⟨_,by rw[l.o];rfl,by rw[l.o];exact⟨_,_,_,rfl,B.ext ((Ext.new _ _).alloc _)⟩⟩,(Ext.new _ _).alloc _⟩
 .have l:=aW (MJ (z:=z) (fun h=>C (j.2 h)));clear j;go_enter func183,ntmps183;go_wp2;exact iF rfl rfl rfl (aeW _ _ ag) ⟨_,rfl,⟨_,by rw[l.o];rfl,by rw[l.o];exact RI.zero _⟩,(Ext.new _ _).alloc _⟩
def RM.blk{w g n l}(hb:Blk w g 208 (mg l).toArray)(hd:Dig l)(hn:l.length=n)(j:n<=9223372036854775807):RM w (γ ⟨g,0,δ⟩) n n l:=by
 have:=hb.reads (n:=n) (size:=1) (by simp[qX,hn]);exact⟨by simpa using this,hd,κ _,j⟩
def Fb(u):val [u%4294967296,u/4294967296]=u:=by simp only[val];omega
def Fj{u}(h:u<18446744073709551616):Dig [u%4294967296,u/4294967296]:=Dig.cons aa (Dig.one aa)
def jS(n):IntKind.u64.wrap n=n%18446744073709551616:=by simp[IntKind.wrap,IntKind.signed,IntKind.bits]
def u64_neg{m:Nat}(h:m<=9223372036854775808):IntKind.u64.wrap (-IntKind.u64.wrap (-(m:Int)))=(m:Int):=by
 rw[jS,jS];omega
def PS(u:Nat): #[Value.int .u32 ((u:Int)%4294967296),Value.int .u32 ((u:Int)/4294967296)]=(mg [u%4294967296,u/4294967296]).toArray:=by
 simp[mg]
def U6{u:Nat}(h:u<18446744073709551616): #[Value.int .u32 ((u:Int)%4294967296),Value.int .u32 ((u:Int)/4294967296%4294967296)]=(mg [u%4294967296,u/4294967296]).toArray:=by
 simp[mg];omega
def qL(u:Nat)(w)(l:u<18446744073709551616):
  CV 151 #[.int .u64 (u:Int)] w fun v w'=>SlM (dF u) v w':=by
 go_enter func151,ntmps151;go_wp2_with fail;rw[PS];refine(iU _ 2 2 _ _ (RM.blk (Blk.new _ _ _) (Fj l) rfl aa) aa).mono ?_;rintro e w1 ⟨v1,rfl,j,H⟩;rw[Fb] at j;go_wp2;go_ret;exact⟨_,rfl,j,(Ext.new _ _).trans H⟩
def AQ(m):zOf ζ m=(m:Int):=rfl
def F4(m):zOf ε m= -(m:Int):=rfl
def CL(n w)(M: -9223372036854775808<=n)(K:n<=9223372036854775807):
  CV 140 #[.int .i64 n] w fun v w'=>RI w' v n:=by
 by_cases L:n<0
 .obtain⟨m,rfl⟩:∃m:Nat,n= -(m:Int):=⟨n.natAbs,aa⟩;go_enter func140,ntmps140;go_wp2_with fail;rw[u64_neg aa,U6 aa];refine(kJ _ 2 2 _ _ (RM.blk (aeW _ _ ag) (Fj aa) rfl aa)).mono ?_;rintro e w1 ⟨v1,rfl,⟨A1,n1,c1,rfl,j⟩,H⟩;rw[Fb] at j;have hb:=((Blk.new w 40 _).alloc _).ext H;have hc:=hb.cell;have J:=hb.frozen;obtain⟨C,D,l⟩:=jJ (((Ext.new w _).alloc _).trans H) (κ _) hb ε A1 n1 c1;have I:=aW C;have G:=aW D;have B:=aW (RX.made ε (l _ _ _ _ j));clear C D l;have F:0<n1:=by
   have:=j.len;rw[<-this];exact acB.2 fun e=>by have:=oC.1 e;omega
  rw[Δ F,abv,F4] at B;go_wp2;exact fH rfl rfl rfl G.o ⟨_,rfl,B.o,I.o⟩
 .obtain⟨m,rfl⟩:∃m:Nat,n=(m:Int):=⟨n.natAbs,aa⟩;go_enter func140,ntmps140;go_wp2_with fail;rw[PS];refine(kJ _ 2 2 _ _ (RM.blk (aeW _ _ ag) (Fj aa) rfl aa)).mono ?_;rintro e w1 ⟨v1,rfl,⟨A1,n1,c1,rfl,j⟩,H⟩;rw[Fb] at j;have hb:=((Blk.new w 40 _).alloc _).ext H;have hc:=hb.cell;have J:=hb.frozen;obtain⟨C,D,l⟩:=jJ (((Ext.new w _).alloc _).trans H) (κ _) hb ζ A1 n1 c1;have I:=aW C;have G:=aW D;have B:=aW (RX.made ζ (l _ _ _ _ j));clear C D l;rw[ab4,AQ] at B;go_wp2;exact fH rfl rfl rfl G.o ⟨_,rfl,B.o,I.o⟩
def Ql:(prog.info? 208).map (fun i=>(i.zero,i.size,i.bytes))=γ (γ (.int .u32 0),1,4):=ah
def jN(x:Int)(k:Nat)(J:x=k)(B:k<=10000000)(W:World):
  (Instr.makeSlice 38 (.int .i64 x) (.int .i64 x)).run prog W=.ok (.slice (γ (aM W.heap.size 0)) k k) (W.alloc (.cells (mg (List.replicate k 0)).toArray 208)):=by
 obtain⟨i0,M,j,l,O⟩:=abL Ql;have h:=ac8 (P:=prog) W 38 208 i0 (.int .u32 0) ab8 M j .i64 .i64 x x aa aa Abf aa;subst J;rw[h,FK];have e:madeCells (Value.int .u32 0).cells k=(List.replicate k (Value.int .u32 0)).toArray:=vN _ _;simp only[l,aaq,Ex,e]
def uy{o k N d}(j:o.length=k)(l:k<N):(o++List.replicate (N-k) 0).set k d=(o++[d])++List.replicate (N-(k+1)) 0:=by
 subst j;rw[show N-o.length=(N-(o.length+1))+1 by omega,aaJ];simp
def Gp{l:List Nat}{k d:Nat}{z:Int}(h:z=(d:Int)):(mg l).set k (.int .u32 z)=mg (l.set k d):=by subst h;exact VV l k d
def lY{w:World}{g k N d:Nat}{o:List Nat}{z:Int}(hb:Blk w g 208 (mg (o++List.replicate (N-k) 0)).toArray)(l:o.length=k)(j:k<N)(B:z=(d:Int)):
  Blk (w.setCell ⟨g,k,δ⟩ (.int .u32 z)) g 208 (mg ((o++[d])++List.replicate (N-(k+1)) 0)).toArray:=by
 have:=hb.QD (i:=k) (.int .u32 z);rwa[Gp B,uy l j] at this
def rz{w g k N o}(hb:Blk w g 208 (mg (o++List.replicate (N-k) 0)).toArray)(j:o.length=k)(l:k<N):∃u,w.cell? (aM g k)=γ u:=by
 exact hb.Pk (by simp[qX,j];omega)
def xB{o a b:List Nat}{k G x y}(j:o.length=k)(h:val o+4294967296^k*G=val (a.take k)+val (b.take k))(J:a[k]? =γ x)(R:val (b.take (k+1))=val (b.take k)+4294967296^k*y):
  val (o++[(x+G+y)%4294967296])+4294967296^(k+1)*((x+G+y)/4294967296)=val (a.take (k+1))+val (b.take (k+1)):=by
 rw[ky,bU J,R,j,wN,φ];have e:4294967296^k*((x+G+y)%4294967296)+4294967296^k*(4294967296*((x+G+y)/4294967296))=4294967296^k*(x+G+y):=by
  exact Aby
 have l:4294967296^k*(x+G+y)=4294967296^k*x+4294967296^k*G+4294967296^k*y:=by rw[ω,ω]
 omega
def lX{b:List Nat}{m k}(h:b.length=m)(j:¬k<m):val (b.take (k+1))=val (b.take k)+4294967296^k*0:=by rw[vP aa];rfl
def Oc(A B n m c d a b w)(W:RM w A n c a)(hB:RM w B m d b)(hn:n<=1000000)(hm:m<=1000000)(l:m<=n):
  CV 214 #[aO A n c,aO B m d] w fun v w'=>SlM (dF (val a+val b)) v w':=by
 have HA:=aW W.len;have U:=aW hB.len;have S:=jN ((n:Int)+1) (n+1) aa aa;go_enter func214,ntmps214;go_wp2;clear S;go_loopw [6,22] (fun cv i wr=>∃(k G:Nat) (o:List Nat),k<=n/\i=.int .i64 k/\cv=.int .u64 (G:Int)/\G<=1/\o.length=k/\Dig o/\val o+4294967296^k*G=val (a.take k)+val (b.take k)/\
   Blk wr w.heap.size 208 (mg (o++List.replicate (n+1-k) 0)).toArray/\Ext w wr) (fun _ i _=>n-(intOf i).toNat)
 case atStart=>exact⟨0,0,[],q9 _,rfl,rfl,aa,rfl,ae9,by simp[val],by simpa using Blk.new w _ _,Ext.new _ _⟩
 case round=>
  obtain⟨k,G,o,hk,rfl,rfl,YB,N,hd,hv,hb,D⟩:=hrel;have Q:=aW hv;clear hv;have L:=aW N;have T:=aW hd;clear hd;by_cases P:k<n
  .obtain⟨ad,x,rfl,_,J,M,K⟩:=(W.ext D).at_ P;have HX:=aW J;clear J;obtain⟨old,c7⟩:=rz hb N aa;have f7:=hb.frozen k;clear N;have C:=aW hb;clear hb;by_cases F:k<m
   .obtain⟨bd,y,rfl,_,R,I,Y⟩:=(hB.ext D).at_ F;have HY:=aW R;clear R;go_wp2;go_roundw
    case rel=>
     refine⟨k+1,(x+G+y)/4294967296,o++[(x+G+y)%4294967296],aa,au,au,aa,by simp[L.o],T.append (Dig.one aa),xB L.o Q.o HX.o (bU HY.o),lY C.o L.o aa aa,D.setCell (κ _) _⟩
    case measure=>simp[aT,intOf]<;>omega
   .go_wp2;go_roundw
    case rel=>
     refine⟨k+1,(x+G+0)/4294967296,o++[(x+G+0)%4294967296],aa,au,au,aa,by simp[L.o],T.append (Dig.one aa),xB L.o Q.o HX.o (lX U.o F),lY C.o L.o aa aa,D.setCell (κ _) _⟩
    case measure=>simp[aT,intOf]<;>omega
  .obtain rfl:k=n:=aa;obtain⟨old,c7⟩:=rz hb N aa;have f7:=hb.frozen k;clear N;have C:=aW hb;clear hb;go_wp2_with fail;have O:=lY (d:=G) C.o L.o aa rfl;have j:=D.setCell (p:=aM w.heap.size k) (κ _) (.int .u32 (G:Int));simp only[aaW,aa3,Z6] at O;have V:val (o++[G])=val a+val b:=by
    exact Ab6
   exact AaW
def Oe(A B n m c d a b w)(W:RM w A n c a)(hB:RM w B m d b)(hn:n<=1000000)(hm:m<=1000000)(l:n<m):
  CV 214 #[aO A n c,aO B m d] w fun v w'=>SlM (dF (val b+val a)) v w':=by
 have HA:=aW hB.len;have U:=aW W.len;have S:=jN ((m:Int)+1) (m+1) aa aa;go_enter func214,ntmps214;go_wp2;clear S;go_loopw [6,22] (fun cv i wr=>∃(k G:Nat) (o:List Nat),k<=m/\i=.int .i64 k/\cv=.int .u64 (G:Int)/\G<=1/\o.length=k/\Dig o/\val o+4294967296^k*G=val (b.take k)+val (a.take k)/\
   Blk wr w.heap.size 208 (mg (o++List.replicate (m+1-k) 0)).toArray/\Ext w wr) (fun _ i _=>m-(intOf i).toNat)
 case atStart=>exact⟨0,0,[],q9 _,rfl,rfl,aa,rfl,ae9,by simp[val],by simpa using Blk.new w _ _,Ext.new _ _⟩
 case round=>
  obtain⟨k,G,o,hk,rfl,rfl,YB,N,hd,hv,hb,D⟩:=hrel;have Q:=aW hv;clear hv;have L:=aW N;have T:=aW hd;clear hd;by_cases P:k<m
  .obtain⟨ad,x,rfl,_,J,M,K⟩:=(hB.ext D).at_ P;have HX:=aW J;clear J;obtain⟨old,c7⟩:=rz hb N aa;have f7:=hb.frozen k;clear N;have C:=aW hb;clear hb;by_cases F:k<n
   .obtain⟨bd,y,rfl,_,R,I,Y⟩:=(W.ext D).at_ F;have HY:=aW R;clear R;go_wp2;go_roundw
    case rel=>
     refine⟨k+1,(x+G+y)/4294967296,o++[(x+G+y)%4294967296],aa,au,au,aa,by simp[L.o],T.append (Dig.one aa),xB L.o Q.o HX.o (bU HY.o),lY C.o L.o aa aa,D.setCell (κ _) _⟩
    case measure=>simp[aT,intOf]<;>omega
   .go_wp2;go_roundw
    case rel=>
     refine⟨k+1,(x+G+0)/4294967296,o++[(x+G+0)%4294967296],aa,au,au,aa,by simp[L.o],T.append (Dig.one aa),xB L.o Q.o HX.o (lX U.o F),lY C.o L.o aa aa,D.setCell (κ _) _⟩
    case measure=>simp[aT,intOf]<;>omega
  .obtain rfl:k=m:=aa;obtain⟨old,c7⟩:=rz hb N aa;have f7:=hb.frozen k;clear N;have C:=aW hb;clear hb;go_wp2_with fail;have O:=lY (d:=G) C.o L.o aa rfl;have j:=D.setCell (p:=aM w.heap.size k) (κ _) (.int .u32 (G:Int));simp only[aaW,aa3,Z6] at O;have V:val (o++[G])=val b+val a:=by
    exact Ab6
   exact AaW
def BO(A B n m c d a b w)(C:RM w A n c a)(l:RM w B m d b)(hn:n<=1000000)(j:m<=1000000):
  CV 214 #[aO A n c,aO B m d] w fun v w'=>SlM (dF (val a+val b)) v w':=by
 rcases Na n m with h|h
 .rw[abl];exact Oe A B n m c d a b w C l hn j h
 .exact Oc A B n m c d a b w C l hn j h

def qF (t:Int):Nat:=(t%4294967296).toNat
def oO (t:Int):Nat:=if t<0 then 1 else 0
theorem vw(t):qF t<4294967296:=by unfold qF;omega
theorem Qk{x j:Nat}(J:x<4294967296)(hb:j<=1):IntKind.u64.wrap ((x:Int)-j)%4294967296=(qF ((x:Int)-j-(0:Nat)):Int):=by
 rw[jS];unfold qF;omega
theorem Sq{x j:Nat}(J:x<4294967296)(hb:j<=1):IntKind.u64.wrap ((x:Int)-j)/9223372036854775808=(oO ((x:Int)-j-(0:Nat)):Int):=by
 rw[jS];unfold oO;split<;>omega
theorem LW{x y j:Nat}(J:x<4294967296)(R:y<4294967296)(hb:j<=1):IntKind.u64.wrap (IntKind.u64.wrap ((x:Int)-j)-y)%4294967296=(qF ((x:Int)-j-y):Int):=by
 rw[jS,jS];unfold qF;omega
theorem J8{x y j:Nat}(J:x<4294967296)(R:y<4294967296)(hb:j<=1):IntKind.u64.wrap (IntKind.u64.wrap ((x:Int)-j)-y)/9223372036854775808=(oO ((x:Int)-j-y):Int):=by
 rw[jS,jS];unfold oO;split<;>omega
theorem FR{x y j:Nat}(J:x<4294967296)(R:y<4294967296)(hb:j<=1):x+4294967296*oO ((x:Int)-j-y)=y+j+qF ((x:Int)-j-y):=by
 unfold qF oO;split<;>omega
def xk{o a b:List Nat}{k j x y}(l:o.length=k)(h:val (a.take k)+4294967296^k*j=val (b.take k)+val o)(J:a[k]? =γ x)(R:val (b.take (k+1))=val (b.take k)+4294967296^k*y)(M:x<4294967296)(I:y<4294967296)(hb:j<=1):
  val (a.take (k+1))+4294967296^(k+1)*oO ((x:Int)-j-y)=val (b.take (k+1))+val (o++[qF ((x:Int)-j-y)]):=by
 have B:=FR M I hb;rw[ky,bU J,R,l,wN,φ];have e:4294967296^k*x+4294967296^k*(4294967296*oO ((x:Int)-j-y))=4294967296^k*y+4294967296^k*j+4294967296^k*qF ((x:Int)-j-y):=by
  rw[<-ω,B,ω,ω]
 omega
def Nu{o a b k j}(B:o.length=k)(hd:Dig o)(ha:a.length=k)(hb:b.length<=k)(h:val (a.take k)+4294967296^k*j=val (b.take k)+val o)(F:val b<=val a):val o=val a-val b:=by
 rw[χ aa,χ hb] at h;have D:=mW hd;rw[B] at D;have C:j=0:=by
  rcases Bn j with l|l
  .exact l
  .have:4294967296^k*1<=4294967296^k*j:=Ω _ l;omega
 subst C;omega
theorem uN(t):oO t<=1:=by unfold oO;split<;>omega
def vU(A B n m c d a b w)(U:RM w A n c a)(Z:RM w B m d b)(hn:n<=1000000)(hm:m<=n)(O:val b<=val a):
  CV 215 #[aO A n c,aO B m d] w fun v w'=>SlM (dF (val a-val b)) v w':=by
 have HA:=aW U.len;have T:=aW Z.len;have S:=jN (n:Int) n rfl aa;go_enter func215,ntmps215;go_wp2;clear S;go_loopw [6,14] (fun cv i wr=>∃(k G:Nat) (o:List Nat),k<=n/\i=.int .i64 k/\cv=.int .u64 (G:Int)/\G<=1/\o.length=k/\Dig o/\val (a.take k)+4294967296^k*G=val (b.take k)+val o/\
   Blk wr w.heap.size 208 (mg (o++List.replicate (n-k) 0)).toArray/\Ext w wr) (fun _ i _=>n-(intOf i).toNat)
 case atStart=>exact⟨0,0,[],q9 _,rfl,rfl,aa,rfl,ae9,by simp[val],by simpa using Blk.new w _ _,Ext.new _ _⟩
 case round=>
  obtain⟨k,G,o,hk,rfl,rfl,j,P,hd,hv,hb,D⟩:=hrel;have Q:=aW hv;clear hv;have l:=aW P;have L:=aW hd;clear hd;by_cases N:k<n
  .obtain⟨ad,x,rfl,_,J,M,K⟩:=(U.ext D).at_ N;have HX:=aW J;clear J;obtain⟨old,c7⟩:=rz hb P aa;have f7:=hb.frozen k;clear P;have C:=aW hb;clear hb;by_cases F:k<m
   .obtain⟨bd,y,rfl,_,R,I,W⟩:=(Z.ext D).at_ F;have HY:=aW R;clear R;go_wp2;go_roundw
    case rel=>
     exact⟨k+1,oO ((x:Int)-G-y),o++[qF ((x:Int)-G-y)],aa,au,by rw[J8 M I j],uN _,by simp[l.o],L.append (Dig.one (vw _)),xk l.o Q.o HX.o (bU HY.o) M I j,lY C.o l.o aa (LW M I j),D.setCell (κ _) _⟩
    case measure=>simp[aT,intOf]<;>omega
   .go_wp2;go_roundw
    case rel=>
     exact⟨k+1,oO ((x:Int)-G-(0:Nat)),o++[qF ((x:Int)-G-(0:Nat))],aa,au,by rw[Sq M j],uN _,by simp[l.o],L.append (Dig.one (vw _)),xk l.o Q.o HX.o (lX T.o F) M aa j,lY C.o l.o aa (Qk M j),D.setCell (κ _) _⟩
    case measure=>simp[aT,intOf]<;>omega
  .obtain rfl:k=n:=aa;go_wp2_with fail;simp only[aaW,aa3,Z6] at hb;have V:=Nu l.o L.o HA.o (by rw[T.o];exact hm) Q.o O;refine(kJ _ k k o _ (RM.blk hb L.o l.o aa)).mono ?_;rintro e w1 ⟨v1,rfl,Y,H⟩;rw[V] at Y;go_wp2;go_ret;exact⟨_,rfl,Y,D.trans H⟩
def xL{o a b:List Nat}{k G x y}(j:o.length=k)(h:val o+4294967296^k*G=val (a.take k)+val (b.take k))(J:val (a.take (k+1))=val (a.take k)+4294967296^k*x)(R:val (b.take (k+1))=val (b.take k)+4294967296^k*y):
  val (o++[(G+x+y)%4294967296])+4294967296^(k+1)*((G+x+y)/4294967296)=val (a.take (k+1))+val (b.take (k+1)):=by
 rw[ky,J,R,j,wN,φ];have e:4294967296^k*((G+x+y)%4294967296)+4294967296^k*(4294967296*((G+x+y)/4294967296))=4294967296^k*(G+x+y):=by
  exact Aby
 have l:4294967296^k*(G+x+y)=4294967296^k*x+4294967296^k*G+4294967296^k*y:=by rw[ω,ω];omega
 omega
def vB{o}{d:Nat}{z:Int}(h:z=(d:Int)):mg o++[.int .u32 z]=mg (o++[d]):=by subst h;simp[mg]
def SlV (k n:Nat) (v:Value) (w:World):Prop:=∃l,SlM l v w/\val l=n/\l.length<=k
def EC(A B n m c d a b w)(hA:RM w A n c a)(hB:RM w B m d b)(hn:n<=1000000)(hm:m<=1000000):
  CV 184 #[aO A n c,aO B m d] w fun v w'=>SlV (max n m+1) (val a+val b) v w':=by
 have Z:=aW hA.len;have Y:=aW hB.len;go_enter func184,ntmps184;go_wp2;go_loopw [5,6,7] (fun T cv i wr=>∃(k G:Nat) (o:List Nat),k<=max n m+1/\i=.int .i64 k/\cv=.int .u64 (G:Int)/\G<=1/\(max n m<k->G=0)/\o.length=k/\Dig o/\val o+4294967296^k*G=val (a.take k)+val (b.take k)/\
   wr.ownsRow w.heap.size 208 1 T k (mg o)/\Ext w wr) (fun _ _ i _=>n+m+2-(intOf i).toNat)
 case atStart=>exact⟨0,0,[],q9 _,rfl,rfl,aa,fun _=>rfl,rfl,ae9,by simp[val],PI _ _ _ _,Ext.refl _⟩
 case round=>
  obtain⟨k,G,o,hk,rfl,rfl,YB,W,ho,hd,hv,N,D⟩:=hrel;have Q:=aW hv;clear hv;have L:=aW ho;clear ho;have V:=aW hd;clear hd;have l:=aW N;clear N;have Zo:k<=n+m+1:=aa;by_cases S:k<n
  .obtain⟨ad,x,rfl,_,J,M,K⟩:=(hA.ext D).at_ S;have HX:=aW (bU J);clear J;clear W;by_cases F:k<m
   .obtain⟨bd,y,rfl,_,R,I,U⟩:=(hB.ext D).at_ F;have HY:=aW (bU R);clear R;(go_wp2_with (at_builtin;refine eX kL rfl (.tmp 46) (.tmp 49) rfl w.heap.size u5 k (mg o) rf (l.alloc _) wr.heap.size 1 1 [.int .u32 (((G:Int)+x+y)%4294967296)] rf (Blk.new _ _ _) rfl AaB aa aa aa Ab1 ?_));intro g1 C w1 O H _ _;have j:=fI H (D.alloc _) (fun g h=>(l.lt g h).1);have P:=aW O;clear O H;go_wp2;go_roundw
    case rel=>
     refine⟨k+1,(G+x+y)/4294967296,o++[(G+x+y)%4294967296],aa,au,au,aa,fun h=>aa,by simp[L.o],V.append (Dig.one aa),xL L.o Q.o HX.o HY.o,?_,j⟩;have:=P.o;rwa[vB (d:=(G+x+y)%4294967296) aa] at this
    case measure=>simp[aT,intOf]<;>omega
   ·(go_wp2_with (at_builtin;refine eX kL rfl (.tmp 46) (.tmp 49) rfl w.heap.size u5 k (mg o) rf (l.alloc _) wr.heap.size 1 1 [.int .u32 (((G:Int)+x)%4294967296)] rf (Blk.new _ _ _) rfl AaB aa aa aa Ab1 ?_));intro g1 C w1 O H _ _;have j:=fI H (D.alloc _) (fun g h=>(l.lt g h).1);have P:=aW O;clear O H;go_wp2;go_roundw
    case rel=>
     refine⟨k+1,(G+x+0)/4294967296,o++[(G+x+0)%4294967296],aa,au,au,aa,fun h=>aa,by simp[L.o],V.append (Dig.one aa),xL L.o Q.o HX.o (lX Y.o F),?_,j⟩;have:=P.o;rwa[vB (d:=(G+x+0)%4294967296) aa] at this
    case measure=>simp[aT,intOf]<;>omega
  .by_cases F:k<m
   .obtain⟨bd,y,rfl,_,R,I,U⟩:=(hB.ext D).at_ F;have HY:=aW (bU R);clear R;clear W;(go_wp2_with (at_builtin;refine eX kL rfl (.tmp 46) (.tmp 49) rfl w.heap.size u5 k (mg o) rf (l.alloc _) wr.heap.size 1 1 [.int .u32 (((G:Int)+y)%4294967296)] rf (Blk.new _ _ _) rfl AaB aa aa aa Ab1 ?_));intro g1 C w1 O H _ _;have j:=fI H (D.alloc _) (fun g h=>(l.lt g h).1);have P:=aW O;clear O H;go_wp2;go_roundw
    case rel=>
     refine⟨k+1,(G+0+y)/4294967296,o++[(G+0+y)%4294967296],aa,au,au,aa,fun h=>aa,by simp[L.o],V.append (Dig.one aa),xL L.o Q.o (lX Z.o S) HY.o,?_,j⟩;have:=P.o;rwa[vB (d:=(G+0+y)%4294967296) aa] at this
    case measure=>simp[aT,intOf]<;>omega
   .by_cases YX:0<G
    .obtain rfl:G=1:=aa;have Yt:k<=max n m:=by
      rcases Na (max n m) k with h|h
      .exact absurd (W h) aa
      .exact h
     clear W;(go_wp2_with (at_builtin;refine eX kL rfl (.tmp 46) (.tmp 49) rfl w.heap.size u5 k (mg o) rf (l.alloc _) wr.heap.size 1 1 [.int .u32 (1)] rf (Blk.new _ _ _) rfl AaB aa aa aa Ab1 ?_));intro g1 C w1 O H _ _;have j:=fI H (D.alloc _) (fun g h=>(l.lt g h).1);have P:=aW O;clear O H;go_wp2;go_roundw
     case rel=>
      refine⟨k+1,(1+0+0)/4294967296,o++[(1+0+0)%4294967296],aa,au,au,aa,fun h=>aa,by simp[L.o],V.append (Dig.one aa),xL L.o Q.o (lX Z.o S) (lX Y.o F),?_,j⟩;have:=P.o;rwa[vB (d:=(1+0+0)%4294967296) aa] at this
     case measure=>simp[aT,intOf]<;>omega
    .obtain rfl:G=0:=aa;clear W;go_wp2;go_ret;refine⟨_,rfl,⟨o,afs l.o V.o,?_,by rw[L.o];exact hk⟩,D⟩;have:=Q.o;rw[χ (by rw[Z.o];omega),χ (by rw[Y.o];omega)] at this;simpa using this
def wX(A B n m c d a b w)(hA:RM w A n c a)(hB:RM w B m d b)(hn:n<=1000000)(hm:m<=n)(Yt:val b<=val a):
  Calls prog 185 #[aO A n c,aO B m d] w fun e w'=>∃v,e=.returned v/\(SlM (dF (val a-val b)) v w'/\∀g,v.ownBlock=γ g->w.heap.size<=g)/\Ext w w':=by
 have HA:=aW hA.len;have HB:=aW hB.len;go_enter func185,ntmps185;go_wp2;go_loopw [5,6,7] (fun T cv i wr=>∃(k Z:Nat) (o:List Nat),k<=n/\i=.int .i64 k/\cv=.int .u64 (Z:Int)/\Z<=1/\o.length=k/\Dig o/\val (a.take k)+4294967296^k*Z=val (b.take k)+val o/\
   wr.ownsRow w.heap.size 208 1 T k (mg o)/\Ext w wr) (fun _ _ i _=>n-(intOf i).toNat)
 case atStart=>exact⟨0,0,[],q9 _,rfl,rfl,aa,rfl,ae9,by simp[val],PI _ _ _ _,Ext.refl _⟩
 case round=>
  obtain⟨k,Z,o,hk,rfl,rfl,U,ho,hd,hv,N,D⟩:=hrel;have Q:=aW hv;clear hv;have HO:=aW ho;clear ho;have HD:=aW hd;clear hd;have l:=aW N;clear N;by_cases Yp:k<n
  .obtain⟨ad,x,rfl,_,J,M,K⟩:=(hA.ext D).at_ Yp;have HX:=aW J;clear J;by_cases F:k<m
   .obtain⟨bd,y,rfl,_,R,I,YK⟩:=(hB.ext D).at_ F;have HY:=aW R;clear R;(go_wp2_with (at_builtin;refine eX kL rfl (.tmp 33) (.tmp 36) rfl w.heap.size u5 k (mg o) rf (l.alloc _) wr.heap.size 1 1 [.int .u32 (IntKind.u64.wrap (IntKind.u64.wrap ((x:Int)-Z)-y)%4294967296)] rf (Blk.new _ _ _) rfl AaB aa aa aa Ab1 ?_));intro g1 C w1 O W _ _;have j:=fI W (D.alloc _) (fun g h=>(l.lt g h).1);have P:=aW O;clear O W;go_wp2;go_roundw
    case rel=>
     refine⟨k+1,oO ((x:Int)-Z-y),o++[qF ((x:Int)-Z-y)],aa,au,by rw[J8 M I U],uN _,by simp[HO.o],HD.append (Dig.one (vw _)),xk HO.o Q.o HX.o (bU HY.o) M I U,?_,j⟩;have:=P.o;rwa[vB (LW M I U)] at this
    case measure=>simp[aT,intOf]<;>omega
   ·(go_wp2_with (at_builtin;refine eX kL rfl (.tmp 33) (.tmp 36) rfl w.heap.size u5 k (mg o) rf (l.alloc _) wr.heap.size 1 1 [.int .u32 (IntKind.u64.wrap ((x:Int)-Z)%4294967296)] rf (Blk.new _ _ _) rfl AaB aa aa aa Ab1 ?_));intro g1 C w1 O W _ _;have j:=fI W (D.alloc _) (fun g h=>(l.lt g h).1);have P:=aW O;clear O W;go_wp2;go_roundw
    case rel=>
     refine⟨k+1,oO ((x:Int)-Z-(0:Nat)),o++[qF ((x:Int)-Z-(0:Nat))],aa,au,by rw[Sq M U],uN _,by simp[HO.o],HD.append (Dig.one (vw _)),xk HO.o Q.o HX.o (lX HB.o F) M aa U,?_,j⟩;have:=P.o;rwa[vB (Qk M U)] at this
    case measure=>simp[aT,intOf]<;>omega
  .obtain rfl:k=n:=aa;obtain⟨A1,n1,c1,rfl,hR⟩:=afs l.o HD.o;have S:=hR.len;obtain rfl:n1=k:=by rw[<-S,HO.o]
   have V:=Nu HO.o HD.o HA.o (by rw[HB.o];exact hm) Q.o Yt;have G:=aW V;clear V S;go_wp2_with fail;refine(zh A1 n1 c1 o _ hR hn).mono ?_;rintro e w1 ⟨v1,rfl,⟨hR,L⟩,H⟩;rw[G.o] at hR;have Y:=aW L;clear L;go_wp2;go_ret;exact⟨_,rfl,⟨hR,fun g hg=>Ξ D.size (Y.o g hg)⟩,D.trans H⟩
def wU(A B n m c d a b w)(D:RM w A n c a)(H:RM w B m d b)(hn:n<=1000000)(G:m<=n)(j:val b<=val a):
  CV 185 #[aO A n c,aO B m d] w fun v w'=>SlM (dF (val a-val b)) v w':=
 (wX A B n m c d a b w D H hn G j).mono fun _ _ ⟨v,C,l,F⟩=>⟨v,C,l.1,F⟩
def iL (p:List Nat) (k:Nat):Prop:=∀t z,k<=t->p[t]? =γ z->z=0
def iL.mono{p k j}(h:iL p k)(B:k<=j):iL p j:=fun t z C l=>h t z aa l
def iL.set{p k t d}(h:iL p k)(l:t<k):iL (p.set t d) k:=by
 intro s z hs j;rw[aaf aa] at j;exact h s z hs j
def afz(n k):iL (List.replicate n 0) k:=by
 intro t z _ j;have:=wo j;exact ab1 this
def iL.at_{p k}(h:iL p k)(l:k<p.length):p[k]? =γ 0:=by
 have j:p[k]? =γ p[k]:=ν l;rw[h k _ (κ _) j] at j;exact j
def uY{x y}(J:x<4294967296)(R:y<4294967296):x*y<=18446744065119617025:=by
 have:=aaa (show x<=4294967295 by omega) (show y<=4294967295 by omega);omega
def H7{p b:List Nat}{i j x y z G s M}(l:p[i+j]? =γ z)(R:b[j]? =γ y)(hs:s=x*y+z+G)(h:val p+4294967296^(i+j)*G=M+4294967296^i*(x*val (b.take j))):
  val (p.set (i+j) (s%4294967296))+4294967296^(i+(j+1))*(s/4294967296)=M+4294967296^i*(x*val (b.take (j+1))):=by
 have C:=qH (y:=s%4294967296) l;rw[bU R,show i+(j+1)=(i+j)+1 by omega,wN,φ];have e:4294967296^(i+j)*(s%4294967296)+4294967296^(i+j)*(4294967296*(s/4294967296))=4294967296^(i+j)*s:=by
  exact Aby
 have D:4294967296^(i+j)*s=4294967296^(i+j)*(x*y)+4294967296^(i+j)*z+4294967296^(i+j)*G:=by rw[hs,ω,ω]
 have B:4294967296^i*(x*(val (b.take j)+4294967296^j*y))=4294967296^i*(x*val (b.take j))+4294967296^(i+j)*(x*y):=by
  rw[ω,ω,aap];congr 1;rw[abe x,φ]
 omega
def Ng{p a b:List Nat}{i m x G}(l:p[i+m]? =γ 0)(J:a[i]? =γ x)(hb:b.length=m)(h:val p+4294967296^(i+m)*G=val (a.take i)*val b+4294967296^i*(x*val (b.take m))):val (p.set (i+m) G)=val (a.take (i+1))*val b:=by
 have B:=qH (y:=G) l;have j:b.take m=b:=χ aa;rw[j] at h;rw[bU J,Z4];have e:4294967296^i*(x*val b)=4294967296^i*x*val b:=by rw[φ]
 omega
def ik (w:World) (g:Nat) (p:List Nat):Prop:=Blk w g 208 (mg p).toArray/\Dig p
def ik.at_{w g k p}(h:ik w g p)(l:k<p.length):∃z,p[k]? =γ z/\z<4294967296/\w.cell? (aM g k)=γ (.int .u32 (z:Int))/\w.frozen? ⟨g,k,δ⟩=ζ:=by
 have j:p[k]? =γ p[k]:=ν l;refine⟨p[k],j,h.2.at_ j,?_,h.1.frozen k⟩;rw[h.1.cell];have:=p9 j;simpa using this
def ik.set{w:World}{g k d:Nat}{p:List Nat}{z:Int}(h:ik w g p)(j:z=(d:Int))(hd:d<4294967296):ik (w.setCell ⟨g,k,δ⟩ (.int .u32 z)) g (p.set k d):=by
 have:=h.1.QD (i:=k) (.int .u32 z);rw[Gp j] at this;exact⟨this,h.2.set k hd⟩
def ik.drewN{w g p}(h:ik w g p)(n):ik (w.drewN n) g p:=⟨h.1.drewN n,h.2⟩
def ik.far{w w' g p}(h:ik w g p)(e:Ext w w'):ik w' g p:=⟨h.1.ext e,h.2⟩
def ik.rm{w g n p}(h:ik w g p)(hn:p.length=n)(j:n<=9223372036854775807):RM w (γ ⟨g,0,δ⟩) n n p:=RM.blk h.1 h.2 hn j
def yw (n m:Nat):Prop:=0<n/\0<m
def yO (n m:Nat):Prop:=True
def Kt{n m}(h:yw n m):((n:Int)==0)=ζ:=by have:=h.1;simp;omega
def La{n m}(h:yw n m):((m:Int)==0)=ζ:=by have:=h.2;simp;omega
def Lm{n m}(h:yO n m):True:=trivial
def KA{n m}(h:yO n m):True:=trivial
def Lu(A B n m c d a b w)(hA:RM w A n c a)(hB:RM w B m d b)(hn:n<=100000)(hm:m<=100000)(L:yw n m):
  CV 217 #[aO A n c,aO B m d] w fun v w'=>SlM (dF (val a*val b)) v w':=by
 have YA:=Kt L;have O:=La L;clear L;have HA:=aW hA.len;have HB:=aW hB.len;have Zc:=jN ((n:Int)+m) (n+m) aa aa;go_enter func217,ntmps217;go_wp2;clear Zc;go_loopw [26] (fun i wr=>∃(k:Nat) (p:List Nat),k<=n/\i=.int .i64 k/\p.length=n+m/\iL p (k+m)/\val p=val (a.take k)*val b/\ik wr w.heap.size p/\Ext w wr) (aT n)
 case atStart=>exact⟨0,List.replicate (n+m) 0,q9 _,rfl,ag,afz _ _,by simp[val,qY],⟨Blk.new w _ _,Dig.replicate _⟩,Ext.new _ _⟩
 case round=>
  obtain⟨k,p,hk,rfl,Z,S,hv,F,D⟩:=hrel;have T:=aW Z;clear Z;have Y:=aW S;clear S;have Q:=aW hv;clear hv;have U:=aW F;clear F;by_cases Yp:k<n
  .obtain⟨ad,x,rfl,_,J,M,K⟩:=(hA.ext D).at_ Yp;have HX:=aW J;clear J K;obtain⟨N,rfl⟩:∃N:World,N=wr:=⟨_,rfl⟩;go_wp2;go_loopw [31,7] (fun iv cv wr=>∃(j G:Nat) (p:List Nat),j<=m/\iv=.int .i64 j/\cv=.int .u64 (G:Int)/\G<4294967296/\p.length=n+m/\iL p (k+m)/\val p+4294967296^(k+j)*G=val (a.take k)*val b+4294967296^k*(x*val (b.take j))/\ik wr w.heap.size p/\Ext w wr) (fun iv _ _=>m-(intOf iv).toNat)
   case atStart=>exact⟨0,0,p,q9 _,rfl,rfl,aa,T.o,Y.o,by have:=Q.o;simp[val,this],U.o,D⟩
   case round=>
    clear U Q Y T D;obtain⟨j,G,p,hj,rfl,rfl,YB,Z,S,hv,F,D⟩:=hrel;have T:=aW Z;clear Z;have Y:=aW S;clear S;have Q:=aW hv;clear hv;by_cases C:j<m
    .obtain⟨bd,y,rfl,_,R,I,YK⟩:=(hB.ext D).at_ C;obtain⟨Yr,x',e1,_,Yq,_,K⟩:=(hA.ext D).at_ Yp;cases e1
     obtain rfl:x'=x:=by have:=HX.o;rw[Yq] at this;injection this
     have HY:=aW R;clear R Yq;obtain⟨z,S,l,W,Yu⟩:=F.at_ (k:=k+j) Acj;have Zq:=aW S;clear S;have U:=aW F;clear F;obtain⟨t,ht⟩:∃t,t=x'*y:=⟨_,rfl⟩;have ZE:t<=18446744065119617025:=by rw[ht];exact uY M I
     have q1:(0:Int)<=k:=aa;have q2:(k:Int)<n:=aa;have q3:(0:Int)<=j:=aa;have q4:(j:Int)<m:=aa;have q5:(0:Int)<=(k:Int)+(j:Int):=aa;have q6:(k:Int)+(j:Int)<(n:Int)+(m:Int):=aa;have P:(k:Int)+(j:Int)<((n+m:Nat):Int):=aa;have e1:IntKind.u64.wrap ((x':Int)*(y:Int))=(t:Int):=by rw[aaG _ AcP,ht];simp
     have e2:IntKind.u64.wrap ((t:Int)+(z:Int))=(t:Int)+z:=aaG _ aa;have e3:IntKind.u64.wrap ((t:Int)+(z:Int)+(G:Int))=(t:Int)+z+G:=aaG _ aa;have e4:IntKind.i64.wrap ((k:Int)+(j:Int))=(k:Int)+j:=aa5 _ aa;have e5:((k:Int)+(j:Int)).toNat=k+j:=aa;have HT:=aW ht;clear ht;go_wp2;go_quiet (fail);clear e1 e2 e3 e4 e5;go_wp2;go_roundw
     case rel=>exact⟨j+1,(t+z+G)/4294967296,p.set (k+j) ((t+z+G)%4294967296),aa,au,au,aa,by simp[T.o],Y.set aa,H7 Zq.o HY.o (by rw[HT.o]) Q.o,(U.drewN _).set aa aa,(D.drewN _).setCell (κ _) _⟩
     case measure=>simp[aT,intOf]<;>omega
    .obtain rfl:j=m:=aa;obtain⟨z,S,l,W,Yu⟩:=F.at_ (k:=k+j) Acj;have YJ:=Y.at_ Acj;have YM:=aW YJ;clear YJ S;have U:=aW F;clear F;go_wp2;go_roundw
     case rel=>exact⟨k+1,p.set (k+j) G,aa,au,by simp[T.o],(Y.mono aa).set aa,Ng YM.o HX.o HB.o Q.o,U.set rfl YB,D.setCell (κ _) _⟩
     case measure=>simp[aT,intOf]<;>omega
  .obtain rfl:k=n:=aa;have F:=U.o;have Z:=T.o;go_wp2_with fail;refine(kJ _ _ _ p _ (F.rm Z aa)).mono ?_;exact AaZ
def Le(A B n m c d a b w)(hA:RM w A n c a)(hB:RM w B m d b)(hn:n<=100000)(hm:m<=100000)(L:yO n m):
  CV 186 #[aO A n c,aO B m d] w fun v w'=>SlM (dF (val a*val b)) v w':=by
 have YA:=Lm L;have O:=KA L;clear L;have HA:=aW hA.len;have HB:=aW hB.len;have Zc:=jN ((n:Int)+m) (n+m) aa aa;go_enter func186,ntmps186;go_wp2;clear Zc;go_loopw [6] (fun i wr=>∃(k:Nat) (p:List Nat),k<=n/\i=.int .i64 k/\p.length=n+m/\iL p (k+m)/\val p=val (a.take k)*val b/\ik wr w.heap.size p/\Ext w wr) (aT n)
 case atStart=>exact⟨0,List.replicate (n+m) 0,q9 _,rfl,ag,afz _ _,by simp[val,qY],⟨Blk.new w _ _,Dig.replicate _⟩,Ext.new _ _⟩
 case round=>
  obtain⟨k,p,hk,rfl,Z,S,hv,F,D⟩:=hrel;have T:=aW Z;clear Z;have Y:=aW S;clear S;have Q:=aW hv;clear hv;have U:=aW F;clear F;by_cases Yp:k<n
  .obtain⟨ad,x,rfl,_,J,M,K⟩:=(hA.ext D).at_ Yp;have HX:=aW J;clear J K;obtain⟨N,rfl⟩:∃N:World,N=wr:=⟨_,rfl⟩;go_wp2;go_loopw [8,7] (fun iv cv wr=>∃(j G:Nat) (p:List Nat),j<=m/\iv=.int .i64 j/\cv=.int .u64 (G:Int)/\G<4294967296/\p.length=n+m/\iL p (k+m)/\val p+4294967296^(k+j)*G=val (a.take k)*val b+4294967296^k*(x*val (b.take j))/\ik wr w.heap.size p/\Ext w wr) (fun iv _ _=>m-(intOf iv).toNat)
   case atStart=>exact⟨0,0,p,q9 _,rfl,rfl,aa,T.o,Y.o,by have:=Q.o;simp[val,this],U.o,D⟩
   case round=>
    clear U Q Y T D;obtain⟨j,G,p,hj,rfl,rfl,YB,Z,S,hv,F,D⟩:=hrel;have T:=aW Z;clear Z;have Y:=aW S;clear S;have Q:=aW hv;clear hv;by_cases C:j<m
    .obtain⟨bd,y,rfl,_,R,I,YK⟩:=(hB.ext D).at_ C;obtain⟨Yr,x',e1,_,Yq,_,K⟩:=(hA.ext D).at_ Yp;cases e1
     obtain rfl:x'=x:=by have:=HX.o;rw[Yq] at this;injection this
     have HY:=aW R;clear R Yq;obtain⟨z,S,l,W,Yu⟩:=F.at_ (k:=k+j) Acj;have Zq:=aW S;clear S;have U:=aW F;clear F;obtain⟨t,ht⟩:∃t,t=x'*y:=⟨_,rfl⟩;have ZE:t<=18446744065119617025:=by rw[ht];exact uY M I
     have q1:(0:Int)<=k:=aa;have q2:(k:Int)<n:=aa;have q3:(0:Int)<=j:=aa;have q4:(j:Int)<m:=aa;have q5:(0:Int)<=(k:Int)+(j:Int):=aa;have q6:(k:Int)+(j:Int)<(n:Int)+(m:Int):=aa;have P:(k:Int)+(j:Int)<((n+m:Nat):Int):=aa;have e1:IntKind.u64.wrap ((x':Int)*(y:Int))=(t:Int):=by rw[aaG _ AcP,ht];simp
     have e2:IntKind.u64.wrap ((t:Int)+(z:Int))=(t:Int)+z:=aaG _ aa;have e3:IntKind.u64.wrap ((t:Int)+(z:Int)+(G:Int))=(t:Int)+z+G:=aaG _ aa;have e4:IntKind.i64.wrap ((k:Int)+(j:Int))=(k:Int)+j:=aa5 _ aa;have e5:((k:Int)+(j:Int)).toNat=k+j:=aa;have HT:=aW ht;clear ht;go_wp2;go_quiet (fail);clear e1 e2 e3 e4 e5;go_wp2;go_roundw
     case rel=>exact⟨j+1,(t+z+G)/4294967296,p.set (k+j) ((t+z+G)%4294967296),aa,au,au,aa,by simp[T.o],Y.set aa,H7 Zq.o HY.o (by rw[HT.o]) Q.o,(U.drewN _).set aa aa,(D.drewN _).setCell (κ _) _⟩
     case measure=>simp[aT,intOf]<;>omega
    .obtain rfl:j=m:=aa;obtain⟨z,S,l,W,Yu⟩:=F.at_ (k:=k+j) Acj;have YJ:=Y.at_ Acj;have YM:=aW YJ;clear YJ S;have U:=aW F;clear F;go_wp2;go_roundw
     case rel=>exact⟨k+1,p.set (k+j) G,aa,au,by simp[T.o],(Y.mono aa).set aa,Ng YM.o HX.o HB.o Q.o,U.set rfl YB,D.setCell (κ _) _⟩
     case measure=>simp[aT,intOf]<;>omega
  .obtain rfl:k=n:=aa;have F:=U.o;have Z:=T.o;go_wp2_with fail;refine(iU _ _ _ p _ (F.rm Z aa) aa).mono ?_;exact AaZ
def J2(A B n m c d a b w)(j:RM w A n c a)(l:RM w B m d b)(hn:n<=100000)(G:m<=100000):
  CV 217 #[aO A n c,aO B m d] w fun v w'=>SlM (dF (val a*val b)) v w':=by
 by_cases F:n=0
 .subst F;obtain rfl:=j.empty;exact Aa6
 .have D:((n:Int)==0)=ζ:=ae;by_cases C:m=0
  .subst C;obtain rfl:=l.empty;exact Aa6
  .exact Lu A B n m c d a b w j l hn G ⟨aa,aa⟩
def wW(A B n m c d a b w)(C:RM w A n c a)(l:RM w B m d b)(hn:n<=100000)(j:m<=100000):
  CV 186 #[aO A n c,aO B m d] w fun v w'=>SlM (dF (val a*val b)) v w':=Le A B n m c d a b w C l hn j trivial
end Go.Proofs.YtbfnfkppkmpieaaGreat
