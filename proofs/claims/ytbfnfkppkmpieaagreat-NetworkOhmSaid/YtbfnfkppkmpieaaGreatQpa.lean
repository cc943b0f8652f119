import Derived.WalkKit
import Derived.WalkSpells
import Derived.WalkLawsBesides
import Derived.Lib.Hide
import Derived.Deep.QuietTactic
import Derived.BigQuiet
import Derived.Deep.AppendLies
import Derived.Deep.Draws
import Derived.Laws.OwnMore
import Derived.Laws.Rows
import Derived.KernelRfl
import Derived.Laws.BytesArg
import Derived.StillTailTactics
import Derived.OrdersHeld
import Derived.Test.YtbfnfkppkmpieaaGreatProg
import Derived.Lib.Strings
import Derived.Lib.EndianBits
import Derived.Deep.CutBlock
import Derived.Deep.DeepCutAuto
import Derived.Deep.LoopGhost
import Derived.Shelf.Small.Bits
import Derived.Lib.ItoaNum
import Derived.Maps.OwnOps
import Derived.Maps.Views
import Derived.StringKeys
import Derived.Deep.WholeRow
import Derived.Test.YtbfnfkppkmpieaaGreatChecked
import GoSem.Claim
import GoSem.ClaimJoined
import GoSem.ClaimMapViews
import Derived.JoinedTies
import Derived.Test.YtbfnfkppkmpieaaGreatRows
import Derived.ProofKit
import Derived.Lib.SmallJoins
import Derived.Deep.Slices
import Derived.Deep.Fields
import Derived.ChangeSame
import Derived.Deep.Strs
import Derived.Deep.Grids
import Derived.WalkMore
import Derived.Laws.CopyRow
import Derived.Deep.MidRow
import Derived.Deep.AppendSrc
set_option linter.unusedVariables false
set_option linter.unusedSimpArgs false
set_option maxHeartbeats 25600000
set_option maxRecDepth 200000
set_option linter.defProp false
namespace Go.Proofs
open Go.Shelf
def Tryz.lays128_ren : Go.Shelf.Ren := ⟨fun | 128 => 227 | n => n, fun | 51 => 208 | 3 => 3 | 4 => 4 | 46 => 236 | 5 => 5 | 9 => 9 | n => n, fun | n => n⟩
theorem Tryz.lays128 : Go.Proofs.Lays.n128 Tryz.prog Tryz.lays128_ren := {
 mixed := by kernel_rfl
 f128 := Tryz.func227.trans (congrArg some (by kernel_rfl))
 t3 := Tryz.underlying3
 a3 := Tryz.isAgg3
 z3 := Tryz.sizeOf3
 v3 := Tryz.zeroValue3
 t4 := Tryz.underlying4
 a4 := Tryz.isAgg4
 z4 := Tryz.sizeOf4
 v4 := Tryz.zeroValue4
 t5 := Tryz.underlying5
 a5 := Tryz.isAgg5
 z5 := Tryz.sizeOf5
 v5 := Tryz.zeroValue5
 t9 := Tryz.underlying9
 a9 := Tryz.isAgg9
 z9 := Tryz.sizeOf9
 v9 := Tryz.zeroValue9
 t46 := Tryz.underlying236
 a46 := Tryz.isAgg236
 z46 := Tryz.sizeOf236
 v46 := Tryz.zeroValue236
 t51 := Tryz.underlying208
 a51 := Tryz.isAgg208
 z51 := Tryz.sizeOf208
 v51 := Tryz.zeroValue208 }
theorem Tryz.bits_Len32 (x : Int) (w : World) (h0 : 0 ≤ x) (h1 : x ≤ 4294967295) :
   Calls Tryz.prog 227 #[.int .u32 x] w fun e w' => e = .returned (.int .i64 (Lib.bitLen x.toNat)) ∧ w' = w := Any.bits_Len32 Tryz.lays128 x w h0 h1
def Tryz.lays133_ren : Go.Shelf.Ren := ⟨fun | 133 => 219 | 128 => 227 | n => n, fun | 51 => 208 | 3 => 3 | 4 => 4 | 46 => 236 | 5 => 5 | 9 => 9 | n => n, fun | n => n⟩
theorem Tryz.lays133 : Go.Proofs.Lays.n133 Tryz.prog Tryz.lays133_ren := {
 mixed := by kernel_rfl
 f128 := Tryz.func227.trans (congrArg some (by kernel_rfl))
 f133 := Tryz.func219.trans (congrArg some (by kernel_rfl))
 t3 := Tryz.underlying3
 a3 := Tryz.isAgg3
 z3 := Tryz.sizeOf3
 v3 := Tryz.zeroValue3
 t4 := Tryz.underlying4
 a4 := Tryz.isAgg4
 z4 := Tryz.sizeOf4
 v4 := Tryz.zeroValue4
 t5 := Tryz.underlying5
 a5 := Tryz.isAgg5
 z5 := Tryz.sizeOf5
 v5 := Tryz.zeroValue5
 t9 := Tryz.underlying9
 a9 := Tryz.isAgg9
 z9 := Tryz.sizeOf9
 v9 := Tryz.zeroValue9
 t46 := Tryz.underlying236
 a46 := Tryz.isAgg236
 z46 := Tryz.sizeOf236
 v46 := Tryz.zeroValue236
 t51 := Tryz.underlying208
 a51 := Tryz.isAgg208
 z51 := Tryz.sizeOf208
 v51 := Tryz.zeroValue208 }
theorem Tryz.bits_LeadingZeros32 (x : Int) (w : World) (h0 : 0 ≤ x) (h1 : x ≤ 4294967295) :
   Calls Tryz.prog 219 #[.int .u32 x] w fun e w' => e = .returned (.int .i64 (32 - (Lib.bitLen x.toNat : Int))) ∧ w' = w := Any.bits_LeadingZeros32 Tryz.lays133 x w h0 h1
end Go.Proofs
namespace Go.Proofs.YtbfnfkppkmpieaaGreat
open Go.RowKit
open Go.Proofs.Tryz
open Option renaming some->γ,none->δ
open Bool renaming true->ε,false->ζ
open Inhabited renaming default->η
open Value renaming slice->aO
open World renaming alloc->aU
def θ:=@if_neg
def ι:=@if_pos
def κ:=@Nat.le_refl
def μ:=@List.getElem?_eq_some_iff
def ν:=@List.getElem?_eq_getElem
def ξ:=@List.drop_succ_cons
def ο:=@Nat.lt_of_lt_of_le
def π:=@List.getD_eq_getElem?_getD
def ρ:=@decide_eq_false
def σ:=@wpList_load_mid
def τ:=@List.drop_zero
def υ:=@Bool.and_eq_true
def φ:=@Nat.mul_assoc
def χ:=@List.take_of_length_le
def ψ:=@Nat.lt_of_le_of_lt
def ω:=@Nat.mul_add
def Γ:=@List.getElem?_toArray
def Δ:=@decide_eq_true_eq
def Θ:=@Nat.le_trans
def Λ:=@decide_eq_true
def Ξ:=@Nat.mul_le_mul_left
def Ω:=@List.getElem?_append_left
def aQ:=@List.setIfInBounds_toArray
def kC:=@List.mem_cons
def nk:=@Int.mul_ne_zero
def nC:=@List.mem_cons_of_mem
def nG:=@List.getElem?_append_right
def nH:=@Nat.mul_comm
def nV:=@List.length_cons
def pq:=@Nat.mul_le_mul_right
def pu:=@Nat.mod_lt
def pz:=@List.length_append
def qa:=@List.mem_cons_self
def qb:=@List.getElem?_eq_none
def q8:=@List.all_eq_true
def q9:=@Nat.zero_le
def wo:=@List.mem_of_getElem?
def wN:=@Nat.pow_succ
def xx:=@List.size_toArray
def z8:=@Proofs.Tryz.underlying102
def Aa:=@List.getElem?_map
def Ab:=@IntWalk.wrap64_in
def Ad:=@Nat.pow_le_pow_right
def A8:=@Proofs.Tryz.underlying44
def Be:=@Proofs.Tryz.underlying45
def Bn:=@List.length_take
def BB:=@Nat.eq_zero_or_pos
def De:=@List.set_cons_succ
def Ej:=@List.set_cons_zero
def Ex:=@Int.natAbs_mul
def Ha:=@List.not_mem_nil
def Hu:=@Int.toNat_natCast
def I4:=@Nat.gcd_dvd_left
def I5:=@List.append_assoc
def I6:=@Nat.add_zero
def KP:=@List.eq_nil_of_length_eq_zero
def Na:=@Nat.pow_pos
def Nq:=@Nat.lt_or_ge
def NK:=@Bool.false_eq_true
def PI:=@List.getElem?_take_of_lt
def RS:=@World.ownsRow_nil
def Zb:=@List.getElem?_drop
def Z4:=@Nat.add_mul
def Z5:=@decide_eq_false_iff_not
def Z6:=@List.append_nil
def aaa:=@Nat.mul_le_mul
def aab:=@List.mem_map
def aac:=@Int.ofNat_dvd_left
def aad:=@if_true
def aae:=@List.mem_append
def aaf:=@Nat.dvd_trans
def aag:=@Nat.gcd_dvd_right
def aah:=@Nat.le_of_lt
def aai:=@bodyPost_ret
def aaj:=@List.getElem?_set_ne
def aak:=@List.drop_eq_nil_of_le
def aal:=@List.ext_getElem?
def aam:=@Nat.min_eq_left
def aan:=@Rat.intCast_mul
def aao:=@Nat.pow_add
def aap:=@Nat.mul_one
def aaq:=@List.map_append
def aar:=@RowKit.Below.heap_alloc
def aas:=@results_none
def aat:=@Array.getElem?_eq_none
def aau:=@List.mem_range
def aav:=@Nat.one_mul
def aaw:=@Result.andThen_ok
def aax:=@Option.some.injEq
def aay:=@List.take_succ_cons
def aaz:=@List.getElem?_range
def aaA:=@List.drop_eq_getElem_cons
def aaB:=@List.length_map
def aaC:=@Nat.zero_add
def aaD:=@Sem.run_bind
def aaE:=@Nat.gcd_comm
def aaF:=@Region.noSelect_spec
def aaG:=@IntWalk.u64_in
def aaH:=@or_false
def aaI:=@DataW.trod_struct
def aaJ:=@List.replicate_succ
def aaK:=@List.mem_map_of_mem
def aaL:=@wpQuiet_nil
def aaM:=@Int.mul_assoc
def aaN:=@List.take_succ_eq_append_getElem
def aaO:=@Nat.mod_eq_of_lt
def aaP:=@Proofs.Tryz.underlying4
def aaQ:=@Nat.div_lt_iff_lt_mul
def aaR:=@Rat.mul_nonneg
def aaS:=@Lib.run_eql_slice_nil
def aaT:=@Proofs.Tryz.underlying167
def aaU:=@getD_replicate_false
def aaV:=@Nat.zero_mul
def aaW:=@Nat.sub_self
def aaX:=@Nat.add_comm
def aaY:=@bodyPost_end
def aaZ:=@of_decide_eq_true
def aa0:=@Calls.quiet_of_same
def aa1:=@List.replicate_zero
def aa2:=@Region.free_spec
def aa3:=@IntWalk.i64_in
def aa4:=@Sem.run_pure
def aa5:=@Nat.mul_lt_mul_of_pos_right
def aa6:=@Proofs.Tryz.underlying187
def aa7:=@Rat.intCast_add
def aa8:=@List.nil_append
def aa9:=@List.length_set
def aba:=@List.mem_filter
def abb:=@Array.getElem?_eq_some_iff
def abd:=@Int.tmod_eq_emod_of_nonneg
def abe:=@World.ownsRow_lit
def abf:=@Nat.mul_left_comm
def abg:=@Proofs.Tryz.underlying57
def abh:=@Nat.eq_of_mul_eq_mul_left
def abj:=@Nat.le_succ
def abk:=@Ne.symm
def abl:=@run_underlying
def abm:=@List.take_zero
def abn:=@Nat.lt_trans
def abo:=@Nat.div_eq_of_lt
def abp:=@Int.natCast_ediv
def abq:=@Int.mul_ediv_cancel_left
def abr:=@Nat.lt_succ_self
def abt:=@List.getElem_mem
def abu:=@List.take_set_of_le
def abv:=@Nat.gcd_pos_of_pos_left
def abw:=@Bool.true_and
def abx:=@Rat.mul_eq_zero
def aby:=@Nat.div_add_mod
def abz:=@Proofs.Tryz.underlying183
def abA:=@if_false
def abB:=@Option.map_eq_some_iff
def abC:=@Nat.le_mul_of_pos_left
def abD:=@List.getElem?_set_self
def abE:=@Int.mul_left_comm
def abF:=@Int.natAbs_sub_le
def abG:=@Proofs.Tryz.underlying99
def abH:=@Proofs.Tryz.underlying42
def abI:=@Int.ediv_eq_iff_eq_mul_right
def abJ:=@List.set_append_right
def abK:=@mem_ready
def abL:=@List.length_drop
def abM:=@info_parts
def abN:=@List.cons_append
def abO:=@Nat.gcd_mul_left
def abP:=@List.getElem?_of_mem
def abQ:=@wpList_mapUpdate_own
def abR:=@List.all_cons
def abS:=@Int.tdiv_eq_ediv_of_nonneg
def abT:=@Nat.mul_two
def abU:=@Rat.intCast_sub
def abV:=@List.range_succ
def abW:=@List.getLast?_eq_getElem?
def abX:=@Nat.lt_of_mul_lt_mul_left
def abY:=@RowKit.Below.heap_setCell
def abZ:=@List.eq_of_mem_replicate
def ab0:=@Int.sub_eq_add_neg
def ab1:=@seqB_ready
def ab2:=@Bool.false_and
def ab3:=@Int.mul_nonneg
def ab4:=@plainElem_bool
def ab5:=@Int.mul_le_mul
def ab6:=@List.getElem?_cons_succ
def ab7:=@Nat.lt_trichotomy
def ab8:=@Int.natAbs_add_le
def ab9:=@Proofs.Tryz.underlying38
def aca:=@Proofs.Tryz.underlying92
def acb:=@Proofs.Tryz.underlying28
def acd:=@Proofs.Tryz.underlying31
def ace:=@Nat.lt_succ_of_lt
def acf:=@Int.neg_dvd
def acg:=@Addr.mk.injEq
def ach:=@Nat.gcd_assoc
def aci:=@List.take_length
def acj:=@List.take_append_drop
def ack:=@Int.mul_eq_zero
def acl:=@RowKit.Below.refl
def acm:=@Bool.or_eq_true
def acn:=@ready_mono
def aco:=@wpAny_of_seq
def acp:=@Array.eq_empty_of_size_eq_zero
def acr:=@Nat.mul_add_div
def acs:=@Int.ediv_nonneg
def acu:=@Nat.div_le_self
def acv:=@Proofs.Tryz.ntmps77
def acw:=@Proofs.Tryz.ntmps79
def acx:=@Nat.not_lt_zero
def acy:=@World.news_of_block
def acz:=@List.map_congr_left
def acA:=@List.length_pos_iff
def acB:=@World.ownsRow.alloc
def acC:=@List.getElem_of_mem
def acD:=@ite_self
def acE:=@getD_set_ne
def acF:=@decide_true
def acG:=@Nat.dvd_gcd
def acH:=@Proofs.Tryz.func77
def acI:=@Proofs.Tryz.func79
def acJ:=@wpOp_mono
def acK:=@Nat.gcd_zero_right
def acL:=@List.mem_singleton
def acM:=@Proofs.Tryz.underlying174
def acN:=@Nat.add_assoc
def acO:=@List.map_cons
def acP:=@Int.eq_of_mul_eq_mul_right
def acQ:=@Bool.true_bne
def acR:=@Proofs.Tryz.ntmps134
def acS:=@Bool.eq_false_iff
def acT:=@Int.lt_trichotomy
def acU:=@Nat.gcd_mul_right
def acV:=@List.take_add_one
def acW:=@List.foldl_append
def acX:=@Proofs.Tryz.underlying63
def acY:=@Proofs.Tryz.underlying27
def acZ:=@Proofs.Tryz.underlying96
def ac0:=@Int.mul_neg_of_pos_of_neg
def ac1:=@Int.eq_of_mul_eq_mul_left
def ac2:=@Array.setIfInBounds_comm
def ac3:=@and_true
def ac4:=@Proofs.Tryz.ntmps68
def ac5:=@Nat.dvd_mul_left
def ac6:=@Int.mul_comm
def ac7:=@run_make
def ac8:=@List.mem_flatMap
def ac9:=@Proofs.Tryz.underlying9
def ada:=@Proofs.Tryz.ntmps75
def adb:=@Proofs.Tryz.func134
def adc:=@List.getLast?_cons_cons
def ade:=@List.getElem?_cons_zero
def adf:=@Nat.mul_add_mod
def adg:=@run_loadVar_row
def adh:=@Proofs.Tryz.func68
def adi:=@Nat.div_div_eq_div_mul
def adj:=@Proofs.Tryz.func75
def adk:=@List.drop_of_length_le
def adl:=@List.singleton_append
def adm:=@Int.natAbs_dvd_natAbs
def adn:=@Nat.mul_div_mul_right
def ado:=@Nat.Coprime.mul_right
def adp:=@List.mem_of_mem_take
def adq:=@List.set_append_left
def adr:=@Nat.add_mul_div_left
def ads:=@Int.ediv_emod_unique
def adt:=@List.forall_mem_cons
def adu:=@wp_region_any
def adv:=@Proofs.Tryz.ntmps144
def adw:=@Proofs.Tryz.ntmps113
def adx:=@Proofs.Tryz.ntmps216
def ady:=@Proofs.Tryz.ntmps152
def adz:=@bits_join_low
def adA:=@Proofs.Tryz.ntmps180
def adB:=@Proofs.Tryz.ntmps204
def adC:=@Proofs.Tryz.ntmps136
def adD:=@WideShapes.okWide_struct
def adE:=@Proofs.Tryz.ntmps132
def adF:=@Proofs.Tryz.ntmps189
def adG:=@Proofs.Tryz.ntmps155
def adH:=@List.flatMap_append
def adI:=@Nat.lt_mul_div_succ
def adJ:=@all_oneCell_toArray
def adK:=@Proofs.Tryz.ntmps31
def adM:=@Proofs.Tryz.func144
def adP:=@wpList_plain
def adQ:=@Proofs.Tryz.ntmps63
def adR:=@Proofs.Tryz.ntmps70
def adS:=@Proofs.Tryz.ntmps67
def adV:=@Rat.le_total
def adW:=@List.map_set
def adX:=@Proofs.Tryz.ntmps97
def adY:=@Proofs.Tryz.func113
def adZ:=@Proofs.Tryz.func216
def ad1:=@decide_false
def ad2:=@Proofs.Tryz.func152
def ad3:=@wraps_u32
def ad4:=@Proofs.Tryz.func180
def ad5:=@Proofs.Tryz.func204
def ad7:=@Nat.ne_of_lt
def ad8:=@Int.zero_sub
def aec:=@Proofs.Tryz.func136
def aed:=@Proofs.Tryz.func132
def aee:=@Proofs.Tryz.func189
def aeh:=@Classical.em
def aek:=@Proofs.Tryz.func155
def aen:=@getD_in
def aeE:=@Proofs.Tryz.func31
def aeF:=@Proofs.Tryz.func63
def aeG:=@Proofs.Tryz.func70
def aeH:=@Proofs.Tryz.func67
def aeI:=@Int.one_mul
def aeJ:=@Proofs.Tryz.func97
def aeK:=@Nat.gcd_rec
def aeL:=@setRow_heap
def aeM:=@Rat.mul_pos
def aW{p:Prop}(h:p):Hid p:=Lib.hid h
def _root_.Go.RowKit.Hid.o{p:Prop}(h:Hid p):p:=h.out
instance : Coe Int Value := ⟨.int .i64⟩
instance : Coe Nat Value := ⟨fun k=>.int .i64 k⟩
instance : Coe Bool Value := ⟨.bool⟩
instance : Coe ByteArray Value := ⟨.string⟩
instance : Coe Unit Value := ⟨fun _=>.slice δ 0 0⟩
inductive Mc where
 | aJ
 | aK
 | aQ2
 | aQ3
 | aQ4
 | aQ5
 | aQ6
 | aM (g o : Nat)
 | aN (g o : Nat)
 | aL (w : World) (a : Array Value) (t : Nat)
open Mc
instance : CoeDep Mc aJ Value := ⟨.int .i64 0⟩
instance : CoeDep Mc aK Value := ⟨.int .i64 1⟩
instance : CoeDep Mc aQ2 (Array Value) := ⟨#[.bool ζ,.slice δ 0 0,.bool ζ,.slice δ 0 0]⟩
instance : CoeDep Mc aQ3 (Array Value) := ⟨#[.bool ζ,.slice δ 0 0,.bool ζ,.slice δ 0 0,.bool ζ,.slice δ 0 0]⟩
instance : CoeDep Mc aQ4 (Array Value) := ⟨#[.bool ζ,.slice δ 0 0,.bool ζ,.slice δ 0 0,.bool ζ,.slice δ 0 0,.bool ζ,.slice δ 0 0]⟩
instance : CoeDep Mc aQ5 (Array Value) := ⟨#[.bool ζ,.slice δ 0 0,.bool ζ,.slice δ 0 0,.bool ζ,.slice δ 0 0,.bool ζ,.slice δ 0 0,.bool ζ,.slice δ 0 0]⟩
instance : CoeDep Mc aQ6 (Array Value) := ⟨#[.bool ζ,.slice δ 0 0,.bool ζ,.slice δ 0 0,.bool ζ,.slice δ 0 0,.bool ζ,.slice δ 0 0,.bool ζ,.slice δ 0 0,.bool ζ,.slice δ 0 0]⟩
instance {g o} : CoeDep Mc (aM g o) Addr := ⟨⟨g,o,δ⟩⟩
instance {g o} : CoeDep Mc (aN g o) Value := ⟨.pointer (γ ⟨g,o,δ⟩)⟩
def aT (n : Nat) : Value -> World -> Nat := fun v _=>n-(intOf v).toNat
instance {w a t} : CoeDep Mc (aL w a t) World := ⟨w.alloc (.cells a t)⟩
def AaH{p:Prop}(t:p:=by
 rcases Nq j n with h|h
 .exact h
 .exact absurd hj (tail_waits hs hc hn inv _ i rfl I U j h)):p:=t
def AaY{p:Prop}(t:p:=by rw[aaU] at Z;cases Z):p:=t
def Acc{p:Prop}(t:p:=by cases h):p:=t
def Aa4{p:Prop}(t:p:=by rw[M];simp only[rQ,Fs];exact⟨fun h=>(by rw[hS] at h;cases h),fun H T B O=>(by rw[hS] at B;cases B;rw[hF] at O;cases O;exact⟨hs,hp⟩),K _ _ _ _⟩):p:=t
def Ach{p:Prop}(t:p:=by simpa using h):p:=t
def Ab7{p:Prop}(t:p:=by
 rw[Y] at K;have e:n+(l.toArray.size-n)=l.toArray.size:=by simp at hn⊢;omega
 rw[e] at K;refine adu R ?_;simpa using K):p:=t
def Ab8{p:Prop}(t:p:=by
 rw[Y] at L;have e:n+(l.toArray.size-n)=l.toArray.size:=by simp at hn⊢;omega
 rw[e] at L;refine adu T ?_;simpa using L):p:=t
def aV{p:Prop}(t:p:=by simp[aT,intOf];omega):p:=t
def Aa8{p:Prop}(t:p:=by assumption):p:=t
def AdH{p:Prop}(t:p:=by have HG:Hid (jm s 0=ζ):=aW (by rw[Y.o];simp[dW,fe];omega);go_wp2;go_ret;exact⟨bE (dS Yu HG.o).symm,rfl⟩):p:=t
def AdV{p:Prop}(t:p:=by have HG:Hid (jm s k=ζ):=aW (by rw[Y.o];simp[dW,fe];omega);go_wp2;go_ret;exact⟨bE (dS Yu HG.o).symm,rfl⟩):p:=t
def AdY{p:Prop}(t:p:=by rw[Y.o];simp[dW,fe];omega):p:=t
def AdZ{p:Prop}(t:p:=by skip;obtain⟨U,M,Z,D,R,F,H,C,S,I,V,K,N,L,T,G,P,W,J⟩:=nc4 B aa aa aa;exact AdH):p:=t
def Ad0{p:Prop}(t:p:=by skip;obtain⟨U,M,Z,D,R,F,H,C,S,I,V,K,N,L,T,G,P,W,J⟩:=nc4 B aa aa aa;exact AdV):p:=t
def Aad{p:Prop}(t:p:=by
 obtain⟨k,hk,rfl,ht⟩:=hrel;have HT:=aW ht;clear ht;by_cases Yu:k<s.size
 .have Yy:=Nw Yu;obtain⟨B,Yw⟩:∃n,wX s k=n:=⟨_,rfl⟩;have YA:B<256:=by rw[<-Yw];exact EG s k
  have Y:=aW (M6 Yw);rw[Yw] at Yy;clear Yw;by_cases Yv:k=0
  .subst Yv;by_cases O:B<=47
   .skip;obtain⟨U,M,Z,D,R,F,H,C,S,I,V,K,N,L,T,G,P,W,J⟩:=nc0 B aa aa;exact AdH
   have g0:47<B:=aa;clear O;by_cases Zp:B<=57
   .skip;obtain⟨U,M,Z,D,R,F,H,C,S,I,V,K,N,L,T,G,P,W,J⟩:=nc1 B aa aa;exact AdH
   have g1:57<B:=aa;clear Zp;by_cases Zj:B<=64
   .skip;obtain⟨U,M,Z,D,R,F,H,C,S,I,V,K,N,L,T,G,P,W,J⟩:=nc2 B aa aa;exact AdH
   have g2:64<B:=aa;clear Zj;by_cases YR:B<=90
   .skip;obtain⟨U,M,Z,D,R,F,H,C,S,I,V,K,N,L,T,G,P,W,J⟩:=nc3 B aa aa;have HG:Hid (jm s 0=ε):=aW AdY;go_wp2_with fail
    go_round
    case rel=>exact⟨1,aa,au,jU HT.o HG.o⟩
    case measure=>simp[aT,intOf]<;>omega
   have g3:90<B:=aa;clear YR;by_cases Yx:B<=94
   .exact AdZ
   have g4:94<B:=aa;clear Yx;by_cases YG:B<=95
   .skip;obtain⟨U,M,Z,D,R,F,H,C,S,I,V,K,N,L,T,G,P,W,J⟩:=nc5 B aa aa;exact AdH
   have g5:95<B:=aa;clear YG;by_cases YP:B<=96
   .exact AdZ
   have g6:96<B:=aa;clear YP;by_cases YL:B<=122
   .skip;obtain⟨U,M,Z,D,R,F,H,C,S,I,V,K,N,L,T,G,P,W,J⟩:=nc6 B aa aa;have HG:Hid (jm s 0=ε):=aW AdY;go_wp2_with fail
    go_round
    case rel=>exact⟨1,aa,au,jU HT.o HG.o⟩
    case measure=>simp[aT,intOf]<;>omega
   have g7:122<B:=aa;clear YL;obtain⟨U,M,Z,D,R,F,H,C,S,I,V,K,N,L,T,G,P,W,J⟩:=nc7 B aa aa;exact AdH
  .have z1:((k:Int)==0)=ζ:=ae;have z2:¬(k:Int)=0:=aa;by_cases O:B<=47
   .skip;obtain⟨U,M,Z,D,R,F,H,C,S,I,V,K,N,L,T,G,P,W,J⟩:=nc0 B aa aa;exact AdV
   have g0:47<B:=aa;clear O;by_cases Zp:B<=57
   .skip;obtain⟨U,M,Z,D,R,F,H,C,S,I,V,K,N,L,T,G,P,W,J⟩:=nc1 B aa aa;have HG:Hid (jm s k=ε):=aW AdY;go_wp2_with fail
    go_round
    case rel=>exact⟨k+1,aa,au,jU HT.o HG.o⟩
    case measure=>simp[aT,intOf]<;>omega
   have g1:57<B:=aa;clear Zp;by_cases Zj:B<=64
   .skip;obtain⟨U,M,Z,D,R,F,H,C,S,I,V,K,N,L,T,G,P,W,J⟩:=nc2 B aa aa;exact AdV
   have g2:64<B:=aa;clear Zj;by_cases YR:B<=90
   .skip;obtain⟨U,M,Z,D,R,F,H,C,S,I,V,K,N,L,T,G,P,W,J⟩:=nc3 B aa aa;have HG:Hid (jm s k=ε):=aW AdY;go_wp2_with fail
    go_round
    case rel=>exact⟨k+1,aa,au,jU HT.o HG.o⟩
    case measure=>simp[aT,intOf]<;>omega
   have g3:90<B:=aa;clear YR;by_cases Yx:B<=94
   .exact Ad0
   have g4:94<B:=aa;clear Yx;by_cases YG:B<=95
   .skip;obtain⟨U,M,Z,D,R,F,H,C,S,I,V,K,N,L,T,G,P,W,J⟩:=nc5 B aa aa;have HG:Hid (jm s k=ε):=aW AdY;go_wp2_with fail
    go_round
    case rel=>exact⟨k+1,aa,au,jU HT.o HG.o⟩
    case measure=>simp[aT,intOf]<;>omega
   have g5:95<B:=aa;clear YG;by_cases YP:B<=96
   .exact Ad0
   have g6:96<B:=aa;clear YP;by_cases YL:B<=122
   .skip;obtain⟨U,M,Z,D,R,F,H,C,S,I,V,K,N,L,T,G,P,W,J⟩:=nc6 B aa aa;have HG:Hid (jm s k=ε):=aW AdY;go_wp2_with fail
    go_round
    case rel=>exact⟨k+1,aa,au,jU HT.o HG.o⟩
    case measure=>simp[aT,intOf]<;>omega
   have g7:122<B:=aa;clear YL;obtain⟨U,M,Z,D,R,F,H,C,S,I,V,K,N,L,T,G,P,W,J⟩:=nc7 B aa aa;exact AdV
 .have Yz:k=s.size:=aa;subst Yz;go_wp2;go_ret;exact⟨bE (El hp hm HT.o).symm,rfl⟩):p:=t
def Acg{p:Prop}(t:p:=by go_wp2;go_ret;exact⟨bE Q.symm,rfl⟩):p:=t
def Aa5{p:Prop}(t:p:=by go_enter func66,ntmps66;(go_wp2_with (go_at_call 109;refine(bP _ _ _ _).mono ?_;rintro e w1 ⟨rfl,rfl⟩));go_ret;exact⟨bE V.symm,rfl⟩):p:=t
def Aa3{p:Prop}(t:p:=by go_enter func115,ntmps115;(go_wp2_with (go_at_call 116;refine(dP _ _ _ _).mono ?_;rintro e w1 ⟨rfl,rfl⟩));go_ret;exact⟨bE V.symm,rfl⟩):p:=t
def Aaf{p:Prop}(t:p:=by go_enter func117,ntmps117;(go_wp2_with (first|(go_at_call 116;refine(dP _ _ _ _).mono ?_;rintro e w1 ⟨rfl,rfl⟩)|(go_at_call 115;refine(cZ ⟨_,_⟩ _).mono ?_;rintro e w1 ⟨rfl,rfl⟩)));go_ret;exact⟨bE V.symm,Ext.new _ _⟩):p:=t
def AbM{p:Prop}(t:p:=by go_enter func117,ntmps117;(go_wp2_with (first|(go_at_call 116;refine(dP _ _ _ _).mono ?_;rintro e w1 ⟨rfl,rfl⟩)|(go_at_call 115;refine(cZ ⟨_,_⟩ _).mono ?_;rintro e w1 ⟨rfl,rfl⟩)));go_ret;exact⟨bE V.symm,(Ext.new _ _).trans (Ext.new _ _)⟩):p:=t
def AcY{p:Prop}(t:p:=by simp[dA,h,F,G,I]):p:=t
def Aaa{p:Prop}(t:p:=by go_enter func111,ntmps111;(go_wp2_with (first|(go_at_call 109;refine(bP _ _ _ _).mono ?_;rintro e w1 ⟨rfl,rfl⟩)|(go_at_call 66;refine(bW ⟨_,_⟩ _).mono ?_;rintro e w1 ⟨rfl,rfl⟩)));go_quiet (fail);(go_wp2_with (first|(go_at_call 109;refine(bP _ _ _ _).mono ?_;rintro e w1 ⟨rfl,rfl⟩)|(go_at_call 66;refine(bW ⟨_,_⟩ _).mono ?_;rintro e w1 ⟨rfl,rfl⟩)));go_ret;exact⟨bE V.symm,(Ext.new _ _).drewN _⟩):p:=t
def AbK{p:Prop}(t:p:=by go_enter func111,ntmps111;(go_wp2_with (first|(go_at_call 109;refine(bP _ _ _ _).mono ?_;rintro e w1 ⟨rfl,rfl⟩)|(go_at_call 66;refine(bW ⟨_,_⟩ _).mono ?_;rintro e w1 ⟨rfl,rfl⟩)));go_quiet (fail);(go_wp2_with (first|(go_at_call 109;refine(bP _ _ _ _).mono ?_;rintro e w1 ⟨rfl,rfl⟩)|(go_at_call 66;refine(bW ⟨_,_⟩ _).mono ?_;rintro e w1 ⟨rfl,rfl⟩)));go_ret;exact⟨bE V.symm,((Ext.new _ _).drewN _).trans (Ext.new _ _)⟩):p:=t
def AaM{p:Prop}(t:p:=by clear hc;go_enter func64,ntmps64;(go_wp2_with (first|(go_at_call 63;refine(F _).mono ?_;rintro e w1 ⟨rfl,rfl⟩)|(go_at_call 108;refine(DD _ _ _ _ _ _ h B).mono ?_;rintro e w1 ⟨rfl,rfl⟩)));go_ret;exact⟨aZ Q.symm,rfl⟩):p:=t
def Aas{p:Prop}(t:p:=by go_enter func110,ntmps110;go_wp2;go_ret;exact⟨aZ V.symm,(Ext.new _ _).trans (Ext.new _ _)⟩):p:=t
def Ab1{p:Prop}(t:p:=by simp[jK,btw]<;>omega):p:=t
def AcS{p:Prop}(t:p:=by have V:Hid (jK n1 n2 ⟨F,1,obj,en,⟨r,x⟩,B,D,ct,vt,sat,j⟩=9):=aW Ab1;exact Aas):p:=t
def Adf{p:Prop}(t:p:=by have V:Hid (jK n1 n2 ⟨F,2,obj,en,⟨r,x⟩,B,D,ct,vt,sat,j⟩=9):=aW Ab1;exact Aas):p:=t
def AaR{p:Prop}(t:p:=by go_enter func112,ntmps112;go_wp2;go_ret;exact⟨aZ V.symm,(Ext.new _ _).trans (Ext.new _ _)⟩):p:=t
def AbY{p:Prop}(t:p:=by rw[V.o];exact dO P.o F.o aj L):p:=t
def Acx{p:Prop}(t:p:=by rw[fJ];omega):p:=t
def Ac3{p:Prop}(t:p:=by rw[B] at f0;clear B;have q5:((bus:Int)==bus)=ε:=ag;go_wp2;go_quiet (fail);go_wp2;go_ret;exact⟨aZ AbY,((D.trans M.o).alloc _).drewN _⟩):p:=t
def Adl{p:Prop}(t:p:=by have:=hc 0 _ rfl;rwa[aaV] at this):p:=t
def Adw{p:Prop}(t:p:=by have F:Hid (iX n0 b k=9):=aW (by rw[C.o,θ Acx]);go_wp2;go_ret;exact⟨aZ AbY,(D.trans M.o).alloc _⟩):p:=t
def AdB{p:Prop}(t:p:=by have:=H.o;omega):p:=t
def Abl{p:Prop}(t:p:=by intro u j;obtain⟨x,_,rfl⟩:=aab.1 j;rfl):p:=t
def AaC{p:Prop}(t:p:=by simp[Value.oneCell']):p:=t
def Ab6{p:Prop}(t:p:=by simp[Value.ownBlock]):p:=t
def AcK{p:Prop}(t:p:=by rw[M.o,<-acN];simpa using D):p:=t
def AdA{p:Prop}(t:p:=by simp<;>omega):p:=t
theorem AdC{p:Prop}(t:p:=by unfold maxLen;omega):p:=t
def AaQ{p:Prop}(t:p:=by go_wp2_with fail;refine(xg nm A0 n0 c0 A1 n1 c1 A2 n2 c2 _ n3 c3 b h.A h.n h.c _ (M.ext (D.trans C.o))).mono ?_;rintro e w3 ⟨rfl,J⟩;go_wp2_with fail;go_ret;exact⟨aZ ac.symm,(D.trans C.o).trans J⟩):p:=t
def AcD{p:Prop}(t:p:=by have:=Z.o;omega):p:=t
def Aar{p:Prop}(t:p:=by go_enter aeE,adK;(go_wp2_with (first|(go_at_call 63;refine(F _).mono ?_;rintro e w1 ⟨rfl,rfl⟩)));go_quiet (fail);go_wp2_with fail;go_ret;exact⟨aZ V.symm,(Ext.new _ _).drewN _⟩):p:=t
def AbZ{p:Prop}(t:p:=by rw[<-h];exact HV.o):p:=t
def AcL{p:Prop}(t:p:=by rw[M.o];rfl):p:=t
theorem Ada{p:Prop}(t:p:=by
 intro h;have:tX s=ε:=by
  unfold tX;rw[G,S,YW,YH];simp;omega
 rw[hc] at this;cases this):p:=t
def Ado{p:Prop}(t:p:=by have d4:decide ((16:Int)<n3)=ζ:=ae;exact absurd ⟨aa,aa,aa,aa,aa⟩ HC.o):p:=t
def AbH{p:Prop}(t:p:=by have:=mW (hd.take n);rwa[Bn,aam aa] at this):p:=t
def Abi{p:Prop}(t:p:=by rw[Ex,Int.natAbs_natCast] at this;exact this):p:=t
def AaF{p:Prop}(t:p:=by simp only[aan,aa7];grind):p:=t
def Acn{p:Prop}(t:p:=by rw[GQ.bL,J.re,R.re,J.im,R.im];simp only[aan,abU];grind):p:=t
def Aam{p:Prop}(t:p:=by
 go_wp2;go_loopw [5] (fun i wr=>∃k:Nat,k<=n/\i=.int .i64 ((k:Int)-1)/\a.drop k=b.drop k/\Ext w wr) (fun i _=>(intOf i+1).toNat)
 case atStart=>exact⟨n,κ _,rfl,by rw[aak (by rw[P.o];omega),aak (by rw[O.o];omega)],Ext.refl _⟩
 case round=>
  obtain⟨k,hk,rfl,hd,D⟩:=hrel;have M:=aW hd;clear hd;by_cases T:k=0
  .subst T;go_wp2;go_ret;exact⟨aZ (MG (by have:=M.o;simp at this;rw[this])),D⟩
  .obtain⟨j,rfl⟩:∃j,k=j+1:=⟨k-1,aa⟩;obtain⟨ad,x,rfl,hb,J,G,U⟩:=(I.ext D).at_ (k:=j) aa;obtain⟨bd,y,rfl,Z,R,K,V⟩:=(L.ext D).at_ (k:=j) aa;have S:=aW J;clear J;have Q:=aW R;clear R;have q1:(0:Int)<=j:=aa;have q2:(j:Int)<n:=aa;rcases ab7 x y with H|H|H
   .go_wp2;go_quiet (fail);go_wp2;go_ret;exact⟨aZ (AO (vB I.dg S.o Q.o M.o H)),D.drewN _⟩
   .subst H;go_wp2;go_quiet (fail);go_wp2;go_quiet (fail);go_wp2;go_roundw
    case rel=>exact⟨j,aa,au,Fa S.o Q.o M.o,by first|exact(D.drewN _).drewN _|exact D.drewN _⟩
    case measure=>simp[aT,intOf]<;>omega
   .go_wp2;go_quiet (fail);go_wp2;go_quiet (fail);go_wp2;go_ret;exact⟨aZ (AZ (vB L.dg Q.o S.o M.symm H)),by first|exact(D.drewN _).drewN _|exact D.drewN _⟩):p:=t
def Acm{p:Prop}(t:p:=by go_wp2;go_ret;exact⟨aZ (AO (Ay I.dg Y (by rw[P.o,O.o];exact N))),Ext.refl _⟩):p:=t
def AcV{p:Prop}(t:p:=by go_wp2;go_ret;exact⟨aZ (AZ (Ay L.dg C (by rw[P.o,O.o];exact F))),Ext.refl _⟩):p:=t
def Aa6{p:Prop}(t:p:=by intro v1 w1 D C;go_wp2;go_ret;exact⟨_,rfl,⟨aft D (qx _),fun g C=>(D.lt g C).1⟩,gu C (Ext.new _ _) (by simp[Value.ownBlock])⟩):p:=t
def AaN{p:Prop}(t:p:=by go_wp2;go_ret;exact⟨bE (by rw[C.o]),Ext.new _ _⟩):p:=t
def Aco{p:Prop}(t:p:=by go_enter func96,ntmps96;exact AaN):p:=t
def Ack{p:Prop}(t:p:=by go_enter func178,ntmps178;exact AaN):p:=t
def Abq{p:Prop}(t:p:=by rw[j];omega):p:=t
def AbA{p:Prop}(t:p:=by rw[<-ω];congr 1;omega):p:=t
def AaX{p:Prop}(t:p:=by refine(kL _ (k+1) (k+1) (o++[I]) _ (RM.blk O (U.append (Dig.one aa)) (by simp[T.o]) aa)).mono ?_;rintro e w1 ⟨v1,rfl,hR,H⟩;rw[N] at hR;go_wp2;go_ret;exact⟨_,rfl,hR,j.trans H⟩):p:=t
def Ab0{p:Prop}(t:p:=by rw[V.o];omega):p:=t
def AcF{p:Prop}(t:p:=by have:=S.o;rw[χ (by rw[HA.o];omega),χ Ab0] at this;rw[kG,T.o];exact this):p:=t
def Ab2{p:Prop}(t:p:=by have:=D.size;simp;omega):p:=t
def AdL{p:Prop}(t:p:=by go_wp2;go_ret;exact⟨_,rfl,hR,D.trans H⟩):p:=t
def Aa0{p:Prop}(t:p:=by
 rintro e w1 ⟨v1,rfl,hR,H⟩;have N:val p=val a*val b:=by rw[HV.o,χ (by rw[HA.o];omega)]
 rw[N] at hR;exact AdL):p:=t
def AcT{p:Prop}(t:p:=by rw[show((x':Int)*(y:Int))=((x'*y:Nat):Int) by simp,<-ht];omega):p:=t
def Aa9{p:Prop}(t:p:=by go_enter func217,ntmps217;go_wp2;go_ret;exact⟨_,rfl,⟨_,_,_,rfl,by simpa[val,iZ] using afn⟩,Ext.refl _⟩):p:=t
def Abd{p:Prop}(t:p:=by go_ret;exact⟨_,rfl,RS _ _ _ _,Ext.refl _⟩):p:=t
def Aay{p:Prop}(t:p:=by rintro e w2 ⟨v2,rfl,⟨u,rfl,A2,n2,c2,rfl,Q⟩,P⟩;rw[bf,bf,bf] at Q;rw[bf,bf,bf];have P:=H.trans P;go_wp2;refine I _ _ ⟨⟨w2,P⟩,rfl⟩ ?_;clear I K;refine bD [8,9] [] _ ah ?_;refine Gq ?_;have P:=N.trans P;simp only[dh,ξ,τ];have b4:=mE P;have c4:=b4.cell;have f4:=b4.frozen;obtain⟨C,R,O⟩:=jO (fZ P) aa b4 _ A2 n2 c2;have W:=aW C;have U:=aW R;have Y:=aW (O _ _ _ _ Q);clear C R O;go_wp2;exact iK rfl rfl rfl U.o ⟨_,rfl,⟨_,rfl,_,_,_,rfl,Y.o⟩,W.o⟩):p:=t
def AaJ{p:Prop}(t:p:=by have j:=P.trans j;have b4:=mE j;have c4:=b4.cell;have Y:=b4.frozen;obtain⟨C,I,F⟩:=jO (fZ j) aa b4 _ A2 n2 c2;have K:=aW C;have U:=aW I;have N:=aW (F _ _ _ _ G);clear C I F;go_wp2;exact iK rfl rfl rfl U.o ⟨_,rfl,⟨_,rfl,_,_,_,rfl,N.o⟩,K.o⟩):p:=t
def AbC{p:Prop}(t:p:=by go_wp2;exact iK rfl rfl rfl U.o ⟨_,rfl,⟨_,rfl,_,_,_,rfl,Z.o⟩,Y.o⟩):p:=t
def Acr{p:Prop}(t:p:=by go_wp2;exact iK rfl rfl rfl U.o ⟨_,rfl,⟨_,rfl,_,_,_,rfl,K3.o⟩,K1.o⟩):p:=t
def Aav{p:Prop}(t:p:=by refine bC 8 [(ε,9),(ε,10)] ah ?_;intro K I;simp only[bJ];go_wp2_with fail;refine(kH v4 _ _ D).mono ?_;rintro e w5 ⟨v5,rfl,⟨u,rfl,A2,n2,c2,rfl,hI⟩,j⟩;have j:=G.trans j;go_wp2;refine I _ _ ⟨⟨w5,j⟩,rfl⟩ ?_;clear I K;refine bD [9,10] [] _ ah ?_;refine Gq ?_;have W:=P.trans j;simp only[dh,ξ,τ];have b4:=mE W;have c4:=b4.cell;have f4:=b4.frozen;obtain⟨C,k2,k3⟩:=jO (fZ W) aa b4 _ A2 n2 c2;have K1:=aW C;have U:=aW k2;have K3:=aW (k3 _ _ _ _ hI);clear C k2 k3;go_wp2;exact iK rfl rfl rfl U.o ⟨_,rfl,⟨_,rfl,_,_,_,rfl,K3.o⟩,K1.o⟩):p:=t
def Abj{p:Prop}(t:p:=by rintro e I ⟨rfl,j⟩;go_wp2;go_ret;exact⟨aZ (by rw[bf,bf,MR (x:=x) (y:=y) aa aa]),(pG P).trans j⟩):p:=t
def Acf{p:Prop}(t:p:=by rintro e I ⟨rfl,j⟩;go_wp2;go_ret;exact⟨aZ (by rw[bf,bf,Mm (x:=x) (y:=y) aa aa]),(pG P).trans j⟩):p:=t
def AcQ{p:Prop}(t:p:=by have D:decide (y<0)=ζ:=ρ C;go_wp2;go_ret;exact⟨aZ (Ni aa aa),pG P⟩):p:=t
def Ade{p:Prop}(t:p:=by have D:decide (y<0)=ε:=Λ C;go_wp2;go_ret;exact⟨aZ (NQ aa aa),pG P⟩):p:=t
def AbB{p:Prop}(t:p:=by rintro e w1 ⟨rfl,H⟩;go_wp2;go_ret;exact⟨rfl,(Ext.new w _).trans H⟩):p:=t
def AaB{p:Prop}(t:p:=by have j:=H.trans j;have b4:=(Blk.new w 40 _).ext j;have c4:=b4.cell;have R:=b4.frozen;obtain⟨C,J,G⟩:=jO ((Ext.new w _).trans j) aa b4 (decide (z<0)) A2 n2 c2;have L:=aW C;have U:=aW J;have M:=aW (G _ _ _ _ I);clear C J G;go_wp2;exact fK rfl rfl rfl U.o ⟨_,rfl,B.subst (motive:=fun t=>RI _ (iv (decide (z<0)) A2 n2 c2) t) (show RI _ (iv (decide (z<0)) A2 n2 c2) z from ⟨_,_,_,rfl,M.o⟩),L.o⟩):p:=t
def AaD{p:Prop}(t:p:=by refine⟨k+1,x*2^s/4294967296,o++[z+x*2^s%4294967296],aa,au,by simp[T.o],pV G,Mr T.o Z.o R.o,?_,(D.setCell (κ _) _).setCell (κ _) _⟩;have U:=(Q.set (k:=k) (VV G hs H) (C8 (aah hs) H)).set (k:=k+1) (VG G hs) (ο (pV G) (by rw[<-yc (show s<=32 by omega)];exact Nat.le_mul_of_pos_right _ (Na aa)));rwa[G8 T.o j] at U):p:=t
def AcJ{p:Prop}(t:p:=by rw[nG (by rw[T.o];exact κ _),T.o,aaW] at N;simpa using N.symm):p:=t
def Adb{p:Prop}(t:p:=by simp[T.o];omega):p:=t
def Abu{p:Prop}(t:p:=by rw[show((g:Int)*(v0:Int))=((g*v0:Nat):Int) by simp,<-Z];omega):p:=t
def Abx{p:Prop}(t:p:=by
 rcases BB b with h|h
 .subst h;rw[iZ] at Z;simp at Z
 .exact h):p:=t
def AaW{p:Prop}(t:p:=by rw[C.o];omega):p:=t
def Ab3{p:Prop}(t:p:=by have h1:=Zg.o.2;rw[Zn.o,CF] at h1;rw[GL hU.2 AaW,h1,Nat.mul_div_cancel _ (Na aa)];have h2:=YF.o.2;rw[τ] at h2;omega):p:=t
def AcC{p:Prop}(t:p:=by refine afU YJ ?_;rw[YK];exact Jv YJ (eG (by rw[ZE.o];exact κ _)) (by have:=Bq Za.o aa;simpa using this) aa aa):p:=t
def Ac5{p:Prop}(t:p:=by have h1:=HN.ge;have h2:0<4294967296^(n+1):=Na aa;have h3:0<2147483648*4294967296^(n+1):=Nat.mul_pos aa h2;omega):p:=t
def Adm{p:Prop}(t:p:=by
 have h1:iy wr w3.heap.size qs:=by simpa using hq
 exact h1.rm (by have:=ZX.o;omega) aa):p:=t
def Adx{p:Prop}(t:p:=by have h1:=eQ (n:=b) (k:=la) (ψ Yx (eG (by have:=ZE.o;omega)));omega):p:=t
def Aai{p:Prop}(t:p:=by
 obtain⟨u6,rfl,A6,n6,c6,rfl,YE⟩:=j;have e6:=K1.trans Q;have I:=U.ext Q;have K:=YF.ext Q;have F:=Z.ext Q;have ZH:=I.cell;have YN:=I.frozen;have Zz:=K.cell;have YU:=K.frozen;clear YJ f4;go_wp2_with fail;obtain⟨m1,m2,m3⟩:=jO e6 aa K (decide (zr<0)) A6 n6 c6;have m4:=(I.far (p:=aM (w.heap.size+3) 0) ag (.bool (decide (zr<0)))).far (p:=aM (w.heap.size+3) 1) ag (.slice A6 n6 c6);have m5:=m3 _ _ _ _ F;have m6:=m3 _ _ _ _ YE;clear m3 ZH YN Zz YU I K F YE Z Zq YF K1 U e6;rw[show w.heap.size+1+1+1=w.heap.size+3 from rfl];generalize (w6.setCell ⟨w.heap.size+3,0,δ⟩ (.bool (decide (zr<0)))).setCell ⟨w.heap.size+3,1,δ⟩ (.slice A6 n6 c6)=w7 at*
 have p4:w7.cell? (aM (w.heap.size+1+1) 0)=γ (.bool (decide (zq<0))):=by have:=m4.cell 0;simpa using this
 have YW:w7.cell? (aM (w.heap.size+1+1) 1)=γ (aO A4 n4 c4):=by have:=m4.cell 1;simpa using this
 have p5:w7.cell? (aM (w.heap.size+3) 0)=γ (.bool (decide (zr<0))):=by have:=m2.cell 0;simpa using this
 have Zc:w7.cell? (aM (w.heap.size+3) 1)=γ (aO A6 n6 c6):=by have:=m2.cell 1;simpa using this
 have g4:w7.frozen? ⟨w.heap.size+1+1,0,δ⟩=ζ:=m4.frozen 0;have YZ:w7.frozen? ⟨w.heap.size+1+1,1,δ⟩=ζ:=m4.frozen 1;have g5:w7.frozen? ⟨w.heap.size+3,0,δ⟩=ζ:=m2.frozen 0;have YY:w7.frozen? ⟨w.heap.size+3,1,δ⟩=ζ:=m2.frozen 1;go_region;go_wp2;obtain⟨n1,n2,n3⟩:=jO m1 aa m4 (decide (zq<0)) A4 n4 c4;have YH:=(m2.far (p:=aM (w.heap.size+2) 0) ag (.bool (decide (zq<0)))).far (p:=aM (w.heap.size+2) 1) ag (.slice A4 n4 c4);obtain⟨o1,o2,o3⟩:=jO n1 aa YH (decide (zr<0)) A6 n6 c6;have o4:=(n2.far (p:=aM (w.heap.size+3) 0) ag (.bool (decide (zr<0)))).far (p:=aM (w.heap.size+3) 1) ag (.slice A6 n6 c6);have r4:=o3 _ _ _ _ (n3 _ _ _ _ m5);have r5:=o3 _ _ _ _ (n3 _ _ _ _ m6);rw[<-G.o,<-YA.o];exact yH rfl rfl rfl (o4.ext (Ext.refl _).drew) rfl (o2.ext (Ext.refl _).drew) ⟨_,rfl,⟨_,_,rfl,⟨_,_,_,rfl,r4.ext (Ext.refl _).drew⟩,⟨_,_,_,rfl,r5.ext (Ext.refl _).drew⟩⟩,o1.drew⟩):p:=t
def Aca{p:Prop}(t:p:=by have h1:=hR.len;have h2:=eQ (n:=x.natAbs%y.natAbs) (k:=m) (abn Yy (eG (by rw[R.len];exact κ _)));omega):p:=t
def AdG{p:Prop}(t:p:=by rintro e w7 ⟨v7,rfl,⟨A7,n7,Z,rfl,YF⟩,Y⟩;have Y:=Y.jJ;go_wp2;refine I _ _ ⟨⟨w7,Y⟩,rfl⟩ ?_;clear I K;simp only[dh,ξ,τ];have C:=YN.trans Y;have b4:=Ii C;have b5:=Iz C;have c4:=b4.cell;have f4:=b4.frozen;have YZ:=b5.cell;have f5:=b5.frozen;obtain⟨n1,n2,n3⟩:=jO (yP C) aa b4 (decide (zq<0)) A5 n5 c5;have YH:=(b5.far (p:=aM (w.heap.size+2) 0) ag (.bool (decide (zq<0)))).far (p:=aM (w.heap.size+2) 1) ag (.slice A5 n5 c5);rw[bf,<-ac.o] at YF;rw[bf,<-ac.o];obtain⟨o1,o2,o3⟩:=jO n1 aa YH (decide (zr<0)) A7 n7 Z;have o4:=(n2.far (p:=aM (w.heap.size+3) 0) ag (.bool (decide (zr<0)))).far (p:=aM (w.heap.size+3) 1) ag (.slice A7 n7 Z);have r4:=o3 _ _ _ _ (n3 _ _ _ _ (YE.ext Y));have r5:=o3 _ _ _ _ (n3 _ _ _ _ YF);have O1:=aW o1;have O2:=aW o2;have O4:=aW o4;have R4:=aW r4;have R5:=aW r5;clear n1 n2 n3 YH o1 o2 o3 o4 r4 r5;go_wp2;rw[<-G.o,<-YA.o];exact yH rfl rfl rfl O4.o rfl O2.o ⟨_,rfl,⟨_,_,rfl,⟨_,_,_,rfl,R4.o⟩,⟨_,_,_,rfl,R5.o⟩⟩,O1.o⟩):p:=t
def Aah{p:Prop}(t:p:=by
 have Q:zr=zOf ζ _:=YA.trans Zl.o.2;go_wp2_with fail;refine(iJ _ Aq nq cq _ _ hQ aa).mono ?_;rintro e w4 ⟨v4,rfl,D,Yw⟩;rw[bf] at D;rw[<-T] at D;have ac:=aW Q;clear Q T;have U:zq.natAbs<lim:=YD.o zq G.o;have W:=hR.ext Yw;have Yw:=Yv.trans Yw;clear c0 c1 hQ hR;go_wp2_with fail;refine(kH _ zq _ D).mono ?_;rintro e w5 ⟨v5,rfl,j,Yz⟩;rw[kW U] at j;obtain⟨u5,rfl,A5,n5,c5,rfl,F⟩:=j;have YG:=W.ext Yz;have Yz:=Yw.trans Yz;clear D W;go_wp2_with fail;have Y9:=aX.blk (Blk.new w5 40 #[(decide (zq<0)),aO A5 n5 c5]);have YN:=Yz.trans (Ext.new w5 (.cells #[(decide (zq<0)),aO A5 n5 c5] 40));have YV:=YG.ext (Ext.new w5 (.cells #[(decide (zq<0)),aO A5 n5 c5] 40));have YE:=F.ext (Ext.new w5 (.cells #[(decide (zq<0)),aO A5 n5 c5] 40));generalize w5.alloc (.cells #[(decide (zq<0)),aO A5 n5 c5] 40)=w6 at*
 refine bO 3 [(ε,0),(ε,1),(ζ,2)] ah ah ?_;refine bD [0,1] [(ζ,2)] _ ah ?_;refine Gq ?_;refine bC 2 [] ah ?_;intro K I;simp only[bJ];go_wp2_with fail;refine(iJ ζ Ar nr cr _ _ (YV.ext (Ext.refl w6).drew) aa).mono ?_;exact AdG):p:=t
def AaG{p:Prop}(t:p:=by have K1:=aW C;have U:=aW k2;have K3:=aW (k3 _ _ _ _ hI);clear C k2 k3;go_wp2;rw[<-YE.o,<-HZ.o];exact iK rfl rfl rfl U.o ⟨_,rfl,⟨_,rfl,_,_,_,rfl,K3.o⟩,K1.o⟩):p:=t
def Ab9{p:Prop}(t:p:=by have b4:=mE Yv;have c4:=b4.cell;have f4:=b4.frozen;obtain⟨C,k2,k3⟩:=jO (fZ Yv) aa b4 (decide (Z<0)) A2 n2 c2;exact AaG):p:=t
def AcZ{p:Prop}(t:p:=by
 rcases BB gk with h|h
 .exact h
 .exact absurd (YU.2 h) h0):p:=t
def Abh{p:Prop}(t:p:=by simp[World.setCell]):p:=t
def Aba{p:Prop}(t:p:=by have K:=aW I;clear I hs Y;go_enter adM,adv;go_wp2;go_ret;exact⟨bE (by simpa using K.o),Ext.new _ _⟩):p:=t
def Aaz{p:Prop}(t:p:=by rintro e w1 ⟨v1,rfl,j,H⟩;rw[Q.o] at j;obtain⟨u1,rfl,T⟩:=j;go_wp2_with fail;refine(vF g u1 z _ ((hc.ext Y).ext H) T).mono ?_;rintro e w2 ⟨V,rfl,G,P⟩;obtain⟨s2,A2,n2,c2,rfl,G⟩:=G.opn;have F:=H.trans P;have b4:=mE F;have c4:=b4.cell;have W:=b4.frozen;obtain⟨C,K,I⟩:=rU (fZ F) aa b4 s2 A2 n2 c2;have N:=aW C;have U:=aW K;have R:=aW (I _ _ G);clear C K I;go_wp2;exact fK rfl rfl rfl U.o ⟨_,rfl,R.o,N.o⟩):p:=t
def Aax{p:Prop}(t:p:=by obtain⟨s2,A2,n2,c2,rfl,G⟩:=G.opn;have J:=H.trans P;have b4:=mE J;have c4:=b4.cell;have f4:=b4.frozen;obtain⟨C,R,N⟩:=rU (fZ J) aa b4 s2 A2 n2 c2;have W:=aW C;have U:=aW R;have Z:=aW (N _ _ G);clear C R N;go_wp2;exact fK rfl rfl rfl U.o ⟨_,rfl,Z.o,W.o⟩):p:=t
def AaP{p:Prop}(t:p:=by exact fK rfl rfl rfl (hS.aH 0) ⟨_,rfl,(hS.aF 0),hS.ext⟩):p:=t
def AaT{p:Prop}(t:p:=by go_wp2;replace hS:=hS.pt 2 0 [.bool Zt,.slice Zd Zv Zr,.bool YK,.slice YD YE Zk,.bool ZZ,.slice Zg ac ZY] o8;exact dG rfl rfl rfl (hS.aH 2) ⟨_,rfl,RG.mk (hS.aF 2) (hS.aF 1) (hS.aF 0),hS.ext⟩):p:=t
def Abe{p:Prop}(t:p:=by
 rcases F with h|h
 .left;intro e;rw[e] at U;simp at U;exact h U
 .right;intro e;rw[e] at eq;simp at eq;exact h eq):p:=t
def Acd{p:Prop}(t:p:=by
 rcases R with h|h
 .left;intro e;rw[e] at B;simp at B;exact h B
 .right;intro e;rw[e] at j;simp at j;exact h j):p:=t
def AcW{p:Prop}(t:p:=by
 have:=e6.symm;rcases ack.1 this with h|h
 .exact absurd h ac
 .exact h):p:=t
def AaK{p:Prop}(t:p:=by replace hS:=hS.mv F;clear F;go_wp2;go_ret;exact⟨bE (rfl),hS.ext⟩):p:=t
def Aaj{p:Prop}(t:p:=by rintro e w2 ⟨v_,rfl,M,F⟩;replace hS:=hS.mv F;clear F;obtain⟨_,rfl,j⟩:=M;obtain⟨W,K,P,S,rfl,C⟩:=RI.opn j;clear j;replace hS:=hS.bI C;clear C;have o5:Own w w2.heap.size:=aeX hS.ext ag;have U:=(St.al hS 40 #[ζ,()] (g:=w2.heap.size) ag);have YR:=(U.aH 0).cell;have YS:=(U.aH 0).frozen;have I:=(St.al hS 40 #[W,aO K P S] (g:=w2.heap.size) ag);have Zh:=(I.aH 0).cell;have Zl:=(I.aH 1).cell;have Zm:=(I.aH 1).frozen;go_wp2;replace hS:=(St.al hS 40 #[W,aO K P S] (g:=w2.heap.size) ag).pt 1 0 [.bool W,.slice K P S] o4;exact fK rfl rfl rfl (hS.aH 1) ⟨_,rfl,(hS.aF 0),hS.ext⟩):p:=t
def AaU{p:Prop}(t:p:=by go_wp2;replace hS:=hS.pt 1 0 [.bool Zc,.slice YP YQ Za,.bool ad,.slice YZ af ai,.bool Zr,.slice Ze Zn Zt] o6;exact dG rfl rfl rfl (hS.aH 1) ⟨_,rfl,RG.mk (hS.aF 2) (hS.aF 1) (hS.aF 0),hS.ext⟩):p:=t
def Aao{p:Prop}(t:p:=by intro aP ZG av ao ai ZQ;refine Ei (fun R I=>Dy _ _ YS N YR _ (I.f 15 ((iv Zy Zp Zw Zz),ZL,ZK)) (I.f 20 ((iv aP ZG av ao),ai,ZQ)) ZE ZA aE.o Z8) ?_;intro ar Z7 aq aB ZW ac;refine Qs ?_;refine Ei (fun R I=>jY _ _ Zg YO YU _ (hS.aD 3 I.1) (hS.aD 0 I.1) YT Za Zo.o Zx) ?_;intro Zt Zd Zv Zr ZT ZR;refine Eg (fun R I=>CK _ _ _ K YR YU F M B _ (I.f 10 ((iv Zf YW Ze Zn),ZV,Zc)) (I.f 21 ((iv ar Z7 aq aB),ZW,ac)) (I.f 26 ((iv Zt Zd Zv Zr),ZT,ZR)) YZ Z8 Zx am.o az.o) ?_;intro ZN ZH ZY af ZX ZI ZZ ZP ZO ZJ Z9 ad a4 a3;refine bN ?_;intro w2 I;have j:=hS.lt;replace hS:=hS.mv I.ext;replace hS:=hS.aI I 4;replace hS:=hS.aI I 9;replace hS:=hS.aI I 10;replace hS:=hS.aI I 15;replace hS:=hS.aI I 20;replace hS:=hS.aI I 21;replace hS:=hS.aI I 26;replace hS:=hS.aG I 27;clear I j C Y3 Y2;have YN:=(hS.aH 0).cell;have YM:=(hS.aH 0).frozen;go_wp2;replace hS:=hS.pt 0 0 [.bool ZN,.slice ZH ZY af,.bool ZX,.slice ZI ZZ ZP,.bool ZO,.slice ZJ Z9 ad] o4;exact dG rfl rfl rfl (hS.aH 0) ⟨_,rfl,RG.mk (hS.aF 2) (hS.aF 1) (hS.aF 0),hS.ext⟩):p:=t
def Aak{p:Prop}(t:p:=by rintro e w4 ⟨v_,rfl,M,F⟩;replace hS:=hS.mv F;clear F;obtain⟨ZA,Zt,ZB,Zy,Zw,Zq,Zx,Zz,ZE,Zr,ZC,Zv,rfl,R,K,C⟩:=M;replace hS:=hS.bI R;clear R;replace hS:=hS.bI K;clear K;replace hS:=hS.bI C;clear C;go_wp2_with fail;refine(pQ g6 _ YT YU YV _ (hS.aH 0) (RG.mk (hS.aF 2) (hS.aF 1) (hS.aF 0))).mono ?_;rintro e w5 ⟨v_,rfl,M,F⟩;replace hS:=hS.mv F;clear F;obtain⟨_,rfl,Zd,YW,Zf,Zc,Zm,YZ,Zn,Zo,Zk,YY,Za,Ze,rfl,j,N,I⟩:=M;replace hS:=hS.bI j;clear j;replace hS:=hS.bI N;clear N;replace hS:=hS.bI I;clear I;have Zh:=(hS.aH 2).cell;have Zl:=(hS.aH 2).frozen;go_wp2;replace hS:=hS.pt 2 0 [.bool Zd,.slice YW Zf Zc,.bool Zm,.slice YZ Zn Zo,.bool Zk,.slice YY Za Ze] o4;exact nI rfl rfl rfl (hS.aH 2) ⟨_,rfl,⟨_,rfl,⟨_,_,_,RG.mk (hS.aF 2) (hS.aF 1) (hS.aF 0),YX,Zp⟩⟩,hS.ext⟩):p:=t
def AbG{p:Prop}(t:p:=by rw[acS];intro e;exact h (L.zero.1 e)):p:=t
def Aaq{p:Prop}(t:p:=by rintro e w5 ⟨v_,rfl,M,F⟩;replace hS:=hS.mv F;clear F;obtain⟨ZB,Zw,ZH,ZE,ZA,Zy,Zz,ZI,ZF,Zx,ZC,ZG,rfl,K,C,j⟩:=M;replace hS:=hS.bI K;clear K;replace hS:=hS.bI C;clear C;replace hS:=hS.bI j;clear j;go_wp2_with fail;refine(pQ g6 _ YV YT YU _ (hS.aH 0) (RG.mk (hS.aF 2) (hS.aF 1) (hS.aF 0))).mono ?_;rintro e w6 ⟨v_,rfl,M,F⟩;replace hS:=hS.mv F;clear F;obtain⟨_,rfl,Zk,YY,Zo,Zt,Zv,YZ,Zc,Za,Zq,YX,Zd,Zr,rfl,I,N,R⟩:=M;replace hS:=hS.bI I;clear I;replace hS:=hS.bI N;clear N;replace hS:=hS.bI R;clear R;have Zl:=(hS.aH 2).cell;have Zm:=(hS.aH 2).frozen;go_wp2;replace hS:=hS.pt 2 0 [.bool Zk,.slice YY Zo Zt,.bool Zv,.slice YZ Zc Za,.bool Zq,.slice YX Zd Zr] o4;exact nI rfl rfl rfl (hS.aH 2) ⟨_,rfl,⟨_,rfl,⟨_,_,_,RG.mk (hS.aF 2) (hS.aF 1) (hS.aF 0),YW,Ze⟩⟩,hS.ext⟩):p:=t
theorem Aa1{p:Prop}(t:p:=by refine⟨_,rfl,ο B m.size,fun j u H=> ?_⟩;rw[add_plain];have F:=hc j u H;unfold World.cell? at F⊢;have G:=m.block b B C;simp only[G];exact F):p:=t
def Abv{p:Prop}(t:p:=by rw[abV,adH];simp):p:=t
def Ab5{p:Prop}(t:p:=by rw[bM];omega):p:=t
def AbS{p:Prop}(t:p:=by intro e;injection e with e;omega):p:=t
def AcB{p:Prop}(t:p:=by simp at hb;rcases hb with rfl|rfl<;>first|exact R|exact J):p:=t
def Ac6{p:Prop}(t:p:=by go_wp2;go_ret;exact⟨aZ HV.symm,Zr.trans (((Ext.new _ _).alloc _).mono ae),fun e=>absurd (HV.symm.trans e) aj⟩):p:=t
def Adj{p:Prop}(t:p:=by go_wp2;go_ret;exact⟨aZ V.symm,Zr.o,fun e=>absurd (V.symm.trans e) HN.o⟩):p:=t
def AdD{p:Prop}(t:p:=by go_wp2;go_ret;exact⟨aZ HV.symm,Zr.trans ((Ext.new _ _).mono ae),fun e=>absurd (HV.symm.trans e) aj⟩):p:=t
def AdF{p:Prop}(t:p:=by rw[<-HE.o,ι rfl]):p:=t
def AcA{p:Prop}(t:p:=by simp at hb;rcases hb with rfl|rfl<;>first|exact YD|exact R):p:=t
def Adv{p:Prop}(t:p:=by go_wp2;go_ret;exact⟨aZ HV.symm,Zr.o,fun e=>absurd (HV.symm.trans e) aj⟩):p:=t
def AdI{p:Prop}(t:p:=by go_wp2_with fail;go_quiet ((go_at_call 116;exact aa0 (HW.o _)));clear F;go_wp2_with fail;go_ret;exact⟨aZ (by rw[V.o];exact dO HZ.o W.o aj Yu),((D.trans HX.o).alloc _).drewN _⟩):p:=t
def Aan{p:Prop}(t:p:=by
 by_cases Yv:k=0
 · subst Yv;rw[aaV,I6] at e0 e1;exact AdI
 · obtain rfl:k=1:=aa;rw[show lo+1*2=lo+2 from rfl] at e0 e1;exact AdI):p:=t
def AbR{p:Prop}(t:p:=by rw[S] at f0;clear S;have q5:((bus:Int)==bus)=ε:=ag;go_wp2_with fail;go_quiet ((go_at_call 116;exact aa0 (HW.o _)));clear F;go_wp2_with fail;go_quiet (fail);go_wp2;go_ret;exact⟨aZ (by rw[V.o];exact dO HZ.o W.o aj Yu),(((D.trans HX.o).alloc _).drewN _).drewN _⟩):p:=t
def Acy{p:Prop}(t:p:=by go_enter func118,ntmps118;go_wp2;go_ret;exact⟨aZ V.symm,Ext.new _ _⟩):p:=t
def Ac2{p:Prop}(t:p:=by simp at hb;rcases hb with rfl|rfl<;>first|exact YD|exact YL):p:=t
def AdE{p:Prop}(t:p:=by simpa using q3):p:=t
def AaO{p:Prop}(t:p:=by go_wp2_with fail;go_ret;exact⟨aZ Y.o,W.o,fun e=>absurd (Y.trans e) HE.o⟩):p:=t
def AbU{p:Prop}(t:p:=by go_wp2_with fail;go_ret;exact⟨aZ (dI HZ.o).symm,HX.o,fun _=>HB.o⟩):p:=t
def Ac9{p:Prop}(t:p:=by have:=YJ.o;omega):p:=t
def Ads{p:Prop}(t:p:=by have:=T.o;omega):p:=t
def Aat{p:Prop}(t:p:=by go_enter func40,ntmps40;go_wp2_with fail;refine(NM.o _).mono ?_;rintro e w1 ⟨rfl,rfl⟩;go_wp2;go_ret;exact⟨aZ V.symm,D.o⟩):p:=t
def AbV{p:Prop}(t:p:=by clear h0;go_wp2;go_ret;exact⟨aZ HV.symm,D.trans (R.mono (by rw[<-HM.o];exact κ _))⟩):p:=t
def AcH{p:Prop}(t:p:=by rw[HM.o];exact κ _):p:=t
def Aag{p:Prop}(t:p:=by go_enter func41,ntmps41;go_wp2;go_ret;exact⟨aZ C.symm,(Ext.new _ _).trans (Ext.new _ _)⟩):p:=t
def AbP{p:Prop}(t:p:=by
 by_cases g1:f.r<0
 .have M:decide (f.r<0)=ε:=ae;have C:Hid (fD n0 n1 f=2):=aW (by rw[Q.o,ι (.inl g1)]);exact Aag
 have M:decide (f.r<0)=ζ:=ae;by_cases g2:1000<f.r
 .have F:decide (1000<f.r)=ε:=ae;have C:Hid (fD n0 n1 f=2):=aW (by rw[Q.o,ι (.inr g2)]);exact Aag
 have F:decide (1000<f.r)=ζ:=ae;have C:Hid (fD n0 n1 f=0):=aW (by rw[Q.o,θ aa]);exact Aag):p:=t
def Acu{p:Prop}(t:p:=by have C:Hid (fD n0 n1 f=10):=aW (mo D (by have:=S.o;omega));exact Aag):p:=t
def Aac{p:Prop}(t:p:=by go_enter func16,ntmps16;go_wp2_with fail;refine W.mono ?_;rintro e w1 ⟨rfl,J⟩;have C:=(Y.ext J).cell;have k2:=(U.ext J).cell;have HX:=aW J;clear J;go_wp2;go_ret;exact⟨aZ (by rw[Yx.o];exact HV.symm),D.trans HX.o⟩):p:=t
def AbO{p:Prop}(t:p:=by
 by_cases g1:f.r<0
 .have M:decide (f.r<0)=ε:=ae;have HV:Hid (fD n0 n1 f=2):=aW (by rw[Q.o,ι (.inl g1)]);exact Aac
 have M:decide (f.r<0)=ζ:=ae;by_cases g2:1000<f.r
 .have F:decide (1000<f.r)=ε:=ae;have HV:Hid (fD n0 n1 f=2):=aW (by rw[Q.o,ι (.inr g2)]);exact Aac
 have F:decide (1000<f.r)=ζ:=ae;have HV:Hid (fD n0 n1 f=0):=aW (by rw[Q.o,θ aa]);exact Aac):p:=t
def Acs{p:Prop}(t:p:=by have HV:Hid (fD n0 n1 f=10):=aW (mo hz (by have:=Z1.o;omega));exact Aac):p:=t
def AbD{p:Prop}(t:p:=by go_enter func80,ntmps80;go_wp2;go_ret;exact⟨aZ HV.symm,D.o⟩):p:=t
def Ab4{p:Prop}(t:p:=by obtain rfl:n3=k:=aa;have HV:Hid (jG s p=0):=aW (Mq H3.o YD.o YG.o HZ.o Zi.o);go_wp2_with fail;go_ret;exact⟨aZ HV.symm,D.trans HX.o⟩):p:=t
def AcM{p:Prop}(t:p:=by rw[Ze.o];exact h3):p:=t
def AdM{p:Prop}(t:p:=by rw[YQ.o];exact I):p:=t
def AaZ{p:Prop}(t:p:=by have HV:Hid (jG s p=16):=aW (uL H3.o YD.o YG.o HZ.o H AdM (by rw[Yz.o];exact uz aa (.inr ⟨aa,aa⟩)));go_wp2;go_ret;exact⟨aZ HV.symm,D.trans HX.o⟩):p:=t
def Adi{p:Prop}(t:p:=by go_enter func39,ntmps39;go_wp2;go_ret;exact⟨aZ HV.symm,D.o⟩):p:=t
def AcR{p:Prop}(t:p:=by intro v1 w1 D C;go_wp2;go_ret;exact⟨_,rfl,by simpa using D,gu C (Ext.new _ _) Ab6⟩):p:=t
def Adg{p:Prop}(t:p:=by
 rcases BB n with j|j
 .exact j
 .obtain⟨_,_,e,_⟩:=h j;cases e):p:=t
def AaE{p:Prop}(t:p:=by go_enter func53,ntmps53;go_wp2_with fail;go_ret;exact SmP.no ((Ext.new _ _).alloc _)):p:=t
def Ace{p:Prop}(t:p:=by have:=O.o;omega):p:=t
def Acl{p:Prop}(t:p:=by rw[Z4,ω,ω];omega):p:=t
def Aa2{p:Prop}(t:p:=by exact tH rfl rfl rfl (hS.aH 4) ⟨_,rfl,⟨_,rfl,⟨_,_,_,_,_,_,RP.mk (hS.aF 5) (hS.aF 4) (hS.aF 3) (hS.aF 2) (hS.aF 1) (hS.aF 0),cI,dn,cH,dl⟩⟩,hS.ext⟩):p:=t
def Abr{p:Prop}(t:p:=by rw[Ex,Ex] at this;omega):p:=t
def Aae{p:Prop}(t:p:=by obtain⟨YP,YK,YO,YH,YL,YG,YJ,YQ,YE,YN,YF,YM,rfl⟩:=hv.opn;have k6:=j.cell;have f6:=j.frozen;obtain⟨p1,p2,p3⟩:=fA Y aa j hv;have P1:=aW p1;have P2:=aW p2;have P3:=aW p3;clear p1 p2 p3 Y j hv;go_wp2_with fail;exact dG rfl rfl rfl P2.o ⟨_,rfl,P3.o,P1.o⟩):p:=t
def AbN{p:Prop}(t:p:=by rintro e w2 ⟨v,rfl,⟨u,rfl,hu⟩,J⟩;clear k0;replace Y:=Y.trans J;replace j:=j.ext J;replace O:=O.ext J;clear J F W;go_wp2_with fail;refine(uB g u _ _ _ O hu).mono ?_;rintro e w3 ⟨v,rfl,hv,J⟩;replace Y:=Y.trans J;replace j:=j.ext J;clear J hu O;exact Aae):p:=t
def AaL{p:Prop}(t:p:=by go_enter func190,ntmps190;go_wp2_with fail;go_ret;exact⟨rfl,Ext.refl _⟩):p:=t
def Adt{p:Prop}(t:p:=by exact fun e=>Yx e.symm):p:=t
theorem Abc{p:Prop}(t:p:=by unfold pE;rw[θ aa,θ aa];simp only[oQ];exact W.o.2 aa _ _ (O.o D aa V).1 (O.o D aa V).2 G.o.1 G.o.2 YY.o):p:=t
theorem Acj{p:Prop}(t:p:=by intro j hj;unfold pE;rw[θ aa];exact W.o.1 aa _ _ (O.o D aa V).1 (O.o D aa V).2 hj):p:=t
theorem AcU{p:Prop}(t:p:=by intro j hj;unfold pE;rw[θ aa];simp only[oQ];exact W.o.1 aa _ _ G.o.1 G.o.2 hj):p:=t
theorem Adh{p:Prop}(t:p:=by intro j hj;unfold pE;rw[θ aa];simp only[oQ];exact HZ.o _ _ G.o.1 G.o.2 hj):p:=t
def Abp{p:Prop}(t:p:=by exact⟨_,hp.1.1,hp.1.2,(ae0 W).trans hp.2⟩):p:=t
def Aci{p:Prop}(t:p:=by subst e;rw[upd_same];exact⟨rfl,⟨f,YP.o,YN.o⟩,by have:=Zg.o;show w.heap.size<=g;omega⟩):p:=t
def AcP{p:Prop}(t:p:=by
 by_cases e:D=i
 .subst e;rw[upd_same];exact⟨rfl,rfl⟩
 .rw[upd_ne e];exact HD.o.len D aa):p:=t
def Abs{p:Prop}(t:p:=by rintro g ⟨i,hi,rfl⟩ ⟨j,hj,e⟩;have h1:=ZN.o i hi;have h2:=(Zi.o j hj).1;omega):p:=t
def AbL{p:Prop}(t:p:=by rintro e w2 ⟨v,rfl,⟨u,rfl,hu⟩,J⟩;clear k0 k4 k5;replace Y:=Y.trans J;replace j:=j.ext J;replace O:=O.ext J;have ZU:=J.size;clear J F W;obtain⟨YZ,Za,YY,YV,YT,YS,YR,Zc,Zd,YX,YU,YW,rfl⟩:=hu.opn;obtain⟨B,YI⟩:=an1 w2 42 #[YZ,aO Za YY YV,YT,aO YS YR Zc,Zd,aO YX YU YW];have HU:=aW (hu.ext B);clear hu;replace Y:=Y.trans B;replace j:=j.ext B;replace O:=O.ext B;have k7:=YI.cell;go_wp2_with fail;refine(rZ g _ _ _ _ O HU.o).mono ?_;rintro e w3 ⟨v,rfl,hv,J⟩;replace Y:=Y.trans J;replace j:=j.ext J;clear J;exact Aae):p:=t
def Acv{p:Prop}(t:p:=by rintro e w3 ⟨v,rfl,hv,J⟩;replace Y:=Y.trans J;replace j:=j.ext J;clear J;exact Aae):p:=t
def Abk{p:Prop}(t:p:=by have e:dB b.u (part r0 bs b L)=fun _=>GQ.i 0 0:=funext fun l=>zm r0 bs b L l;rw[e];exact nD _ cs):p:=t
def Aby{p:Prop}(t:p:=by rw[nV];omega):p:=t
def Aaw{p:Prop}(t:p:=by rintro e w3 ⟨v,rfl,hv,J⟩;have C:=W.trans J;have B:=aW C;clear J;obtain⟨YP,YK,YO,YH,YL,YG,YJ,YQ,YE,YN,YF,YM,rfl⟩:=hv.opn;have HV:=aW hv;go_wp2_with fail;refine I _ _ ⟨⟨w3,C⟩,rfl⟩ ?_;clear I K C hv D Y1;simp only[dh,ξ,τ];have k6:=(S.ext B.o).cell;have f6:=(S.ext B.o).frozen;obtain⟨p1,p2,p3⟩:=fA (HE.trans B.o) (show w.heap.size<=w.heap.size+1 by omega) (S.ext B.o) HV.o;have P1:=aW p1;have P2:=aW p2;have P3:=aW p3;clear p1 p2 p3;go_wp2_with fail;exact dG rfl rfl rfl P2.o ⟨_,rfl,P3.o,P1.o⟩):p:=t
def Abt{p:Prop}(t:p:=by rw[aaV,aaC] at this;rw[hb.cell,Γ,this];exact j):p:=t
def Ac7{p:Prop}(t:p:=by have:=Zp.o;omega):p:=t
def AbI{p:Prop}(t:p:=by exact⟨0,0,by ext<;>simp only[GQ.dJ,GQ.dK,GQ.dH,GQ.dC]<;>grind,aj⟩):p:=t
def AbJ{p:Prop}(t:p:=by have:=(hb b h).a;omega):p:=t
def AbX{p:Prop}(t:p:=by rw[xx,bM];omega):p:=t
def Abw{p:Prop}(t:p:=by rw[iF _ _ (by rw[bM,bM])] at this;exact this):p:=t
def Aa7{p:Prop}(t:p:=by exact Bd.mono (m:=1) (Fu aj aj (κ 1)) aa):p:=t
def Abo{p:Prop}(t:p:=by rw[sS];omega):p:=t
def AbQ{p:Prop}(t:p:=by rw[xx,bM,bM];omega):p:=t
def AaA{p:Prop}(t:p:=by intro R hW I;clear I;go_simp;exact⟨Ext.new _ _,fun _=>⟨ag,Blk.new _ _ _⟩,rfl,ag⟩):p:=t
theorem AbT{p:Prop}(t:p:=by have G:=(Yx.o _ _ _ L.o).up (show 64<=4400 by omega);unfold oW;rw[θ (show ¬f.kind<=3 by have:=Yu.o;omega),θ (show ¬f.kind<=6 by have:=Yu.o;omega),θ (show ¬f.kind<=9 by have:=Yu.o;omega),θ aj];exact G):p:=t
theorem Acw{p:Prop}(t:p:=by have G:=(Yx.o _ _ _ Zl.o).up (show 2600<=4400 by omega);unfold oW;rw[ι Yu.o];exact G):p:=t
def Ac1{p:Prop}(t:p:=by have:=Yu.o;omega):p:=t
def Adk{p:Prop}(t:p:=by intro R hW I;clear I;go_simp;exact⟨Ext.refl _,fun h=>absurd h aj,rfl⟩):p:=t
def Abf{p:Prop}(t:p:=by ext<;>simp only[aeW,GQ.bT,GQ.bS]<;>grind):p:=t
def Aap{p:Prop}(t:p:=by have U:=aW (L ▸ Q.s);clear L;(go_wp2_with (refine σ rfl 102 _ rfl g7 (0) rf (bz 3 fr) _ YE.o z8 rfl (j3 _) (Hid.o ?_)));refine Qz ?_;refine aY rfl 102 (.tmp 6) (.tmp 46) rfl g6 (0) (bz 3 fr) rf rf N.o (j3 _) (dN 3 _) (fun we G=> ?_);refine Qp ?_;replace G:=Hid.o G;have Y:=aW (U.fin G);clear G;go_wp2_with fail;exact jo rfl rfl rf Y.o.1 z8 rfl (pF _) ⟨_,rfl,fun k hk=>Y.o.2.2 _ _ _ (K.o k hk),Y.o.2.1⟩):p:=t
def AcG{p:Prop}(t:p:=by intro R I;go_simp;exact⟨Ext.refl _,by show _=_;simp[Za]⟩):p:=t
def Abb{p:Prop}(t:p:=by have:=B.o.2;show q1≠q3;omega):p:=t
def AbW{p:Prop}(t:p:=by have:=YL.o;omega):p:=t
theorem Ac0{p:Prop}(t:p:=by unfold sides;rw[θ (by rw[hk];decide),hk];rfl):p:=t
def AdJ{p:Prop}(t:p:=by
 go_roundw
 case rel=>exact⟨i+1,stp b G 2,F,aa,by rw[O.o];rfl,rfl,K.o,FW R.o 2,T.next Zh.o YL.o (Yv.o) (Yw.o)⟩
 case measure=>rw[O.o];simp[aT,intOf];omega):p:=t
def Aab{p:Prop}(t:p:=by
 go_wp2_with fail;go_quiet (fail);generalize J:we.drewN nq=wq;have YO:Ext we wq:=by rw[<-J];exact(Ext.refl _).drewN _
 replace YB:=YB.aA YO;replace U:=U.aA YO;clear YO J YD Yz YR YS;have YD:wq.cell? (aM YZ 0)=γ (.int .i64 (b.a:Int)):=(U.cell 0).trans (by rw[<-YN.o.1];rfl);have Yz:wq.cell? (aM YZ 1)=γ (.int .i64 (b.b:Int)):=(U.cell 1).trans (by rw[<-YN.o.2];rfl);clear hq U;go_wp2_with fail;clear YD Yz;go_loopw [2,44] (fun cv jv wx=>∃(j:Nat) (F:Bool),j<=2/\jv=.int .i64 j/\cv=.bool F/\Rv w wx gx C E bs (stp b G j)/\cnt L 18<=cnt (stp b G j) 18/\(F=ζ->ch=ζ/\stp b G j=G)/\(F=ε->cnt L 18<cnt (stp b G j) 18)) (fun _ jv _=>2-(intOf jv).toNat)
 case atStart=>exact⟨0,ch,aa,rfl,rfl,YB.o,T.le,fun h=>⟨h,rfl⟩,T.yes⟩
 case round=>
  rename World=>wx;obtain⟨j,F,hj,rfl,rfl,V,YT,Y,YA⟩:=hrel;have K:=aW V;have YL:=aW YT;have Yv:=aW Y;have Yw:=aW YA;clear V YT Y YA YB;by_cases Yy:j<2
  .have YP:decide ((j:Int)<2)=ε:=ae;have ac:=Ux (a:=b.a) (b:=b.b) Yy wx;obtain⟨n,hn⟩:∃n,(if j=0 then b.a else b.b)=n:=⟨_,rfl⟩;rw[hn] at ac;have YW:n<=17:=by rw[<-hn];split<;>omega
   have I:=yx b G Yy;rw[hn,Za.o] at I;have B:=aW I;have Zf:=aW hn;clear I hn;have N:n≠17->JoinD bs n:=fun D=>by
    rw[<-Zf.o] at D⊢;split
    .exact Lb HM.o ZA.sub R.o Za.o
    .rename_i h0;rw[θ h0] at D;exact LU HM.o ZA.sub R.o Za.o D
   have YX:=aW N;clear N;have YK:=K.g.cell_ (k:=15+n) aa ((dU aa).trans (nZ aa));have r1:(0:Int)<=n:=aa;have r2:(n:Int)<18:=aa;by_cases M:n=17
   .have YY:((n:Int)==17)=ε:=by rw[M];rfl
    have W:=aW (qz (lb:=ε) (n:=n) (L:=stp b G j) (Or.inr (Or.inl M)));go_wp2_with fail
    go_roundw
    case rel=>exact⟨j+1,F,aa,au,rfl,by rw[B.o,W.o];exact K.o,by rw[B.o,W.o];exact YL.o,fun h=>by rw[B.o,W.o];exact Yv.o h,fun h=>by rw[B.o,W.o];exact Yw.o h⟩
    case measure=>exact aV
   .have YY:((n:Int) !=17)=ε:=ae;have Zn:¬((n:Int)=17):=aa;cases YH:stp b G j n with
    |true=>
     rw[YH] at YK;have Z:=aW YH;clear YH;have W:=aW (qz (lb:=ε) (n:=n) (L:=stp b G j) (Or.inr (Or.inr Z.o)));go_wp2_with fail
     go_roundw
     case rel=>exact⟨j+1,F,aa,au,rfl,by rw[B.o,W.o];exact K.o,by rw[B.o,W.o];exact YL.o,fun h=>by rw[B.o,W.o];exact Yv.o h,fun h=>by rw[B.o,W.o];exact Yw.o h⟩
     case measure=>exact aV
    |false=>
     rw[YH] at YK;have Z:=aW YH;clear YH;have Zp:=K.g.frozen (15+n);have YI:=aW (K.set (n:=n) aa (YX.o M));have YC:=Aw Z.o 18;rw[ι aa] at YC;have YE:=aW YC;clear YC;have S:=aW M;clear M;go_wp2_with fail
     go_roundw
     case rel=>exact⟨j+1,ε,aa,au,rfl,by rw[B.o,kS rfl S.o Z.o];exact YI.o,by rw[B.o,kS rfl S.o Z.o,YE.o];have:=YL.o;omega,(fun h=>by cases h),fun _=>by rw[B.o,kS rfl S.o Z.o,YE.o];have:=YL.o;omega⟩
     case measure=>exact aV
  .obtain rfl:j=2:=aa;have YP:decide ((2:Int)<2)=ζ:=aj
   go_wp2_with fail
   exact AdJ):p:=t
def AcE{p:Prop}(t:p:=by rw[YQ];exact(Blk.new wz 167 zBr).there (show 0+(Bv i).cs.length<=zBr.size from κ 20)):p:=t
def AbE{p:Prop}(t:p:=by
 rintro(e|e)
 .exact Blk.fw h.b7 h.g.r.g aj e
 .exact h.g.r.own.ne h.b7 aj e):p:=t
theorem Abz{p:Prop}(t:p:=by
 unfold qi at hp;split at hp
 .rename_i x J;exact(hn ⟨x,J⟩).elim
 .exact hp):p:=t
def Abn{p:Prop}(t:p:=by rintro(e|e);exact Blk.fw ar Yw.g.r.g aj e;exact Yw.g.r.own.ne ar aj e):p:=t
def Acb{p:Prop}(t:p:=by rw[xx,bM];exact κ 12):p:=t
def AcI{p:Prop}(t:p:=by have:=YS.o;omega):p:=t
def Ac8{p:Prop}(t:p:=by have:=YU.o;omega):p:=t
def Adp{p:Prop}(t:p:=by have:=YQ.o;omega):p:=t
def Ady{p:Prop}(t:p:=by have:=a5.o;omega):p:=t
def AdW{p:Prop}(t:p:=by simp[aT,intOf];omega):p:=t
def Aau{p:Prop}(t:p:=by
 go_roundw
 case rel=>exact⟨i+1,aa,by rw[Zk.o];rfl,_,_,_,YB.o⟩
 case measure=>rw[Zk.o];exact AdW):p:=t
def Adn{p:Prop}(t:p:=by rw[YV.o];exact H1.o):p:=t
def Adz{p:Prop}(t:p:=by have:=cr.o;omega):p:=t
def AdK{p:Prop}(t:p:=by have:=ZY.o;omega):p:=t
def AaS{p:Prop}(t:p:=by
 go_roundw
 case rel=>exact⟨i+1,aa,by rw[O.o];rfl,by rw[FK AdK Zx.o,Gu AdK Zx.o];exact Q.ext ((Ext.refl _).drewN _)⟩
 case measure=>rw[O.o];exact AdW):p:=t
def Adq{p:Prop}(t:p:=by rw[B];exact Blk.new _ _ _):p:=t
def AaV{p:Prop}(t:p:=by rw[pz,B,C];omega):p:=t
def AcN{p:Prop}(t:p:=by simp only[pz,Bn,abL,I,C];omega):p:=t
theorem Abg{p:Prop}(t:p:=by unfold yR at this;rw[ι ⟨j,B⟩] at this;exact this):p:=t
def Acp{p:Prop}(t:p:=by rw[G];exact((((Ext.new _ _).alloc _).alloc _).alloc _)):p:=t
def AcX{p:Prop}(t:p:=by rw[G];exact(((Blk.new _ _ _).alloc _).alloc _).alloc _):p:=t
def Adr{p:Prop}(t:p:=by rw[G];exact((aeV _ _ (eU _ _)).alloc _).alloc _):p:=t
theorem AbF{p:Prop}(t:p:=by unfold chunk;rw[ι aa,show(j*6+t)%6=t by omega];exact(O t D).mod B hS):p:=t
def Abm{p:Prop}(t:p:=by intro R I;go_simp;rw[Mg _ (by have:=ap.o;omega)];exact⟨Ext.new _ _,rfl,ag,Blk.new _ _ _⟩):p:=t
def Ac4{p:Prop}(t:p:=by rw[xx,gz,gz];omega):p:=t
def Adc{p:Prop}(t:p:=by have:=D.o;omega):p:=t
def AaI{p:Prop}(t:p:=by refine Qp ?_;replace G:=Hid.o G;have hF:=iw YA.o (by have:=HL.o;have:=YZ.o;omega) HB.o G;go_wp2_with fail;exact jo rfl rfl rf hF.1 A8 rfl (by rw[xx];exact ig f) ⟨_,rfl,afj (hF.2.2 _ _ _ j.o.o.1) (hF.2.2 _ _ _ j.o.o.2),hF.2.1⟩):p:=t
def AcO{p:Prop}(t:p:=by intro R I;clear I;go_simp;exact⟨rfl,(Nv _).mono fun e w' ⟨v,O,hv,J⟩=>⟨_,O,J,hv⟩⟩):p:=t
def Aal{p:Prop}(t:p:=by refine I _ _ ⟨⟨_,P⟩,rfl⟩ ?_;clear I K;refine bC 4 [(ε,5),(ε,6),(ε,7),(ζ,9)] ah ?_;intro K I;simp only[bJ];go_wp2_with fail;have j:=HP.o;rw[um] at j;refine(solve_run Jc _ (HS.ext P) j yJ one_pos Gi).mono ?_;clear j;rintro _ wS ⟨GC,GV_,ec,ev,ef,rfl,C,F⟩;replace P:=P.trans F;replace U:=U.aA F;replace HP:=HP.aA F;have Y:=aW C;clear C F;go_wp2_with fail;refine I _ _ ⟨⟨_,P⟩,rfl⟩ ?_;clear I K;refine bD [5,6,7] [(ζ,9)] _ ah ?_;refine Gq ?_;refine bC 9 [] ah ?_;intro K I;simp only[bJ];have N:Hid (World.there wS gb 0 (iT (.slice (γ (aM GC 0)) gN.bays.length gN.bays.length) (.slice (γ (aM GV_ 0)) gN.bays.length gN.bays.length) ef).length):=aW (U.there (by rw[xx,gz,gz];omega));refine aY rfl 47 (.tmp 2) (.tmp 11) rfl gb 0 (iT (.slice (γ (aM GC 0)) gN.bays.length gN.bays.length) (.slice (γ (aM GV_ 0)) gN.bays.length gN.bays.length) ef) rf rf N.o (nW _ _ _) (uZ _ _ _ rfl rfl) (fun wT G=> ?_);refine Qp ?_;replace G:=Hid.o G;have B:=AL P Zl.o U.o Y.o G;clear G N;simp only[wpList];refine⟨trivial,?_⟩;refine I _ _ ⟨⟨_,B.2.2⟩,rfl⟩ ?_;clear I K;exact⟨gb,lK PA 1 pc PB 1 qc,GC,GV_,ec,ev,ef,by simp only[Act.put,aQ,De,Ej],B.1,B.2.1,B.2.2⟩):p:=t
def Acz{p:Prop}(t:p:=by have:=HZ.o;omega):p:=t
def Adu{p:Prop}(t:p:=by rintro W ⟨x,rfl⟩;exact(Yw.ext x.ext).rng):p:=t
def AdN{p:Prop}(t:p:=by simpa using C):p:=t
def AdX{p:Prop}(t:p:=by rw[T.o];omega):p:=t
def AdR{p:Prop}(t:p:=by intro e;rw[e] at ec;simp at ec;exact hd ec):p:=t
def AdS{p:Prop}(t:p:=by rw[<-HE.o,θ h0]):p:=t
def AdO{p:Prop}(t:p:=by intro h;first|(exact absurd h aa)|exact rfl):p:=t
def AdT{p:Prop}(t:p:=by
 split at h
 .rename_i hb
  rw[fJ] at hb;omega
 .exact absurd h aj):p:=t
def AdP{p:Prop}(t:p:=by
 have:=ZG.o;rcases hg with hg|hg
 .omega
 .have:=(B.lt g hg).1;omega):p:=t
def AdU{p:Prop}(t:p:=by rw[jQ];omega):p:=t
def AdQ{p:Prop}(t:p:=by rintro W ⟨x,rfl⟩;exact(U.ext x.ext).rng):p:=t
def aa{p:Prop}(h:p:=by omega):p:=h
def ae{p:Prop}(h:p:=by simp;omega):p:=h
def ag{p:Prop}(h:p:=by simp):p:=h
def rf{p:Prop}(h:p:=by rfl):p:=h
def ah{p:Prop}(h:p:=by kernel_rfl):p:=h
def aj{p:Prop}(h:p:=by decide):p:=h
def ak{p:Prop}(h:p:=by grind):p:=h
def au{p:Prop}(h:p:=by go_num):p:=h
def aS{p q : Prop}(h : q)(t : Hid q -> p := by intro h;(repeat (go_big_quiet_step (fail)));refine aaL ?_;exact h.o): p := t h
def Gw{p q : Prop}(h : q)(t : Hid q -> p := by intro h;go_wp2_with fail;exact h.o): p := t h
def Gm{p : Prop}{P : Program}{f : FuncId}{a : Array Value}{w : World}{G q : Ending -> World -> Prop}(c : Calls P f a w G)(h : ∀ e w', G e w' -> q e w')(t : Hid (Calls P f a w G) -> Hid (∀ e w', G e w' -> q e w') -> p := by intro c h;go_wp2_with fail;exact c.o.mono h.o): p := t c h
theorem GI(a:Addr)(n:Nat):(a.add n).block=a.block:=by unfold Addr.add;split<;>rfl
abbrev Ext (w w':World):Prop:=Below w.heap.size w w'
def _root_.Go.RowKit.Hid.aA{p q r:Prop}(h:Hid p)(e:r)(t:p->r->q:=by intro h e;exact h.ext e):Hid q:=Lib.hid (t h.o e)
def _root_.Go.RowKit.Hid.aC{p q r:Prop}(h:Hid p)(e:r)(t:p->r->q:=by intro h e;exact h.trans e):Hid q:=Lib.hid (t h.o e)
def CV (f:FuncId) (a:Array Value) (w:World) (G:Value->World->Prop):Prop:=Calls prog f a w fun e w'=>∃v,e=.returned v/\G v w'/\Ext w w'
def CE (f:FuncId) (a:Array Value) (w:World) (v:Value):Prop:=Calls prog f a w fun e w'=>e=.returned v/\Ext w w'
def Ext.refl(w):Ext w w:=acl _ _
def Ext.trans{a b c}(h:Ext a b)(k:Ext b c):Ext a c:=Below.trans h (k.mono h.size)
def Ext.alloc{a w}(h:Ext a w)(o:Obj):Ext a (w.alloc o):=Below.alloc h h.size o
def Ext.drew{a w}(h:Ext a w):Ext a w.drew:=Below.drew h
def Ext.drewN{a w}(h:Ext a w)(n):Ext a (w.drewN n):=⟨h.os,h.tape,h.output,h.size,h.block⟩
def Ext.setCell{a w}(h:Ext a w){p}(hp:a.heap.size<=p.block)(u):Ext a (w.setCell p u):=Below.setCell h hp u
def Ext.new(w)(o:Obj):Ext w (w.alloc o):=(Ext.refl w).alloc o
def Reads (w:World) (B size:Nat) (A:Option Addr) (n:Nat) (xs:List Value):Prop:=
 xs.length=n*size/\(0<n->∃C,A=γ C/\C.block<B/\∀j u,xs[j]? =γ u->w.cell? (C.add j)=γ u)
section
variable {w w':World} {B B' size n:Nat} {A:Option Addr} {xs:List Value}
def afq:Reads w B size A 0 []:=⟨ag,fun h=>absurd h aa⟩
def Reads.at_{k}(h:Reads w B 1 A n xs)(C:k<n):∃j u,A=γ j/\j.block<B/\xs[k]? =γ u/\w.cell? (j.add k)=γ u:=by
 obtain⟨j,e,hb,hc⟩:=h.2 aa;have Z:k<xs.length:=by have:=h.1;omega
 exact⟨j,xs[k],e,hb,ν Z,hc k _ (ν Z)⟩
def Reads.keep(h:Reads w B size A n xs)(C:∀p:Addr,p.block<B->w'.cell? p=w.cell? p):Reads w' B size A n xs:=
 ⟨h.1,fun hn=>by
  obtain⟨F,e,hb,hc⟩:=h.2 hn;exact⟨F,e,hb,fun j u D=>(C _ (by rw[GI];exact hb)).trans (hc j u D)⟩⟩
def Reads.more(h:Reads w B size A n xs)(C:B<=B'):Reads w B' size A n xs:=
 ⟨h.1,fun hn=>by
  obtain⟨j,e,hb,hc⟩:=h.2 hn;exact⟨j,e,aa,hc⟩⟩
def Reads.below(h:Reads w B size A n xs)(hb:Below B w w'):Reads w' B size A n xs:=h.keep fun _ hp=>hb.cell hp
def Reads.ext(h:Reads w w.heap.size size A n xs)(hb:Ext w w'):Reads w' w'.heap.size size A n xs:=(h.below hb).more hb.size
end
def Blk (w:World) (g:Nat) (t:TypeId) (cs:Array Value):Prop:=w.heap[g]? =γ (.cells cs t (0,0))
section
variable {w w':World} {g:Nat} {t:TypeId} {cs:Array Value}
theorem Blk.lt(h:Blk w g t cs):g<w.heap.size:=by
 rcases Nq g w.heap.size with j|C
 .exact j
 .unfold Blk at h;rw[aat C] at h;cases h
def Blk.cell(h:Blk w g t cs)(i):w.cell? (aM g i)=cs[i]? :=cell_of_row w g i cs t (0,0) h
theorem Blk.frozen(h:Blk w g t cs)(i):w.frozen? ⟨g,i,δ⟩=ζ:=by
 unfold Blk at h;simp[World.frozen?,h]
def Blk.new(w:World)(t:TypeId)(cs:Array Value):Blk (w.alloc (.cells cs t)) w.heap.size t cs:=heap_alloc_new w _
def aeV{w:World}{g:Nat}(t:TypeId)(cs:Array Value)(h:w.heap.size=g):Blk (w.alloc (.cells cs t)) g t cs:=by subst h;exact Blk.new w t cs
def Blk.drew(h:Blk w g t cs):Blk w.drew g t cs:=h
def Blk.drewN(h:Blk w g t cs)(n):Blk (w.drewN n) g t cs:=h
def Blk.alloc(h:Blk w g t cs)(o:Obj):Blk (w.alloc o) g t cs:=(aar w o g h.lt).trans h
theorem Blk.qG(h:Blk w g t cs)(i u):Blk (w.setCell ⟨g,i,δ⟩ u) g t (cs.setIfInBounds i u):=by
 unfold Blk at h⊢;simp[World.setCell,Array.getElem?_modify,h]
def Blk.far(h:Blk w g t cs){p}(hp:g≠p.block)(u):Blk (w.setCell p u) g t cs:=(abY w p u g hp).trans h
def Blk.below{B}(h:Blk w g t cs)(hb:Below B w w')(j:g<B):Blk w' g t cs:=(hb.block g j).trans h
def Blk.ext(h:Blk w g t cs)(hb:Ext w w'):Blk w' g t cs:=h.below hb h.lt
theorem Blk.reads{n size}(h:Blk w g t cs)(hn:cs.size=n*size):Reads w w.heap.size size (γ ⟨g,0,δ⟩) n cs.toList:=
 ⟨by simpa using hn,fun _=>⟨_,rfl,h.lt,fun j u C=>by
  have e:Addr.add ⟨g,0,δ⟩ j=⟨g,j,δ⟩:=by unfold Addr.add;by_cases B:j=0<;>simp[B]
  rw[e,h.cell];simpa using C⟩⟩
end
def Blk.Pt{w:World}{g i:Nat}{t:TypeId}{l:List Value}(h:Blk w g t l.toArray)(hi:i<l.length):∃u,w.cell? (aM g i)=γ u:=
 ⟨l[i],by rw[h.cell];simp[hi]⟩
def Blk.QI{w:World}{g i:Nat}{t:TypeId}{l:List Value}(h:Blk w g t l.toArray)(u:Value):Blk (w.setCell ⟨g,i,δ⟩ u) g t (l.set i u).toArray:=by
 have:=h.qG i u;simpa using this
theorem vQ(z n):madeCells #[z] n=(List.replicate n z).toArray:=by
 unfold madeCells;apply Array.ext
 .simp
 .intro i B j;simp[Nat.mod_one]
structure aX (w:World) where
 val:World
 ext:Ext w val
instance (w:World):Nonempty (aX w):=⟨⟨w,Ext.refl w⟩⟩
def aZ{k a b}(h:a=b):Ending.returned (.int k a)=.returned (.int k b):=by rw[h]
def bE{a b}(h:a=b):Ending.returned (.bool a)=.returned (.bool b):=by rw[h]
def jf:Op->Bool
 | .move _| .assign _| .pick _ _ _| .load _ _| .build _ _| .binOp _ _ _ _ _| .unOp _ _ _| .convert _ _ _| .fieldAddr _ _ _| .field _ _ _| .indexAddr _ _ _| .index _ _ _| .extract _ _| .slice _ _ _ _ _=>ε
 | .call c=>match c.callee with
  | .builtin .len| .builtin .min| .builtin .max=>ε
  |_=>ζ
 |_=>ζ
def rV{s:Result Value}{f args w'}(h:s.andThen (fun x w=>Result.ok (Next.value x) w)=.ok (.enter f args) w'):False:=by
 cases s<;>simp[Result.andThen] at h
def mK{P}{ev:Operand->Value}{o w w' f args}(hp:jf o.op=ε)(h:(execOp ev o).run P w=.ok (.enter f args) w'):False:=by
 obtain⟨B,op,F,pos,H,G⟩:=o;cases op<;>simp only[jf,NK] at hp<;>simp only[execOp,aaD,aa4] at h
 case call c=>
  obtain⟨j,D,C⟩:=c;cases j<;>simp only[NK] at hp
  case builtin b=>
   cases b<;>simp only[NK] at hp<;>simp only[resolve,aaD,aa4,aaw,invoke,builtin] at h<;>exact rV h
 case pick c x y=>cases hb:(asBool (ev c)).run P w<;>simp[hb,Result.andThen] at h
 all_goals first
  |exact rV h
  |(simp at h;done)
def Book:Type:=Nat->Option (Value×Nat×Nat)
def Book.none:Book:=fun _=>Option.none
def Book.set (F:Book) (i:Nat) (e:Value×Nat×Nat):Book:=fun x=>if x=i then γ e else F x
theorem agh(F:Book){i j:Nat}(h:i≠j)(e f:Value×Nat×Nat):(F.set i e).set j f=(F.set j f).set i e:=by
 funext x;unfold Book.set;by_cases D:x=i<;>by_cases C:x=j<;>simp[D,C]
 .subst D;exact absurd C h
 .intro B;exact absurd B h
 .intro B;exact absurd B.symm h
def ae3(F:Book)(i:Nat)(e:Value×Nat×Nat):(F.set i e) i=γ e:=by simp[Book.set]
def ae1(F:Book){i j:Nat}(e:Value×Nat×Nat)(h:j≠i):(F.set i e) j=F j:=by simp[Book.set,h]
def anc (ops:Array Oper):Nat->Nat->Nat->Bool
 |0,_,_=>ζ
 |f+1,k,p=>match ops[k]? with
  |Option.none=>ζ
  |some o=>o.after.any fun e=>Region.binds .any e&&(e.on==p||anc ops f e.on p)
section
variable {P:Program} {ops:Array Oper} {w0:World} {E:Nat->Bool} {Φ:Nat->Nat->Nat->Value->World->Prop}
structure fV (w0:World) (Φ:Nat->Nat->Nat->Value->World->Prop) (F:Book) (w:World):Prop where
 ext:Ext w0 w
 fact:∀i e,F i=γ e->Φ i e.2.1 e.2.2 e.1 w
 size:∀i e,F i=γ e->e.2.2<=w.heap.size
 low:∀i e,F i=γ e->w0.heap.size<=e.2.1
 disj:∀i j e f,i≠j->F i=γ e->F j=γ f->e.2.2<=f.2.1\/f.2.2<=e.2.1
def Kn (ops:Array Oper) (w0:World) (Φ:Nat->Nat->Nat->Value->World->Prop) (k:Nat) (F:Book) (w:World):Prop:=
 Ext w0 w/\∀i e,F i=γ e->anc ops ops.size k i=ε->Φ i e.2.1 e.2.2 e.1 w
def vI (P:Program) (Ψ:Nat->Nat->Value->World->Prop) (w:World):Result Next->Prop
 | .ok (.value v) w'=>Ext w w'/\Ψ w.heap.size w'.heap.size v w'
 | .ok (.enter f args) w1=>w1=w/\Calls P f args w (fun e w'=>∃v,e=.returned v/\Ext w w'/\Ψ w.heap.size w'.heap.size v w')
 |_=>False
def fV.put{F w w' k v}(B:∀i lo hi v w w',Φ i lo hi v w->Ext w w'->Φ i lo hi v w')(hF:F k=Option.none)(h:fV w0 Φ F w)(J:Ext w w')(hv:Φ k w.heap.size w'.heap.size v w'):
  fV w0 Φ (F.set k (v,w.heap.size,w'.heap.size)) w':=by
 refine⟨h.ext.trans J,fun i e O=> ?_,fun i e O=> ?_,fun i e O=> ?_,fun i j e f L O C=> ?_⟩
 .by_cases hi:i=k
  .subst hi;rw[ae3] at O;cases O;exact hv
  .rw[ae1 _ _ hi] at O;exact B _ _ _ _ _ _ (h.fact i e O) J
 .by_cases hi:i=k
  .subst hi;rw[ae3] at O;cases O;exact κ _
  .rw[ae1 _ _ hi] at O;exact Θ (h.size i e O) J.size
 .by_cases hi:i=k
  .subst hi;rw[ae3] at O;cases O;exact h.ext.size
  .rw[ae1 _ _ hi] at O;exact h.low i e O
 .by_cases hi:i=k
  .subst hi;rw[ae3] at O;cases O;rw[ae1 _ _ (abk L)] at C;exact .inr (h.size j f C)
  .rw[ae1 _ _ hi] at O;by_cases D:j=k
   .subst D;rw[ae3] at C;cases C;exact .inl (h.size i e O)
   .rw[ae1 _ _ D] at C;exact h.disj i j e f L O C
def fV.sub{F G w}(h:fV w0 Φ G w)(hs:∀i e,F i=γ e->G i=γ e):fV w0 Φ F w:=
 ⟨h.ext,fun i e O=>h.fact i e (hs i e O),fun i e O=>h.size i e (hs i e O),fun i e O=>h.low i e (hs i e O),fun i j e f L O B=>h.disj i j e f L (hs i e O) (hs j f B)⟩
def afF{F:Book}{i:Nat}{e:Value×Nat×Nat}(hF:F i=Option.none):∀x f,F x=γ f->(F.set i e) x=γ f:=by
 intro x f J;by_cases h:x=i
 .subst h;rw[hF] at J;cases J
 .rw[ae1 _ _ h];exact J
def af9{F G:Book}(h:∀x f,F x=γ f->G x=γ f){i:Nat}{e:Value×Nat×Nat}:∀x f,(F.set i e) x=γ f->(G.set i e) x=γ f:=by
 intro x f J;by_cases C:x=i
 .subst C;rw[ae3] at*;exact J
 .rw[ae1 _ _ C] at*;exact h x f J
theorem Gz{o:Oper}{a:Act}{u v:Value}{w:World}(hp:jf o.op=ε)(j:o.quietAt P a (fun w'=>w'=w) w u)(B:o.quietAt P a (fun w'=>w'=w) w v):u=v:=by
 unfold Oper.quietAt at*
 generalize C:(execOp a.eval o).run P w=r at*
 cases r with
 |ok nx w'=>
  cases nx<;>simp only[Oper.quietUpon] at j B
  case value x=>rw[<-j.2,<-B.2]
  case skip=>rw[j.2,B.2]
  case enter f args=>exact(mK hp C).elim
 |halt x w'=>simp only[Oper.quietUpon] at j
theorem Ck{n B}(inv:HeadInv .any ops n B):∀(f k p:Nat),anc ops f k p=ε->(∀o,ops[k]? =γ o->∀e∈o.after,Region.binds .any e=ε->B.getD e.on ζ=ε)->B.getD p ζ=ε
 |0,_,_,h,_=>by simp[anc] at h
 |f+1,k,p,h,hk=>by
  unfold anc at h;split at h
  .cases h
  .rename_i o H
   obtain⟨e,O,hb⟩:=Array.any_eq_true'.1 h;simp only[υ,acm,beq_iff_eq] at hb;have G:=hk o H e O hb.1;rcases hb.2 with F|F
   .rw[<-F];exact G
   .exact Ck inv f e.on p F (fun U j T D C=>inv.closed e.on U j G T D C)
def Em{n B}(inv:HeadInv .any ops n B){i j}(G:j∈Region.ready .any ops B)(hi:B.getD i ε=ζ):anc ops ops.size j i=ζ:=by
 cases h:anc ops ops.size j i with
 |false=>rfl
 |true=>
  obtain⟨_,M,D,K⟩:=abK.1 G;have F:=Ck inv _ _ _ h (fun o C e O hb=>by rw[D] at C;injection C with C;subst C;exact K e O hb);rw[getD_both hi] at F;cases F
end
def lS (cs:Array Value):Bool:=cs.toList.all fun v=>match v with| .int _ _=>ζ|_=>ε
structure Sto (g:Nat) (w w':World):Prop where
 os:w'.os=w.os
 tape:w'.tape=w.tape
 output:w'.output=w.output
 size:w'.heap.size=w.heap.size
 block:∀i,i≠g->w'.heap[i]? =w.heap[i]?
 far:∃t cs,Blk w g t cs/\lS cs=ε
def Sto.ext{g w0 w w'}(h:Sto g w w')(J:Ext w0 w)(B:w0.heap.size<=g):Ext w0 w':=
 ⟨h.os.trans J.os,h.tape.trans J.tape,h.output.trans J.output,by rw[h.size];exact J.size,fun k j=>(h.block k aa).trans (J.block k j)⟩
def Sto.blk{g g' w w' t cs}(h:Sto g w w')(hb:Blk w g' t cs)(j:g'≠g):Blk w' g' t cs:=(h.block g' j).trans hb
section
variable {P:Program} {ops:Array Oper} {w0:World} {E:Nat->Bool} {Φ Pd Po:Nat->Nat->Nat->Value->World->Prop} {S:Nat->Option Nat}
structure Late (ops:Array Oper) (w0:World) (Φ Pd Po:Nat->Nat->Nat->Value->World->Prop) (S:Nat->Option Nat):Prop where
 ft:∀i lo hi v w w',Φ i lo hi v w->Ext w w'->Φ i lo hi v w'
 fs:∀i lo hi v g w w',(∃k j,S k=γ j)->Φ i lo hi v w->Sto g w w'->Φ i lo hi v w'
 pt:∀i lo hi v w w',Pd i lo hi v w->Ext w w'->Pd i lo hi v w'
 ps:∀i lo hi v g w w',Pd i lo hi v w->Sto g w w'->(g<lo\/hi<=g)->Pd i lo hi v w'
 qt:∀i lo hi v w w',Po i lo hi v w->Ext w w'->Po i lo hi v w'
 qs:∀i lo hi v g w w',Po i lo hi v w->Sto g w w'->(g<lo\/hi<=g)->Po i lo hi v w'
 sa:∀k j,S k=γ j->anc ops ops.size k j=ε
 si:∀k k' j,S k=γ j->S k'=γ j->k=k'
 sn:∀k j,S k=γ j->S j=δ
 fz:∀k j lo hi v w,S k=γ j->Φ k lo hi v w
structure j5 (w0:World) (Φ Pd Po:Nat->Nat->Nat->Value->World->Prop) (S:Nat->Option Nat) (F:Book) (w:World):Prop extends fV w0 Φ F w where
 pend:∀k j e,S k=γ j->F j=γ e->F k=Option.none->Pd j e.2.1 e.2.2 e.1 w
 post:∀k j e x,S k=γ j->F j=γ e->F k=γ x->Po j e.2.1 e.2.2 e.1 w
 dep:∀k j,S k=γ j->F j=Option.none->F k=Option.none
def KnL (ops:Array Oper) (w0:World) (Φ Pd:Nat->Nat->Nat->Value->World->Prop) (S:Nat->Option Nat) (k:Nat) (F:Book) (w:World):Prop:=
 Ext w0 w/\(∀i e,F i=γ e->anc ops ops.size k i=ε->Φ i e.2.1 e.2.2 e.1 w)/\∀j e,S k=γ j->F j=γ e->Pd j e.2.1 e.2.2 e.1 w
def Fs (Φ Pd Po:Nat->Nat->Nat->Value->World->Prop) (S:Nat->Option Nat) (k:Nat) (F:Book) (w:World) (v:Value) (w':World):Prop:=
 (S k=Option.none->Ext w w'/\Pd k w.heap.size w'.heap.size v w')/\(∀j e,S k=γ j->F j=γ e->Sto e.2.1 w w'/\Po j e.2.1 e.2.2 e.1 w')/\Φ k w.heap.size w'.heap.size v w'
def rQ (P:Program) (Φ Pd Po:Nat->Nat->Nat->Value->World->Prop) (S:Nat->Option Nat) (k:Nat) (F:Book) (w:World):Result Next->Prop
 | .ok (.value v) w'=>Fs Φ Pd Po S k F w v w'
 | .ok .skip w'=>Fs Φ Pd Po S k F w undef w'
 | .ok (.enter f args) w1=>w1=w/\S k=Option.none/\Calls P f args w (fun e w'=>∃v,e=.returned v/\Ext w w'/\Pd k w.heap.size w'.heap.size v w'/\Φ k w.heap.size w'.heap.size v w')
 |_=>False
def Lm (S:Nat->Option Nat) (k:Nat) (F:Book):Prop:=∀j,S k=γ j->∃e,F j=γ e/\e.2.1<e.2.2
def rA (P:Program) (ops:Array Oper) (w0:World) (E:Nat->Bool) (Φ Pd Po:Nat->Nat->Nat->Value->World->Prop) (S:Nat->Option Nat) (k:Nat) (K:Book->Act->Prop) (F:Book) (a:Act):Prop:=
 match ops[k]? with
 |Option.none=>K F a
 |some o=>
  if Region.wanted o (yielded ops a.tmps) then
   if E k then
    Lm S k F/\(∀w,KnL ops w0 Φ Pd S k F w->rQ P Φ Pd Po S k F w ((execOp a.eval o).run P w))/\
    (∀v lo hi,(∃w,fV w0 Φ (F.set k (v,lo,hi)) w)->K (F.set k (v,lo,hi)) (a.put o.dst v))
   else jf o.op=ε/\S k=Option.none/\∃v,(∀w,Ext w0 w->o.quietAt P a (fun w'=>w'=w) w v)/\K F (a.put o.dst v)
  else K F (a.put o.dst undef)
def qZ (P:Program) (ops:Array Oper) (w0:World) (E:Nat->Bool) (Φ Pd Po:Nat->Nat->Nat->Value->World->Prop) (S:Nat->Option Nat) (Q:Book->Act->Prop):List Oper->Nat->Book->Act->Prop
 |[],_,F,a=>Q F a
 |_::rest,k,F,a=>rA P ops w0 E Φ Pd Po S k (qZ P ops w0 E Φ Pd Po S Q rest (k+1)) F a
theorem Dv{k}{K R:Book->Act->Prop}{F a}(G:∃w,fV w0 Φ F w)(h:∀B a',(B=F\/∃e,B=F.set k e)->(∃w,fV w0 Φ B w)->K B a'->R B a')(j:rA P ops w0 E Φ Pd Po S k K F a):rA P ops w0 E Φ Pd Po S k R F a:=by
 unfold rA at*
 split
 .rename_i D;simp only[D] at j;exact h _ _ (.inl rfl) G j
 .rename_i o D
  simp only[D] at j;split
  .rename_i C
   simp only[C,aad] at j;split
   .rename_i Y
    simp only[Y,aad] at j;exact⟨j.1,j.2.1,fun v lo hi J=>h _ _ (.inr ⟨_,rfl⟩) J (j.2.2 v lo hi J)⟩
   .rename_i Y
    simp only[Y] at j;obtain⟨hp,hs,v,I,H⟩:=j;exact⟨hp,hs,v,I,h _ _ (.inl rfl) G H⟩
  .rename_i C
   simp only[C] at j;exact h _ _ (.inl rfl) G j
theorem D9{k}{K R:Book->Act->Prop}{F a}(h:∀F a,K F a->R F a)(j:rA P ops w0 E Φ Pd Po S k K F a):rA P ops w0 E Φ Pd Po S k R F a:=by
 unfold rA at*
 split
 .rename_i C;simp only[C] at j;exact h _ _ j
 .rename_i o C
  simp only[C] at j;split
  .rename_i B
   simp only[B,aad] at j;split
   .rename_i Y
    simp only[Y,aad] at j;exact⟨j.1,j.2.1,fun v lo hi J=>h _ _ (j.2.2 v lo hi J)⟩
   .rename_i Y
    simp only[Y] at j;obtain⟨hp,hs,v,G,D⟩:=j;exact⟨hp,hs,v,G,h _ _ D⟩
  .rename_i B
   simp only[B] at j;exact h _ _ j
def vL (P:Program) (ops:Array Oper) (w0:World) (E:Nat->Bool) (Φ Pd Po:Nat->Nat->Nat->Value->World->Prop) (S:Nat->Option Nat) (n:Nat) (L:Array Bool->Book->Act->Prop):Nat->Array Bool->Book->Act->Prop
 |0,listed,F,a=>L listed F a
 |f+1,listed,F,a=>Region.ready .any ops listed≠[]/\∀i∈Region.ready .any ops listed,i<n/\rA P ops w0 E Φ Pd Po S i (vL P ops w0 E Φ Pd Po S n L f (listed.setIfInBounds i ε)) F a
def j5.put{F w w' k v}(H:Late ops w0 Φ Pd Po S)(I:S k=Option.none)(hF:F k=Option.none)(h:j5 w0 Φ Pd Po S F w)(J:Ext w w')(hp:Pd k w.heap.size w'.heap.size v w')(hv:Φ k w.heap.size w'.heap.size v w'):
  j5 w0 Φ Pd Po S (F.set k (v,w.heap.size,w'.heap.size)) w':=by
 have D {C j:Nat} (hs:S C=γ j):C≠k:=fun e=>by rw[e,I] at hs;cases hs
 refine⟨h.tofV.put H.ft hF J hv,fun C j e hs O hn=> ?_,fun C j e x hs O hn=> ?_,fun C j hs B=> ?_⟩
 .rw[ae1 _ _ (D hs)] at hn;by_cases B:j=k
  .subst B;rw[ae3] at O;cases O;exact hp
  .rw[ae1 _ _ B] at O;exact H.pt _ _ _ _ _ _ (h.pend C j e hs O hn) J
 .rw[ae1 _ _ (D hs)] at hn;by_cases B:j=k
  .subst B;rw[h.dep C j hs hF] at hn;cases hn
  .rw[ae1 _ _ B] at O;exact H.qt _ _ _ _ _ _ (h.post C j e x hs O hn) J
 .rw[ae1 _ _ (D hs)];by_cases G:j=k
  .subst G;rw[ae3] at B;cases B
  .rw[ae1 _ _ G] at B;exact h.dep C j hs B
def j5.Yb{F w w' k j}{e:Value×Nat×Nat}{v}(H:Late ops w0 Φ Pd Po S)(N:S k=γ j)(R:F j=γ e)(T:e.2.1<e.2.2)(hF:F k=Option.none)(h:j5 w0 Φ Pd Po S F w)(J:Sto e.2.1 w w')(hp:Po j e.2.1 e.2.2 e.1 w')(hv:Φ k w.heap.size w'.heap.size v w'):
  j5 w0 Φ Pd Po S (F.set k (v,w.heap.size,w'.heap.size)) w':=by
 have M {I G:Nat} (hs:S I=γ G):G≠k:=fun e=>by have:=H.sn _ _ hs;rw[e,N] at this;cases this
 have out {G:Nat} {f:Value×Nat×Nat} (D:G≠j) (K:F G=γ f):e.2.1<f.2.1\/f.2.2<=e.2.1:=by
  rcases h.disj G j f e D K R with U|U
  .exact .inr U
  .exact .inl (ο T U)
 have V:=J.size;refine⟨⟨J.ext h.ext (h.low j e R),fun i f O=> ?_,fun i f O=> ?_,fun i f O=> ?_,fun i Q f W L O K=> ?_⟩,fun I G f hs O hn=> ?_,fun I G f x hs O hn=> ?_,fun I G hs C=> ?_⟩
 .by_cases hi:i=k
  .subst hi;rw[ae3] at O;cases O;exact hv
  .rw[ae1 _ _ hi] at O;exact H.fs _ _ _ _ _ _ _ ⟨k,j,N⟩ (h.fact i f O) J
 .by_cases hi:i=k
  .subst hi;rw[ae3] at O;cases O;exact κ _
  .rw[ae1 _ _ hi] at O;rw[V];exact h.size i f O
 .by_cases hi:i=k
  .subst hi;rw[ae3] at O;cases O;exact h.ext.size
  .rw[ae1 _ _ hi] at O;exact h.low i f O
 .by_cases hi:i=k
  .subst hi;rw[ae3] at O;cases O;rw[ae1 _ _ (abk L)] at K;exact .inr (h.size Q W K)
  .rw[ae1 _ _ hi] at O;by_cases C:Q=k
   .subst C;rw[ae3] at K;cases K;exact .inl (h.size i f O)
   .rw[ae1 _ _ C] at K;exact h.disj i Q f W L O K
 .have B:I≠k:=fun P=>by rw[P,ae3] at hn;cases hn
  rw[ae1 _ _ B] at hn;rw[ae1 _ _ (M hs)] at O;have D:G≠j:=fun P=>B (H.si _ _ _ hs (by rw[P];exact N));exact H.ps _ _ _ _ _ _ _ (h.pend I G f hs O hn) J (out D O)
 .rw[ae1 _ _ (M hs)] at O;by_cases B:I=k
  .subst B;rw[N] at hs;cases hs;rw[R] at O;cases O;exact hp
  .rw[ae1 _ _ B] at hn;have D:G≠j:=fun P=>B (H.si _ _ _ hs (by rw[P];exact N));exact H.qs _ _ _ _ _ _ _ (h.post I G f x hs O hn) J (out D O)
 .rw[ae1 _ _ (M hs)] at C;by_cases B:I=k
  .subst B;rw[N] at hs;cases hs;rw[R] at C;cases C
  .rw[ae1 _ _ B];exact h.dep I G hs C
def j5.on{F w w' k v}(H:Late ops w0 Φ Pd Po S)(hF:F k=Option.none)(h:j5 w0 Φ Pd Po S F w)(B:Lm S k F)(O:Fs Φ Pd Po S k F w v w'):
  j5 w0 Φ Pd Po S (F.set k (v,w.heap.size,w'.heap.size)) w':=by
 obtain⟨I,G,J⟩:=O;cases hs:S k with
 |none=>exact h.put H hs hF (I hs).1 (I hs).2 J
 |some j=>
  obtain⟨e,D,C⟩:=B j hs;exact h.Yb H hs D C hF (G j e hs D).1 (G j e hs D).2 J
def j5.kn{F w k}(h:j5 w0 Φ Pd Po S F w)(hF:F k=Option.none):KnL ops w0 Φ Pd S k F w:=⟨h.ext,fun i e O _=>h.fact i e O,fun j e hs O=>h.pend k j e hs O hF⟩
theorem FQ{k F a w}{K:Book->Act->Prop}{R:Act->World->Prop}{Q'}(H:Late ops w0 Φ Pd Po S)(hF:F k=Option.none)(L:j5 w0 Φ Pd Po S F w)(h:∀Q a' w',j5 w0 Φ Pd Po S Q w'->(∀j,j≠k->F j=Option.none->Q j=Option.none)->K Q a'->R a' w')(G:rA P ops w0 E Φ Pd Po S k K F a):wpOp P ops Q' k R a w:=by
 unfold rA at G;unfold wpOp;split
 .rename_i U;simp only[U] at G;exact h F _ _ L (fun _ _ h=>h) G
 .rename_i o U
  simp only[U] at G;split
  .rename_i B
   simp only[B,aad] at G;refine .inl ?_;by_cases Y:E k=ε
   .simp only[Y,aad] at G;obtain⟨V,T,M⟩:=G;have D:=T w (L.kn hF);unfold Oper.wp;generalize (execOp a.eval o).run P w=r at*
    cases r with
    |ok nx w'=>
     cases nx<;>simp only[Oper.upon]
     case value v=>
      have I:=L.on H hF V D;exact h _ _ _ I (fun j N hn=>by rw[ae1 _ _ N];exact hn) (M v _ _ ⟨w',I.tofV⟩)
     case skip=>
      have I:=L.on H hF V D;exact h _ _ _ I (fun j N hn=>by rw[ae1 _ _ N];exact hn) (M undef _ _ ⟨w',I.tofV⟩)
     case enter f args=>
      simp only[rQ] at D;obtain⟨rfl,hs,hc⟩:=D;refine hc.mono fun e w'' ⟨v,O,J,hp,hv⟩=> ?_;subst O;have I:=L.put H hs hF J hp hv;exact h _ _ _ I (fun j N hn=>by rw[ae1 _ _ N];exact hn) (M v _ _ ⟨w'',I.tofV⟩)
     all_goals simp only[rQ] at D
    |halt x w'=>simp only[rQ] at D
   .simp only[Y] at G;obtain⟨_,_,v,T,M⟩:=G;have D:=T w L.ext;unfold Oper.quietAt at D;unfold Oper.wp;generalize (execOp a.eval o).run P w=r at*
    cases r with
    |ok nx w'=>
     cases nx<;>simp only[Oper.quietUpon] at D<;>simp only[Oper.upon]
     case value u=>obtain⟨rfl,rfl⟩:=D;exact h F _ _ L (fun _ _ h=>h) M
     case skip=>obtain⟨rfl,rfl⟩:=D;exact h F _ _ L (fun _ _ h=>h) M
     case enter f args=>
      obtain⟨rfl,hc⟩:=D;exact hc.mono fun e w'' ⟨O,C⟩=>by subst O;subst C;exact h F _ _ L (fun _ _ h=>h) M
    |halt x w'=>simp only[Oper.quietUpon] at D
  .rename_i B
   simp only[B] at G;exact h F _ _ L (fun _ _ h=>h) G
def afO(H:Late ops w0 Φ Pd Po S){F w k i}{e:Value×Nat×Nat}(hF:F i=Option.none)(B:anc ops ops.size k i=ζ):KnL ops w0 Φ Pd S k (F.set i e) w↔KnL ops w0 Φ Pd S k F w:=by
 have D {j:Nat} (hs:S k=γ j):j≠i:=fun I=>by have:=H.sa _ _ hs;rw[I,B] at this;cases this
 constructor
 .exact fun h=>⟨h.1,fun x f J ha=>h.2.1 x f (afF hF x f J) ha,fun j f hs G=>h.2.2 j f hs (by rw[ae1 _ _ (D hs)];exact G)⟩
 .refine fun h=>⟨h.1,fun x f J ha=> ?_,fun j f hs G=>h.2.2 j f hs (by rw[ae1 _ _ (D hs)] at G;exact G)⟩;by_cases C:x=i
  .subst C;rw[B] at ha;cases ha
  .rw[ae1 _ _ C] at J;exact h.2.1 x f J ha
def af0(H:Late ops w0 Φ Pd Po S){F k i}{e:Value×Nat×Nat}(B:anc ops ops.size k i=ζ):Lm S k (F.set i e)↔Lm S k F:=by
 have D {j:Nat} (hs:S k=γ j):j≠i:=fun I=>by have:=H.sa _ _ hs;rw[I,B] at this;cases this
 constructor<;>intro h j hs<;>obtain⟨f,G,C⟩:=h j hs
 .rw[ae1 _ _ (D hs)] at G;exact⟨f,G,C⟩
 .exact⟨f,by rw[ae1 _ _ (D hs)];exact G,C⟩
def afZ(H:Late ops w0 Φ Pd Po S){F w k i}{e:Value×Nat×Nat}{r:Result Next}(B:anc ops ops.size k i=ζ):rQ P Φ Pd Po S k (F.set i e) w r↔rQ P Φ Pd Po S k F w r:=by
 have C {j:Nat} (hs:S k=γ j):j≠i:=fun I=>by have:=H.sa _ _ hs;rw[I,B] at this;cases this
 cases r with
 |ok nx w'=>
  cases nx<;>simp only[rQ,Fs]
  all_goals
   constructor<;>rintro⟨J,G,K⟩<;>refine⟨J,fun j f hs D=>G j f hs ?_,K⟩
   .rw[ae1 _ _ (C hs)];exact D
   .rw[ae1 _ _ (C hs)] at D;exact D
 |halt x w'=>simp only[rQ]
def EY{F:Book}{i}{a:Act}{o}(H:Late ops w0 Φ Pd Po S)(hF:F i=Option.none)(G:∃w,fV w0 Φ F w)(D:∀w,KnL ops w0 Φ Pd S i F w->rQ P Φ Pd Po S i F w ((execOp a.eval o).run P w)):∃v lo hi,∃w,fV w0 Φ (F.set i (v,lo,hi)) w:=by
 obtain⟨w,C⟩:=G;cases hs:S i with
 |some j=>exact⟨undef,w.heap.size,w.heap.size,w,C.put H.ft hF (Ext.refl w) (H.fz _ _ _ _ _ _ hs)⟩
 |none=>
  have B:=D w ⟨C.ext,fun x e O _=>C.fact x e O,fun j e h=>by rw[hs] at h;cases h⟩;generalize (execOp a.eval o).run P w=r at*
  cases r with
  |ok nx w'=>
   cases nx
   case value v=>
    simp only[rQ,Fs] at B;exact⟨v,_,_,w',C.put H.ft hF (B.1 hs).1 B.2.2⟩
   case skip=>
    simp only[rQ,Fs] at B;exact⟨undef,_,_,w',C.put H.ft hF (B.1 hs).1 B.2.2⟩
   case enter f args=>
    simp only[rQ] at B;obtain⟨_,_,hc⟩:=B;obtain⟨e,w',I,⟨v,_,J,hp,hv⟩,_⟩:=hc [];exact⟨v,_,_,w',C.put H.ft hF J hv⟩
   all_goals simp only[rQ] at B
  |halt x w'=>simp only[rQ] at B
theorem Om{i j V M}{K:Book->Act->Prop}{F a}(H:Late ops w0 Φ Pd Po S)(hi:ops[i]? =γ V)(hj:ops[j]? =γ M)(L:i≠j)(Y:V.apart ops M=ε)(Z:∀cs b,V.op≠ .select cs b)(Yu:∀cs b,M.op≠ .select cs b)(U:F i=Option.none)(W:F j=Option.none)(a1:anc ops ops.size i j=ζ)(a2:anc ops ops.size j i=ζ)(hr:∃w,fV w0 Φ F w)(h:rA P ops w0 E Φ Pd Po S i (rA P ops w0 E Φ Pd Po S j K) F a):
  rA P ops w0 E Φ Pd Po S j (rA P ops w0 E Φ Pd Po S i K) F a:=by
 obtain⟨p1,p2,p3⟩:=Oper.apart_spec Y;have x1:∀(a:Act) v,execOp (a.put V.dst v).eval M=execOp a.eval M:=fun a v=>execOp_put M Yu a V.dst v p1;have x2:∀(a:Act) v,execOp (a.put M.dst v).eval V=execOp a.eval V:=fun a v=>execOp_put V Z a M.dst v p3;have y1:∀(a:Act) v,Region.wanted M (yielded ops (a.put V.dst v).tmps)=Region.wanted M (yielded ops a.tmps):=fun a v=>wanted_put M a V.dst v p1;have y2:∀(a:Act) v,Region.wanted V (yielded ops (a.put M.dst v).tmps)=Region.wanted V (yielded ops a.tmps):=fun a v=>wanted_put V a M.dst v p3;have z:∀(a:Act) v u,(a.put M.dst u).put V.dst v=(a.put V.dst v).put M.dst u:=fun a v u=>(Act.put_comm a v u p2).symm;have q1:∀(a:Act) v w u,M.quietAt P (a.put V.dst v) (fun w'=>w'=w) w u↔M.quietAt P a (fun w'=>w'=w) w u:=fun a v w u=>by unfold Oper.quietAt;rw[x1]
 have q2:∀(a:Act) v w u,V.quietAt P (a.put M.dst v) (fun w'=>w'=w) w u↔V.quietAt P a (fun w'=>w'=w) w u:=fun a v w u=>by unfold Oper.quietAt;rw[x2]
 unfold rA at h⊢;simp only[hi,hj] at h⊢;simp only[y1,x1,q1] at h;simp only[y2,x2,q2,z];by_cases wi:Region.wanted V (yielded ops a.tmps)=ε
 .simp only[wi,aad] at h⊢;by_cases Ei:E i=ε
  .simp only[Ei,aad] at h⊢;obtain⟨h0,h1,h2⟩:=h;obtain⟨v0,T,O,Yx⟩:=EY H U hr h1;by_cases wj:Region.wanted M (yielded ops a.tmps)=ε
   .simp only[wj,aad] at h2⊢;by_cases R:E j=ε
    .simp only[R,aad] at h2⊢;refine⟨(af0 H a2).1 (h2 v0 T O Yx).1,fun w hw=>(afZ H a2).1 ((h2 v0 T O Yx).2.1 w ((afO H U a2).2 hw)),fun u lo hi Q=>⟨(af0 H a1).2 h0,fun w hw=>(afZ H a1).2 (h1 w ((afO H W a1).1 hw)),fun v N YB B=> ?_⟩⟩;obtain⟨w,hw⟩:=B;have YI:fV w0 Φ (F.set i (v,N,YB)) w:=hw.sub (af9 (afF W));rw[agh _ (abk L)] at hw⊢;exact(h2 v N YB ⟨w,YI⟩).2.2 u lo hi ⟨w,hw⟩
    .simp only[R] at h2⊢;obtain⟨hp,C,u,hu,_⟩:=h2 v0 T O Yx;refine⟨hp,C,u,hu,h0,h1,fun v lo hi B=> ?_⟩;obtain⟨_,_,u',J,I⟩:=h2 v lo hi B;obtain⟨w,hw⟩:=hr;rw[Gz hp (hu w hw.ext) (J w hw.ext)];exact I
   .simp only[wj] at h2⊢;exact⟨h0,h1,fun v lo hi B=>h2 v lo hi B⟩
  .simp only[Ei] at h⊢;obtain⟨hp,C,v,hv,h2⟩:=h;by_cases wj:Region.wanted M (yielded ops a.tmps)=ε
   .simp only[wj,aad] at h2⊢;by_cases R:E j=ε
    .simp only[R,aad] at h2⊢;exact⟨h2.1,h2.2.1,fun u lo hi Q=>⟨hp,C,v,hv,h2.2.2 u lo hi Q⟩⟩
    .simp only[R] at h2⊢;obtain⟨D,G,u,hu,I⟩:=h2;exact⟨D,G,u,hu,hp,C,v,hv,I⟩
   .simp only[wj] at h2⊢;exact⟨hp,C,v,hv,h2⟩
 .simp only[wi] at h⊢;by_cases wj:Region.wanted M (yielded ops a.tmps)=ε
  .simp only[wj,aad] at h⊢;by_cases R:E j=ε
   .simp only[R,aad] at h⊢;exact⟨h.1,h.2.1,fun u lo hi Q=>h.2.2 u lo hi Q⟩
   .simp only[R] at h⊢;obtain⟨D,G,u,hu,I⟩:=h;exact⟨D,G,u,hu,I⟩
  .simp only[wj] at h⊢;exact h
def uf{n g}{L:Array Bool->Book->Act->Prop}{Q'}(H:Late ops w0 Φ Pd Po S)(J:∀B F a w,j5 w0 Φ Pd Po S F w->L B F a->wpAny P .any ops Q' g B a w):
  ∀(f:Nat) (B:Array Bool) (F:Book) (a:Act) (w:World),j5 w0 Φ Pd Po S F w->(∀j,B.getD j ε=ζ->F j=Option.none)->vL P ops w0 E Φ Pd Po S n L f B F a->wpAny P .any ops Q' (f+g) B a w
 |0,B,F,a,w,hw,_,h=>by rw[aaC];exact J _ _ _ _ hw h
 |f+1,B,F,a,w,hw,hF,h=>by
  rw[show f+1+g=(f+g)+1 by omega];refine⟨fun M=>absurd M h.1,fun i hi=> ?_⟩;have U:=(abK.1 hi).1;refine FQ H (hF i U) hw (fun N a' w' K R D=>uf H J f _ N a' w' K (fun j I=> ?_) D) (h.2 i hi).2;by_cases C:j=i
  .subst C;exfalso;have G:j<B.size:=by
    rcases Nq j B.size with D|D
    .exact D
    .simp[aat D] at U
   simp[G] at I
  .rw[acE ε (abk C)] at I;exact R j C (hF j I)
theorem DR{n i V}{L:Array Bool->Book->Act->Prop}(HL:Late ops w0 Φ Pd Po S)(hi:ops[i]? =γ V)(C:∀(j:Nat) (o:Oper) cs b,ops[j]? =γ o->o.op≠ .select cs b)(hs:Region.sinkB .any ops n=ε)(hc:Region.chainB .any ops n=ε)(hn:n<ops.size)(I:i<n)(T:∀B F a,L B F a->∀j∈Region.ready .any ops B,n<=j):
  ∀(f:Nat) (B:Array Bool) (F:Book) (a:Act),HeadInv .any ops n B->(∀j,B.getD j ε=ζ->F j=Option.none)->(∃w,fV w0 Φ F w)->
   (∀j M,ops[j]? =γ M->j≠i->B.getD j ε=ζ->(∀e∈M.after,Region.binds .any e=ε->e.on≠i)->V.apart ops M=ε)->
   i∈Region.ready .any ops B->rA P ops w0 E Φ Pd Po S i (vL P ops w0 E Φ Pd Po S n L f (B.setIfInBounds i ε)) F a->vL P ops w0 E Φ Pd Po S n L (f+1) B F a:=by
 intro f
 induction f with
 |zero=>
  intro B F a inv hF Yx _ hr H;have U:=(abK.1 hr).1;refine⟨fun h=>(by rw[h] at hr;cases hr),fun j hj=> ?_⟩;have N:j<n:=by
   exact AaH
  refine⟨N,?_⟩;by_cases Yw:j=i
  .subst Yw;exact H
  .exfalso;have Q:∀F' a',vL P ops w0 E Φ Pd Po S n L 0 (B.setIfInBounds i ε) F' a'->False:=fun F' a' h=>by
    have:=T _ _ _ h j (acn hj Yw);omega
   unfold rA at H;simp only[hi] at H;split at H
   .split at H
    .obtain⟨v,lo,YB,YS⟩:=EY HL (hF i U) Yx H.2.1;exact Q _ _ (H.2.2 v lo YB YS)
    .obtain⟨_,_,v,_,h2⟩:=H;exact Q _ _ h2
   .exact Q _ _ H
 |succ f ih=>
  intro B F a inv hF Yx Yv hr H;have U:=(abK.1 hr).1;refine⟨fun h=>(by rw[h] at hr;cases hr),fun j hj=> ?_⟩;have N:j<n:=by
   exact AaH
  refine⟨N,?_⟩;by_cases Yw:j=i
  .subst Yw;exact H
  .obtain⟨Z,M,Yy,K⟩:=abK.1 hj;have YD:∀e∈M.after,Region.binds .any e=ε->e.on≠i:=fun e O hb W=>by
    have h1:=K e O hb;rw[W,getD_both U] at h1;cases h1
   have H1:=D9 (fun F' a' h=>(h.2 j (acn hj Yw)).2) H;have H2:=Om HL hi Yy (abk Yw) (Yv j M Yy Yw Z YD) (fun cs b=>C i V cs b hi) (fun cs b=>C j M cs b Yy) (hF i U) (hF j Z) (Em inv hr Z) (Em inv hj U) Yx H1;have Yz:∀k ok,ops[k]? =γ ok->k≠i->(B.setIfInBounds j ε).getD k ε=ζ->
     (∀e∈ok.after,Region.binds .any e=ε->e.on≠i)->V.apart ops ok=ε:=fun k ok hk YC YA Y=>by
    refine Yv k ok hk YC ?_ Y;by_cases YM:j=k
    .subst YM;exact Z
    .rw[acE ε YM] at YA;exact YA
   refine Dv Yx (fun F' a' R G h3=>ih (B.setIfInBounds j ε) F' a' (inv.set hj N) (fun x J=> ?_) G Yz (acn hr (abk Yw)) ?_) H2
   .have YH:x≠j:=by
     rintro rfl;have Yu:x<B.size:=by
      rcases Nq x B.size with D|D
      .exact D
      .simp[aat D] at Z
     simp[Yu] at J
    rw[acE ε (abk YH)] at J;rcases R with rfl|⟨e,rfl⟩
    .exact hF x J
    .rw[ae1 _ _ YH];exact hF x J
   .rw[ac2 _ _ Yw];exact h3
def zG{n g}{I:Book->Act->Prop}(H:Late ops w0 Φ Pd Po S)(C:Region.noSelect ops=ε)(hs:Region.sinkB .any ops n=ε)(hc:Region.chainB .any ops n=ε)(hn:n<ops.size):
  ∀(l:List Oper) (k:Nat) (B:Array Bool) (F:Book) (a:Act),(∀j,j<l.length->l[j]? =ops[k+j]?)->k+l.length=n->HeadInv .any ops n B->(∀j,B.getD j ε=ζ->F j=Option.none)->(∃w,fV w0 Φ F w)->
  Region.lexHead .any ops g l.length k B=ε->qZ P ops w0 E Φ Pd Po S I l k F a->
  vL P ops w0 E Φ Pd Po S n (fun K N a'=>Region.seqB .any ops g n K=ε/\I N a') l.length B F a
 |[],k,B,F,a,_,hk,_,_,_,hB,h=>by
  have:k=n:=by simpa using hk
  subst this;exact⟨by simpa[Region.lexHead] using hB,h⟩
 |o::l,k,B,F,a,hl,hk,inv,hF,hr0,hB,h=>by
  have V:ops[k]? =γ o:=by simpa using(hl 0 ag).symm
  simp only[nV,Region.lexHead,υ] at hB;obtain⟨⟨Z,Y⟩,M⟩:=hB;have O:k<n:=by simp only[nV] at hk;omega
  have G:k∈Region.ready .any ops B:=by simpa using Z
  have U:=(abK.1 G).1;refine DR H V (aaF C) hs hc hn O (fun K N a' W=>ab1 W.1) l.length B F a inv hF hr0 (aa2 V Y) G ?_;refine Dv hr0 (fun N a' R Q D=>zG H C hs hc hn l (k+1) _ N a' (fun j hj=>by have:=hl (j+1) ae;simpa[acN,aaX 1 j] using this) (by simp only[nV] at hk;omega) (inv.set G O) (fun x J=> ?_) Q M D) h;have L:x≠k:=by
   rintro rfl;have T:x<B.size:=by
    rcases Nq x B.size with D|D
    .exact D
    .simp[aat D] at U
   simp[T] at J
  rw[acE ε (abk L)] at J;rcases R with rfl|⟨e,rfl⟩
  .exact hF x J
  .rw[ae1 _ _ L];exact hF x J
end
def qw{P:Program}{J Q a w}{l:List Oper}(n E Φ Pd Po)(S:Nat->Option Nat)(H:Late l.toArray w Φ Pd Po S)(hm:P.follows .mixedOrders=ε)(W:Region.lexTailB .any l.toArray n=ε)(h:qZ P l.toArray w E Φ Pd Po S (fun F a'=>∀w',j5 w Φ Pd Po S F w'->wpList P l.toArray Q (l.drop n) a' w') (l.take n) 0 Book.none a):(Code.region J l.toArray ε).wp P Q a w:=by
 simp only[Region.lexTailB,υ,Δ] at W;obtain⟨⟨⟨⟨C,hn⟩,hs⟩,hc⟩,N⟩:=W;have YL:n<l.length:=by simpa using hn
 have L:(l.take n).length=n:=ae;have I:(l.drop n).length=l.toArray.size-n:=ag;have D:HeadInv .any l.toArray n (Array.replicate l.toArray.size ζ):=
  ⟨ag,fun j M _ Z=>AaY,fun t _ Y=>aen (by simpa using Y) (aaU _ _)⟩
 have O:fV w Φ Book.none {w with drawn:=w.drawn+1}:=⟨(Ext.refl w).drew,fun _ _ h=>Acc,fun _ _ h=>Acc,fun _ _ h=>Acc,fun _ _ _ _ _ h=>Acc⟩;have G:j5 w Φ Pd Po S Book.none {w with drawn:=w.drawn+1}:=⟨O,fun _ _ _ _ h=>Acc,fun _ _ _ _ _ h=>Acc,fun _ _ _ _=>rfl⟩;have H1:=zG (P:=P) (E:=E) (g:=l.toArray.size-n) H C hs hc hn (l.take n) 0 _ Book.none a (fun j V=>by
  have R:j<n:=by rw[L] at V;exact V
  simp[R]) (by simpa using L) D (fun _ _=>rfl) ⟨_,O⟩ (by rw[L];exact N) h
 refine adu hm ?_;have T:=uf (P:=P) (n:=n) (g:=l.toArray.size-n) (Q':=Q) H (fun B F a' w' K U=>by
  have:=aco (P:=P) (ops:=l.toArray) (md:=.any) (Q':=Q) (l.drop n) n B a' w' (fun j=>ag) (by rw[I];exact U.1) (U.2 w' K);rwa[I] at this) _ _ _ _ _ G (fun _ _=>rfl) H1
 rw[L] at T;have e:n+(l.toArray.size-n)=l.toArray.size:=by simp at hn⊢;omega
 rw[e] at T;exact T
section
variable {P:Program} {ops:Array Oper} {w0:World} {E:Nat->Bool} {Φ Pd Po:Nat->Nat->Nat->Value->World->Prop} {Q:Book->Act->Prop} {S:Nat->Option Nat}
theorem zR(m){l k F a}(B:∀j,j<m->l[j]? =ops[k+j]?)(Y:(List.range m).all (fun j=>(!E (k+j)&&(S (k+j)).isNone)&&((ops[k+j]?).map fun o=>jf o.op).getD ζ)=ε)(h:wpQuiet P ops (fun w'=>∃x:aX w0,w'=x.val) (fun a'=>qZ P ops w0 E Φ Pd Po S Q (l.drop m) (k+m) F a') (l.take m) a):qZ P ops w0 E Φ Pd Po S Q l k F a:=by
 induction m generalizing l k a with
 |zero=>simpa[wpQuiet] using h
 |succ m ih=>
  cases l with
  |nil=>simp[wpQuiet] at h;simpa[qZ] using h
  |cons o r=>
   have L:ops[k]? =γ o:=by simpa using(B 0 aa).symm
   have K:=q8.1 Y;have e0:=K 0 ag;simp only[I6,L,Option.map_some,Option.getD_some,υ,Bool.not_eq_true',Option.isNone_iff_eq_none] at e0;have G:(List.range m).all (fun j=>(!E (k+1+j)&&(S (k+1+j)).isNone)&&((ops[k+1+j]?).map fun o=>jf o.op).getD ζ)=ε:=by
    rw[q8];intro x J;have:=K (x+1) (by simp at J⊢;omega);rwa[show k+(x+1)=k+1+x by omega] at this
   have D:=fun a'=>ih (l:=r) (k:=k+1) (a:=a') (fun j T=>by have:=B (j+1) aa;simpa[acN,aaX 1 j] using this) G;simp only[aay,ξ,wpQuiet] at h;have I:k+(m+1)=k+1+m:=aa;rw[I] at h;unfold qZ rA;simp only[L];by_cases M:Region.wanted o (yielded ops a.tmps)=ε
   .simp only[M,aad] at h⊢;simp only[e0.1.1,NK,abA];obtain⟨v,O,N⟩:=h;refine⟨e0.2,e0.1.2,v,fun w J=> ?_,D _ N⟩;have H:=O w ⟨⟨w,J⟩,rfl⟩;unfold Oper.quietAt at*
    generalize R:(execOp a.eval o).run P w=C at*
    cases C with
    |ok nx w'=>
     cases nx<;>simp only[Oper.quietUpon] at H⊢
     case value u=>exact H
     case skip=>exact H
     case enter f args=>exact(mK e0.2 R).elim
    |halt x w'=>simp only[Oper.quietUpon] at H
   .simp only[M] at h⊢;exact D _ h
def lN(m){l k F a}(B:l.take m=(ops.toList.drop k).take m)(Y:(List.range m).all (fun j=>(!E (k+j)&&(S (k+j)).isNone)&&((ops[k+j]?).map fun o=>jf o.op).getD ζ)=ε)(h:wpQuiet P ops (fun w'=>∃x:aX w0,w'=x.val) (fun a'=>qZ P ops w0 E Φ Pd Po S Q (l.drop m) (k+m) F a') (l.take m) a):qZ P ops w0 E Φ Pd Po S Q l k F a:=
 zR m (fun j C=>by
  have D:(l.take m)[j]? =((ops.toList.drop k).take m)[j]? :=by rw[B]
  rw[PI C,PI C,Zb] at D;simpa using D) Y h
theorem jD{l o k F a}(G:ops[k]? =γ o)(J:Region.wanted o (yielded ops a.tmps)=ε)(Y:E k=ε)(hS:S k=Option.none)(H:∀w,Ext w0 w->(∀i e,F i=γ e->anc ops ops.size k i=ε->Φ i e.2.1 e.2.2 e.1 w)->vI P (fun lo hi v w'=>Pd k lo hi v w'/\Φ k lo hi v w') w ((execOp a.eval o).run P w))(D:∀v lo hi,(∃w,fV w0 Φ (F.set k (v,lo,hi)) w)->qZ P ops w0 E Φ Pd Po S Q l (k+1) (F.set k (v,lo,hi)) (a.put o.dst v)):qZ P ops w0 E Φ Pd Po S Q (o::l) k F a:=by
 unfold qZ rA;simp only[G,J,Y,aad];refine⟨fun j C=>(by rw[hS] at C;cases C),fun w I=> ?_,D⟩;have B:=H w I.1 I.2.1;generalize (execOp a.eval o).run P w=r at*
 cases r with
 |ok nx w'=>
  cases nx<;>simp only[vI,rQ,Fs] at B⊢
  case value v=>exact⟨fun _=>⟨B.1,B.2.1⟩,fun j e C=>(by rw[hS] at C;cases C),B.2.2⟩
  case enter f args=>exact⟨B.1,hS,B.2⟩
 |halt x w'=>simp only[vI] at B
theorem Je{l o k j F a}{e:Value×Nat×Nat}(G:ops[k]? =γ o)(L:Region.wanted o (yielded ops a.tmps)=ε)(Y:E k=ε)(hS:S k=γ j)(hF:F j=γ e)(C:e.2.1<e.2.2)(hd:o.dst=δ)(K:∀lo hi v w',Φ k lo hi v w')(J:∀w,Pd j e.2.1 e.2.2 e.1 w->∃w',(execOp a.eval o).run P w=.ok .skip w'/\Sto e.2.1 w w'/\Po j e.2.1 e.2.2 e.1 w')(D:∀x,qZ P ops w0 E Φ Pd Po S Q l (k+1) (F.set k x) a):qZ P ops w0 E Φ Pd Po S Q (o::l) k F a:=by
 unfold qZ rA;simp only[G,L,Y,aad];refine⟨fun H B=>(by rw[hS] at B;cases B;exact⟨e,hF,C⟩),fun w I=> ?_,fun v lo hi _=>(by rw[hd];exact D (v,lo,hi))⟩;obtain⟨w',M,hs,hp⟩:=J w (I.2.2 j e hS hF);exact Aa4
def Im{k F a}(h:Q F a):qZ P ops w0 E Φ Pd Po S Q [] k F a:=h
end

def tr5:Nat->Nat->Nat->Value->World->Prop:=fun _ _ _ _ _=>True
def noS:Nat->Option Nat:=fun _=>δ
def wpT (P:Program) (ops:Array Oper) (w0:World) (E:Nat->Bool) (Φ:Nat->Nat->Nat->Value->World->Prop) (Q:Book->Act->Prop):List Oper->Nat->Book->Act->Prop:=qZ P ops w0 E Φ tr5 tr5 noS Q
def Late.noS{ops:Array Oper}{w0:World}{Φ:Nat->Nat->Nat->Value->World->Prop}(B:∀i lo hi v w w',Φ i lo hi v w->Ext w w'->Φ i lo hi v w'):Late ops w0 Φ tr5 tr5 noS:=
 ⟨B,fun _ _ _ _ _ _ _ ⟨_,_,h⟩=>Acc,fun _ _ _ _ _ _ _ _=>trivial,fun _ _ _ _ _ _ _ _ _ _=>trivial,fun _ _ _ _ _ _ _ _=>trivial,fun _ _ _ _ _ _ _ _ _ _=>trivial,fun _ _ h=>Acc,fun _ _ _ h=>Acc,fun _ _ h=>Acc,fun _ _ _ _ _ _ h=>Acc⟩
def fP{P:Program}{J:Nat}{Q:Exit->Act->World->Prop}{a:Act}{w:World}{l:List Oper}(n:Nat)(E:Nat->Bool)(Φ:Nat->Nat->Nat->Value->World->Prop)(B:∀i lo hi v w w',Φ i lo hi v w->Ext w w'->Φ i lo hi v w')(C:P.follows .mixedOrders=ε)(D:Region.lexTailB .any l.toArray n=ε)(h:wpT P l.toArray w E Φ (fun F a'=>∀w',fV w Φ F w'->wpList P l.toArray Q (l.drop n) a' w') (l.take n) 0 Book.none a):(Code.region J l.toArray ε).wp P Q a w:=by
 refine qw n E Φ tr5 tr5 noS (Late.noS B) C D ?_;have mono:∀(G:List Oper) (k:Nat) (F:Book) (a:Act),wpT P l.toArray w E Φ (fun F a'=>∀w',fV w Φ F w'->wpList P l.toArray Q (l.drop n) a' w') G k F a->qZ P l.toArray w E Φ tr5 tr5 noS (fun F a'=>∀w',j5 w Φ tr5 tr5 noS F w'->wpList P l.toArray Q (l.drop n) a' w') G k F a:=by
  intro G
  induction G with
  |nil=>exact fun k F a h w' K=>h w' K.tofV
  |cons o r ih=>exact fun k F a h=>D9 (fun F a h=>ih (k+1) F a h) h
 exact mono _ _ _ _ h
section
variable {P:Program} {ops:Array Oper} {w0:World} {E:Nat->Bool} {Φ:Nat->Nat->Nat->Value->World->Prop} {Q:Book->Act->Prop}
def Kg(m){l k F a}(B:∀j,j<m->l[j]? =ops[k+j]?)(Y:(List.range m).all (fun j=> !E (k+j)&&((ops[k+j]?).map fun o=>jf o.op).getD ζ)=ε)(h:wpQuiet P ops (fun w'=>∃x:aX w0,w'=x.val) (fun a'=>wpT P ops w0 E Φ Q (l.drop m) (k+m) F a') (l.take m) a):wpT P ops w0 E Φ Q l k F a:=
 zR m B (by simpa[noS] using Y) h
def kU(m){l k F a}(B:l.take m=(ops.toList.drop k).take m)(Y:(List.range m).all (fun j=> !E (k+j)&&((ops[k+j]?).map fun o=>jf o.op).getD ζ)=ε)(h:wpQuiet P ops (fun w'=>∃x:aX w0,w'=x.val) (fun a'=>wpT P ops w0 E Φ Q (l.drop m) (k+m) F a') (l.take m) a):wpT P ops w0 E Φ Q l k F a:=
 lN m B (by simpa[noS] using Y) h
def dL{l o k F a}(C:ops[k]? =γ o)(G:Region.wanted o (yielded ops a.tmps)=ε)(Y:E k=ε)(D:∀w,Kn ops w0 Φ k F w->vI P (Φ k) w ((execOp a.eval o).run P w))(B:∀v lo hi,(∃w,fV w0 Φ (F.set k (v,lo,hi)) w)->wpT P ops w0 E Φ Q l (k+1) (F.set k (v,lo,hi)) (a.put o.dst v)):wpT P ops w0 E Φ Q (o::l) k F a:=
 jD C G Y rfl (fun w J H=>by
  have j:=D w ⟨J,H⟩;generalize (execOp a.eval o).run P w=r at*
  cases r with
  |ok nx w'=>
   cases nx<;>simp only[vI] at j⊢
   case value v=>exact⟨j.1,trivial,j.2⟩
   case enter f args=>exact⟨j.1,j.2.mono fun e w' ⟨v,O,J,hv⟩=>⟨v,O,J,trivial,hv⟩⟩
  |halt x w'=>simp only[vI] at j) B
def bN{k F a}(h:Q F a):wpT P ops w0 E Φ Q [] k F a:=h
end
def lt_of_cell{w:World}{p:Addr}{v:Value}(h:w.cell? p=γ v):p.block<w.heap.size:=by
 rcases Nq p.block w.heap.size with Z|Z
 .exact Z
 .simp[World.cell?,aat Z] at h
def Ext.cell_{w w'}(h:Ext w w'){p v}(hc:w.cell? p=γ v):w'.cell? p=γ v:=(h.cell (lt_of_cell hc)).trans hc
def aX.cell{w p v}(h:w.cell? p=γ v)(x:aX w):x.val.cell? p=γ v:=x.ext.cell_ h
def aX.blk{w g t cs}(h:Blk w g t cs)(x:aX w)(i):x.val.cell? (aM g i)=cs[i]? :=(h.ext x.ext).cell i
def fV.get{w0:World}{Φ:Nat->Nat->Nat->Value->World->Prop}{F:Book}{k lo hi:Nat}{v:Value}{w:World}(h:fV w0 Φ (F.set k (v,lo,hi)) w):Φ k lo hi v w:=h.fact k _ (ae3 _ _ _)
def fV.at_{w0 Φ F w}(h:fV w0 Φ F w)(k){e:Value×Nat×Nat}(O:F k=γ e):Φ k e.2.1 e.2.2 e.1 w:=h.fact k e O
theorem Sd(g j):Addr.add ⟨g,0,δ⟩ j=⟨g,j,δ⟩:=by unfold Addr.add;split<;>simp_all
theorem add_plain(b o j):Addr.add ⟨b,o,δ⟩ j=⟨b,o+j,δ⟩:=by unfold Addr.add;split<;>simp_all
theorem Reads.plain{w B n A xs}(h:Reads w B 1 A n xs)(hn:0<n):
  ∃b o,A=γ ⟨b,o,δ⟩/\b<B/\∀(j:Nat) (u:Value),xs[j]? =γ u->w.cell? (aM b (o+j))=γ u:=by
 obtain⟨G,e,hb,hc⟩:=h.2 hn;have Z:0<xs.length:=by have:=h.1;omega
 have H:=hc 0 _ (ν Z);have hs:G.spot=δ:=by
  have F:w.cell? G=γ xs[0]:=H;unfold World.cell? at F;split at F
  .split at F
   .cases F
   .rename_i K;simpa using K
  .cases F
 obtain⟨b,o,sp⟩:=G;simp only at hs;subst hs;exact⟨b,o,e,hb,fun j u I=>by rw[<-add_plain];exact hc j u I⟩
abbrev Only (g:Nat) (w w':World):Prop:=w.grownBy w' (γ g)
section
variable {g:Nat} {w w' w'':World}
def Only.refl(g w):Only g w w:=World.grownBy.refl w _
def Only.trans(h:Only g w w')(k:Only g w' w''):Only g w w'':=
 ⟨k.os.trans h.os,k.tape.trans h.tape,k.output.trans h.output,Θ h.size k.size,fun i hi j=>(k.block i (ο hi h.size) j).trans (h.block i hi j)⟩
def afp(h:Ext w w'):Only g w w':=⟨h.os,h.tape,h.output,h.size,fun i hi _=>h.block i hi⟩
def Only.set(w g i u):Only g w (w.setCell ⟨g,i,δ⟩ u):=
 ⟨rfl,rfl,rfl,by simp[World.setCell],fun k _ j=>abY w ⟨g,i,δ⟩ u k (fun e=>j (by rw[e]))⟩
def Only.cell_(h:Only g w w'){p v}(hc:w.cell? p=γ v)(hp:p.block≠g):w'.cell? p=γ v:=
 (World.cell?_of_block (h.block p.block (lt_of_cell hc) (fun e=>hp (by injection e)))).trans hc
def Only.blk(h:Only g w w'){b t cs}(hb:Blk w b t cs)(hp:b≠g):Blk w' b t cs:=(h.block b hb.lt (fun e=>hp (by injection e))).trans hb
def Only.ext{w0}(h:Only g w w')(O:Ext w0 w)(j:w0.heap.size<=g):Ext w0 w':=
 ⟨h.os.trans O.os,h.tape.trans O.tape,h.output.trans O.output,Θ O.size h.size,fun i hi=>(h.block i (ο hi O.size) (fun e=>by injection e with e;omega)).trans (O.block i hi)⟩
end

def Elem (P:Program) (t e:TypeId) (size bytes:Nat):Prop:=∃i z,P.underlying t=γ (.slice e)/\P.info? e=γ i/\i.zero=γ z/\i.size=size/\i.bytes=bytes/\z.cells.size=size/\0<size
def afa{P t e size bytes z}(D:P.underlying t=γ (.slice e))(hi:(P.info? e).map (fun i=>(i.zero,i.size,i.bytes))=γ (γ z,size,bytes))(G:z.cells.size=size)(F:0<size):Elem P t e size bytes:=by
 obtain⟨i0,O,B,C,j⟩:=abM hi;exact⟨i0,z,D,O,B,C,j,G,F⟩
def fu{P w ops rest o a Q t e size C}(E:Elem P t e size C)(H:o.guard=δ)(s x:Operand)(V:o.op=.call {callee:=.builtin .append,args:= #[s,x],argTypes:= #[t,t]})(base v n xs)(hs:a.eval s=v)(M:w.ownsRow base e size v n xs)(B m c D)(J:a.eval x=.slice (γ (aM B 0)) m c)(hB:Blk w B e D.toArray)(Z:D.length=m*size)(T:∀u∈D,u.oneCell'=ε)(Y:0<m)(L:n+m<=9223372036854775807)(F:(n+m)*C<=140737488355328)(K:base<=w.heap.size)(h:∀g N w',w'.ownsRow base e size (.slice (γ (aM g 0)) (n+m) N) (n+m) (xs++D)->w.grownBy w' v.ownBlock->(v.ownBlock=γ g\/g=w.heap.size)->g<w'.heap.size->wpList P ops Q rest (a.put o.dst (.slice (γ (aM g 0)) (n+m) N)) w'):
  wpList P ops Q (o::rest) a w:=by
 obtain⟨i,z,S,hi,U,G,I,O,R⟩:=E;exact wpList_append_lies w H s x t V base e i z size C S hi U G I O R v n xs hs M ⟨B,0,δ⟩ m c D J Z (fun j u W=>by have:=acy hB j u;simpa using this (by simpa using W)) T Y L F K w.heap.size rfl h
def Jp{P w ops rest o a Q t e size C}(E:Elem P t e size C)(H:o.guard=δ)(s x:Operand)(W:o.op=.call {callee:=.builtin .append,args:= #[s,x],argTypes:= #[t,t]})(base v n xs)(hs:a.eval s=v)(M:w.ownsRow base e size v n xs)(A m c D)(J:a.eval x=.slice A m c)(B:Reads w w.heap.size size A m D)(T:∀u∈D,u.oneCell'=ε)(R:0<m)(L:n+m<=9223372036854775807)(F:(n+m)*C<=140737488355328)(K:base<=w.heap.size)(h:∀g N w',w'.ownsRow base e size (.slice (γ (aM g 0)) (n+m) N) (n+m) (xs++D)->w.grownBy w' v.ownBlock->(v.ownBlock=γ g\/g=w.heap.size)->g<w'.heap.size->wpList P ops Q rest (a.put o.dst (.slice (γ (aM g 0)) (n+m) N)) w'):
  wpList P ops Q (o::rest) a w:=by
 obtain⟨i,z,S,hi,U,G,I,O,j⟩:=E;obtain⟨V,rfl,_,hc⟩:=B.2 R;exact wpList_append_lies w H s x t W base e i z size C S hi U G I O j v n xs hs M V m c D J B.1 hc T R L F K w.heap.size rfl h
section
variable {w w':World} {base:Nat} {e:TypeId} {size n:Nat} {v:Value} {xs:List Value}
def eY(h:w.ownsRow base e size v n xs)(J:Ext w w'):w'.ownsRow base e size v n xs:=
 h.kept (row:=δ) ⟨J.os,J.tape,J.output,J.size,fun k j _=>J.block k j⟩ (by cases hv:v.ownBlock<;>simp)
def rY{g}(h:w.ownsRow base e size v n xs)(J:Only g w w')(j:v.ownBlock≠γ g):w'.ownsRow base e size v n xs:=h.kept J (.inr j)
def uJ{base' T j n' G C}(h:w.ownsRow base e size v n xs)(D:w.ownsRow base' T j G n' C)(I:e≠T):v.ownBlock=δ\/v.ownBlock≠G.ownBlock:=by
 rcases h.2 with ⟨rfl,_⟩|⟨g,N,cur,rfl,_,K,_⟩
 .exact .inl rfl
 .right
  rcases D.2 with ⟨rfl,_⟩|⟨g',B,F,rfl,_,H,_⟩
  .simp[Value.ownBlock]
  .simp only[Value.ownBlock,ne_eq,aax];rintro rfl;rw[K] at H;injection H with H;injection H with _ J;exact I J
def jH(h:w.ownsRow base e size v n xs):∃A c,v=.slice A n c/\n<=c/\c<=maxLen/\Reads w w.heap.size size A n xs:=by
 have C:=h.1;rcases h.2 with ⟨rfl,rfl⟩|⟨g,N,cur,rfl,_,D,B,j,_,_⟩
 .obtain rfl:xs=[]:=KP AdN;exact⟨δ,0,rfl,κ _,q9 _,afq⟩
 .exact⟨_,N,rfl,B,j,C,fun _=>⟨_,rfl,(abb.1 D).1,h.cells (g:=g) rfl⟩⟩
def _root_.Go.World.ownsRow.less{base'}(h:w.ownsRow base e size v n xs)(j:base'<=base):w.ownsRow base' e size v n xs:=by
 refine⟨h.1,?_⟩;rcases h.2 with hn|⟨g,N,cur,hv,hb,rest⟩
 .exact .inl hn
 .exact .inr ⟨g,N,cur,hv,Θ j hb,rest⟩
def gu{row w0}(J:w.grownBy w' row)(O:Ext w0 w)(j:∀g,row=γ g->w0.heap.size<=g):Ext w0 w':=
 Below.grown O J O.size j
def kK{g}(h:w.ownsRow base e size v n xs)(j:g<base):v.ownBlock≠γ g:=by
 intro hv;have:=(h.lt g hv).1;omega
def gQ{row g t cs}(J:w.grownBy w' row)(hb:Blk w g t cs)(j:row≠γ g):Blk w' g t cs:=(J.block g hb.lt (fun e=>j e.symm)).trans hb
end
def mO{s:Result Value}{w'}(h:s.andThen (fun x w=>Result.ok (Next.value x) w)=.ok .skip w'):False:=by
 cases s<;>simp[Result.andThen] at h
def vO{P}{ev:Operand->Value}{o w w'}(hp:jf o.op=ε)(h:(execOp ev o).run P w=.ok .skip w'):False:=by
 obtain⟨B,op,F,pos,H,G⟩:=o;cases op<;>simp only[jf,NK] at hp<;>simp only[execOp,aaD,aa4] at h
 case call c=>
  obtain⟨j,D,C⟩:=c;cases j<;>simp only[NK] at hp
  case builtin b=>
   cases b<;>simp only[NK] at hp<;>simp only[resolve,aaD,aa4,aaw,invoke,builtin] at h<;>exact mO h
 case pick c x y=>cases hb:(asBool (ev c)).run P w<;>simp[hb,Result.andThen] at h
 all_goals first
  |exact mO h
  |(simp at h;done)
section
variable {P:Program} {ops:Array Oper} {Q Q':Exit->Act->World->Prop} {S:World->Prop}
def KE{o:Oper}{a:Act}{K R:Act->World->Prop}{r:Result Next}(I:∀a w,K a w->R a w)(j:∀e a w,Q e a w->Q' e a w)(h:o.upon P a K Q r):o.upon P a R Q' r:=by
 cases r with
 |ok n w'=>
  cases n<;>simp only[Oper.upon] at h⊢
  case value u=>exact I _ _ h
  case skip=>exact I _ _ h
  case defer d=>exact I _ _ h
  case enter f args=>
   refine Calls.mono h fun e w'' O=> ?_;cases e with
   |returned u=>exact I _ _ O
   |panicked c=>exact j _ _ _ O
   |outgrown=>exact(O:LetsOut Q).elim fun a h=>h.elim fun w h=>⟨a,w,j _ _ _ h⟩
  case row row args=>exact Rows.mono h fun u w'' O=>I _ _ O
 |halt x w'=>
  cases x<;>simp only[Oper.upon] at h⊢
  case panic u=>exact j _ _ _ h
theorem xG{o a v}(hp:jf o.op=ε)(D:Region.wanted o (yielded ops a.tmps)=ε)(h:∀w,S w->o.quietAt P a S w v):YieldsIf P ops S o v a:=by
 refine .inl ⟨D,fun w hS=> ?_⟩;have j:=h w hS;unfold Oper.quietAt at j;generalize B:(execOp a.eval o).run P w=C at*
 cases C with
 |ok nx w'=>
  cases nx<;>simp only[Oper.quietUpon] at j
  case value u=>obtain⟨rfl,rfl⟩:=j;rfl
  case skip=>exact(vO hp B).elim
  case enter f args=>exact(mK hp B).elim
 |halt x w'=>simp only[Oper.quietUpon] at j
def bJ:List Oper->Nat->List Oper
 |[],_=>[]
 |o::_,0=>[o]
 |_::l,n+1=>bJ l n
def Gq{p q : Prop}(h : q)(t : Hid q -> p := by intro h;simp only[bZ,bJ,abN,aa8];(repeat (go_big_quiet_step (fail)));refine aaL ?_;exact h.o): p := t h
theorem aR.{u,v} {A : Sort u} {B : A -> Sort v} {p : Prop} {q : ∀ a, B a -> Prop} (h : ∀ a b, q a b) (t : Hid (∀ a b, q a b) -> p := by intro h K I;simp only[bJ];go_wp2_with fail;exact h.o K I) : p := t h
def bZ (l:List Oper):List Nat->List Oper
 |[]=>[]
 |i::is=>bJ l i++bZ l is
def CS{l i o}(h:l[i]? =γ o):bJ l i=[o]:=by
 induction l generalizing i with
 |nil=>simp at h
 |cons x l ih=>
  cases i with
  |zero=>simpa[bJ] using h
  |succ i=>simpa[bJ] using ih Ach
end

section
variable {P:Program} {ops:Array Oper} {Q:Exit->Act->World->Prop} {S:World->Prop}
def QF:Exit->Act->World->Prop:=fun _ _ _=>False
def sW (P:Program) (ops:Array Oper) (S:World->Prop) (n:Nat) (L:Array Bool->Act->World->Prop):Nat->Array Bool->Act->World->Prop
 |0,listed,a,w=>L listed a w
 |f+1,listed,a,w=>Region.ready .any ops listed≠[]/\∀i∈Region.ready .any ops listed,i<n/\wpOp P ops QF i (fun a' w'=>S w'/\sW P ops S n L f (listed.setIfInBounds i ε) a' w') a w
theorem K7{Q Q' i a w}{K R:Act->World->Prop}(I:∀a w,K a w->R a w)(C:∀e a w,Q e a w->Q' e a w)(h:wpOp P ops Q i K a w):wpOp P ops Q' i R a w:=by
 unfold wpOp at h⊢;split
 .rename_i B;simp only[B] at h;exact I _ _ h
 .rename_i o B
  simp only[B] at h;split
  .rename_i j
   simp only[j,aad] at h;rcases h with h|⟨G,D,w1,F⟩
   .exact .inl (KE I C h)
   .exact .inr ⟨G,D,w1,C _ _ _ F⟩
  .rename_i j
   simp only[j] at h;exact I _ _ h
def nS{n g}{L:Array Bool->Act->World->Prop}(j:∀B a w,L B a w->wpAny P .any ops Q g B a w):
  ∀(f:Nat) (B:Array Bool) (a:Act) (w:World),sW P ops S n L f B a w->wpAny P .any ops Q (f+g) B a w
 |0,B,a,w,h=>by rw[aaC];exact j _ _ _ h
 |f+1,B,a,w,h=>by
  rw[show f+1+g=(f+g)+1 by omega];exact⟨fun C=>absurd C h.1,fun i hi=>K7 (fun a' w' D=>nS j f _ a' w' D.2) (fun _ _ _ h=>h.elim) (h.2 i hi).2⟩
def jZ{n i V v}{L:Array Bool->Act->World->Prop}(hi:ops[i]? =γ V)(C:∀(j:Nat) (o:Oper) cs b,ops[j]? =γ o->o.op≠ .select cs b)(hs:Region.sinkB .any ops n=ε)(hc:Region.chainB .any ops n=ε)(hn:n<ops.size)(I:i<n)(T:∀B a w,L B a w->∀j∈Region.ready .any ops B,n<=j):
  ∀(f:Nat) (B:Array Bool) (a:Act) (w:World),HeadInv .any ops n B->
   (∀j M,ops[j]? =γ M->j≠i->B.getD j ε=ζ->(∀e∈M.after,Region.binds .any e=ε->e.on≠i)->V.apart ops M=ε)->
   i∈Region.ready .any ops B->YieldsIf P ops S V v a->S w->
   sW P ops S n L f (B.setIfInBounds i ε) (a.put V.dst v) w->sW P ops S n L (f+1) B a w:=by
 intro f
 induction f with
 |zero=>
  intro B a w inv _ Q R hS H;have U:=(abK.1 Q).1;refine⟨fun h=>(by rw[h] at Q;cases Q),fun j hj=> ?_⟩;have N:j<n:=by
   exact AaH
  refine⟨N,?_⟩;by_cases D:j=i
  .subst D;exact R.wpOp hi hS ⟨hS,H⟩
  .have:=T _ _ _ H j (acn hj D);omega
 |succ f ih=>
  intro B a w inv F Q R hS H;have U:=(abK.1 Q).1;refine⟨fun h=>(by rw[h] at Q;cases Q),fun j hj=> ?_⟩;have N:j<n:=by
   exact AaH
  refine⟨N,?_⟩;by_cases D:j=i
  .subst D;exact R.wpOp hi hS ⟨hS,H⟩
  .have h1:=(H.2 j (acn hj D)).2;obtain⟨Z,M,Yy,K⟩:=abK.1 hj;have YD:∀e∈M.after,Region.binds .any e=ε->e.on≠i:=fun e O hb W=>by
    have h1:=K e O hb;rw[W,getD_both U] at h1;cases h1
   have h2:=wpOp_putIf Yy (F j M Yy D Z YD) (fun cs b=>C i V cs b hi) (fun cs b=>C j M cs b Yy) (fun _ _ _ h=>h) R h1;have G:∀k ok,ops[k]? =γ ok->k≠i->(B.setIfInBounds j ε).getD k ε=ζ->
     (∀e∈ok.after,Region.binds .any e=ε->e.on≠i)->V.apart ops ok=ε:=fun k ok hk YC J Y=>by
    refine F k ok hk YC ?_ Y;by_cases YM:j=k
    .subst YM;exact Z
    .rw[acE ε YM] at J;exact J
   refine acJ (fun a' w' h3=>⟨h3.2.1,ih (B.setIfInBounds j ε) a' w' (inv.set hj N) G (acn Q (abk D)) h3.1 h3.2.1 ?_⟩) h2;rw[ac2 _ _ D];exact h3.2.2
def dh (P:Program) (ops:Array Oper) (S:World->Prop) (L:Act->World->Prop):List (Bool×Nat)->Act->World->Prop
 |[],a,w=>L a w
 |(ε,i)::rest,a,w=>match ops[i]? with
  |some o=>if Region.wanted o (yielded ops a.tmps) then o.quiet P a S (fun a'=>dh P ops S L rest a' w) else dh P ops S L rest (a.put o.dst undef) w
  |none=>False
 |(ζ,i)::rest,a,w=>wpOp P ops QF i (fun a' w'=>S w'/\dh P ops S L rest a' w') a w
def rq (ops:Array Oper) (n:Nat):List (Bool×Nat)->Array Bool->Bool
 |[],listed=>Region.seqB .any ops (ops.size-n) n listed
 |(ε,i)::rest,listed=>((ops[i]?).map fun o=>jf o.op).getD ζ&&Region.free .any ops listed i&&(Region.ready .any ops listed).contains i&&decide (i<n)&&rq ops n rest (listed.setIfInBounds i ε)
 |(ζ,i)::rest,listed=>decide (Region.ready .any ops listed=[i])&&decide (i<n)&&rq ops n rest (listed.setIfInBounds i ε)
theorem lY{n}{L:Act->World->Prop}(C:Region.noSelect ops=ε)(hs:Region.sinkB .any ops n=ε)(hc:Region.chainB .any ops n=ε)(hn:n<ops.size):
  ∀(ord:List (Bool×Nat)) (B:Array Bool) (a:Act) (w:World),HeadInv .any ops n B->rq ops n ord B=ε->S w->dh P ops S L ord a w->
  sW P ops S n (fun K a' w'=>Region.seqB .any ops (ops.size-n) n K=ε/\L a' w') ord.length B a w
 |[],B,a,w,_,hB,_,h=>⟨by simpa[rq] using hB,h⟩
 |(ε,i)::rest,B,a,w,inv,hB,hS,h=>by
  simp only[rq,υ,Δ] at hB;obtain⟨⟨⟨⟨hp,Q⟩,U⟩,I⟩,M⟩:=hB;have G:i∈Region.ready .any ops B:=by simpa using U
  unfold dh at h;cases F:ops[i]? with
  |none=>simp[F] at h
  |some o=>
   simp only[F] at h;have D:jf o.op=ε:=by simpa[F] using hp
   by_cases H:Region.wanted o (yielded ops a.tmps)=ε
   .rw[ι H] at h;obtain⟨v,T,R⟩:=h;exact jZ (v:=v) F (aaF C) hs hc hn I (fun _ _ _ J=>ab1 J.1) _ _ _ _ inv (aa2 F Q) G (xG D H T) hS (lY C hs hc hn rest _ _ _ (inv.set G I) M hS R)
   .rw[θ H] at h;exact jZ (v:=undef) F (aaF C) hs hc hn I (fun _ _ _ J=>ab1 J.1) _ _ _ _ inv (aa2 F Q) G (.inr ⟨by simpa using H,rfl⟩) hS (lY C hs hc hn rest _ _ _ (inv.set G I) M hS h)
 |(ζ,i)::rest,B,a,w,inv,hB,hS,h=>by
  simp only[rq,υ,Δ] at hB;unfold dh at h;refine⟨by rw[hB.1.1];simp,fun j O=> ?_⟩;have N:=O;rw[hB.1.1] at O;obtain rfl:j=i:=by simpa using O
  exact⟨hB.1.2,acJ (fun a' w' h=>⟨h.1,lY C hs hc hn rest _ _ _ (inv.set N hB.1.2) hB.2 h.1 h.2⟩) h⟩
def Dx{J:Nat}{a:Act}{w:World}{l:List Oper}(n:Nat)(S:World->Prop)(ord:List (Bool×Nat))(R:P.follows .mixedOrders=ε)(N:(Region.noSelect l.toArray&&Region.sinkB .any l.toArray n&&Region.chainB .any l.toArray n&&decide (n<l.length)&&decide (ord.length=n)&&rq l.toArray n ord (Array.replicate l.length ζ))=ε)(hS:S w.drew)(h:dh P l.toArray S (fun a' w'=>wpList P l.toArray Q (l.drop n) a' w') ord a w.drew):(Code.region J l.toArray ε).wp P Q a w:=by
 simp only[υ,Δ] at N;obtain⟨⟨⟨⟨⟨C,hs⟩,hc⟩,hn⟩,Y⟩,F⟩:=N;have G:n<l.toArray.size:=by simpa using hn
 have D:HeadInv .any l.toArray n (Array.replicate l.length ζ):=
  ⟨ag,fun j M _ Z=>AaY,fun t _ O=>aen (by simpa using O) (aaU _ _)⟩
 have H:=lY (P:=P) C hs hc G ord _ a w.drew D F hS h;have I:(l.drop n).length=l.toArray.size-n:=ag;have K:=nS (P:=P) (Q:=Q) (n:=n) (g:=l.toArray.size-n) (fun B a' w' L=>by
  have:=aco (P:=P) (ops:=l.toArray) (md:=.any) (Q':=Q) (l.drop n) n B a' w' (fun j=>ag) (by rw[I];exact L.1) L.2;rwa[I] at this) _ _ _ _ H
 exact Ab7
def bO{J:Nat}{a:Act}{w:World}{l:List Oper}(n:Nat)(ord:List (Bool×Nat))(j:P.follows .mixedOrders=ε)(B:(Region.noSelect l.toArray&&Region.sinkB .any l.toArray n&&Region.chainB .any l.toArray n&&decide (n<l.length)&&decide (ord.length=n)&&rq l.toArray n ord (Array.replicate l.length ζ))=ε)(h:dh P l.toArray (fun w'=>∃x:aX w,w'=x.val) (fun a' w'=>wpList P l.toArray Q (l.drop n) a' w') ord a w.drew):(Code.region J l.toArray ε).wp P Q a w:=
 Dx n _ ord j B ⟨⟨w.drew,(Ext.refl w).drew⟩,rfl⟩ h
def bD{l w}{L:Act->World->Prop}:∀(is:List Nat) (rest:List (Bool×Nat)) (a:Act),is.all (fun i=>decide (i<l.length))=ε->
  wpQuiet P l.toArray S (fun a'=>dh P l.toArray S L rest a' w) (bZ l is) a->dh P l.toArray S L (is.map (fun i=>(ε,i))++rest) a w
 |[],_,_,_,h=>h
 |i::is,rest,a,hi,h=>by
  simp only[abR,υ,Δ] at hi;have B:l[i]? =γ l[i]:=ν hi.1;simp only[bZ,CS B,adl,wpQuiet] at h;simp only[acO,abN,dh,Γ,B];by_cases j:Region.wanted l[i] (yielded l.toArray a.tmps)=ε
  .rw[ι j] at h⊢;exact Oper.quiet_mono (fun a' D=>bD is rest a' hi.2 D) h
  .rw[θ j] at h⊢;exact bD is rest _ hi.2 h
theorem bC{l a w}{L:Act->World->Prop}(i rest)(hi:decide (i<l.length)=ε)(h:∀K:Act->World->Prop,(∀a' w',S w'->dh P l.toArray S L rest a' w'->K a' w')->wpList P l.toArray (fun e a' w'=>e=.normal/\K a' w') (bJ l i) a w):
  dh P l.toArray S L ((ζ,i)::rest) a w:=by
 have D:i<l.length:=by simpa using hi
 have G:l[i]? =γ l[i]:=ν D;have B:=h (fun a' w'=>S w'/\dh P l.toArray S L rest a' w') (fun _ _ B H=>⟨B,H⟩);simp only[CS G,wpList] at B;unfold dh wpOp;simp only[Γ,G];split
 .rename_i F
  simp only[F,aad] at B;rcases B with B|⟨_,_,_,B,_⟩
  .refine .inl ?_;have j:∀r:Result Next,(l[i]).upon P a (fun a' w'=>True/\S w'/\dh P l.toArray S L rest a' w') (fun e a' w'=>e=.normal/\S w'/\dh P l.toArray S L rest a' w') r->
     (l[i]).upon P a (fun a' w'=>S w'/\dh P l.toArray S L rest a' w') QF r:=by
    intro r C;cases r with
    |ok n w'=>
     cases n<;>simp only[Oper.upon] at C⊢
     case value u=>exact C.2
     case skip=>exact C.2
     case defer d=>exact C.2
     case enter f args=>
      refine Calls.mono C fun e w'' O=> ?_;cases e with
      |returned u=>exact O.2
      |panicked c=>cases O.1
      |outgrown=>exact(O:LetsOut _).elim fun a h=>h.elim fun w h=>by cases h.1
     case row row args=>exact Rows.mono C fun u w'' O=>O.2
    |halt x w'=>
     cases x<;>simp only[Oper.upon] at C⊢
     case panic u=>cases C.1
   exact j _ B
  .cases B
 .rename_i F
  simp only[F] at B;exact B.2
end
section
variable {P:Program} {ops:Array Oper} {Q:Exit->Act->World->Prop} {S:World->Prop}
def lU (P:Program) (ops:Array Oper) (S:World->Prop) (L:Act->World->Prop) (f:Nat) (post:List (Bool×Nat)):List (Bool×Nat)->Act->World->Prop
 |[],a,w=>wpOp P ops QF f (fun a' w'=>S w'/\dh P ops S L post a' w') a w
 |(ε,i)::rest,a,w=>match ops[i]? with
  |some o=>if Region.wanted o (yielded ops a.tmps) then o.quiet P a S (fun a'=>lU P ops S L f post rest a' w) else lU P ops S L f post rest (a.put o.dst undef) w
  |none=>False
 |(ζ,i)::rest,a,w=>wpOp P ops QF i (fun a' w'=>S w'/\lU P ops S L f post rest a' w') a w/\wpOp P ops QF f (fun a' w'=>S w'/\dh P ops S L ((ζ,i)::rest++post) a' w') a w
def uk (ops:Array Oper) (n f:Nat) (post:List (Bool×Nat)):List (Bool×Nat)->Array Bool->Bool
 |[],listed=>decide (Region.ready .any ops listed=[f])&&decide (f<n)&&rq ops n post (listed.setIfInBounds f ε)
 |(ε,i)::rest,listed=>((ops[i]?).map fun o=>jf o.op).getD ζ&&Region.free .any ops listed i&&(Region.ready .any ops listed).contains i&&decide (i<n)&&uk ops n f post rest (listed.setIfInBounds i ε)
 |(ζ,i)::rest,listed=>decide (Region.ready .any ops listed=[i,f])&&decide (i<n)&&decide (f<n)&&uk ops n f post rest (listed.setIfInBounds i ε)&&rq ops n ((ζ,i)::rest++post) (listed.setIfInBounds f ε)
theorem mF{n f post}{L:Act->World->Prop}(C:Region.noSelect ops=ε)(hs:Region.sinkB .any ops n=ε)(hc:Region.chainB .any ops n=ε)(hn:n<ops.size):
  ∀(ord:List (Bool×Nat)) (B:Array Bool) (a:Act) (w:World),HeadInv .any ops n B->uk ops n f post ord B=ε->S w->lU P ops S L f post ord a w->
  sW P ops S n (fun K a' w'=>Region.seqB .any ops (ops.size-n) n K=ε/\L a' w') (ord.length+(post.length+1)) B a w
 |[],B,a,w,inv,hB,hS,h=>by
  simp only[uk,υ,Δ] at hB;unfold lU at h;rw[show([]:List (Bool×Nat)).length+(post.length+1)=post.length+1 by simp];refine⟨by rw[hB.1.1];simp,fun j J=> ?_⟩;have H:=J;rw[hB.1.1] at J;obtain rfl:j=f:=by simpa using J
  exact⟨hB.1.2,acJ (fun a' w' h=>⟨h.1,lY C hs hc hn post _ _ _ (inv.set H hB.1.2) hB.2 h.1 h.2⟩) h⟩
 |(ε,i)::rest,B,a,w,inv,hB,hS,h=>by
  simp only[uk,υ,Δ] at hB;obtain⟨⟨⟨⟨hp,V⟩,R⟩,I⟩,M⟩:=hB;have G:i∈Region.ready .any ops B:=by simpa using R
  unfold lU at h;rw[show((ε,i)::rest).length+(post.length+1)=(rest.length+(post.length+1))+1 by simp;omega];cases N:ops[i]? with
  |none=>simp[N] at h
  |some o=>
   simp only[N] at h;have D:jf o.op=ε:=by simpa[N] using hp
   by_cases Q:Region.wanted o (yielded ops a.tmps)=ε
   .rw[ι Q] at h;obtain⟨v,Y,W⟩:=h;exact jZ (v:=v) N (aaF C) hs hc hn I (fun _ _ _ T=>ab1 T.1) _ _ _ _ inv (aa2 N V) G (xG D Q Y) hS (mF C hs hc hn rest _ _ _ (inv.set G I) M hS W)
   .rw[θ Q] at h;exact jZ (v:=undef) N (aaF C) hs hc hn I (fun _ _ _ T=>ab1 T.1) _ _ _ _ inv (aa2 N V) G (.inr ⟨by simpa using Q,rfl⟩) hS (mF C hs hc hn rest _ _ _ (inv.set G I) M hS h)
 |(ζ,i)::rest,B,a,w,inv,hB,hS,h=>by
  simp only[uk,υ,Δ] at hB;obtain⟨⟨⟨⟨R,I⟩,O⟩,F⟩,U⟩:=hB;unfold lU at h;rw[show((ζ,i)::rest).length+(post.length+1)=(rest.length+(post.length+1))+1 by simp;omega];refine⟨by rw[R];simp,fun j J=> ?_⟩;have H:=J;rw[R] at J;simp only[kC,Ha,aaH] at J;rcases J with rfl|rfl
  .exact⟨I,acJ (fun a' w' h=>⟨h.1,mF C hs hc hn rest _ _ _ (inv.set H I) F h.1 h.2⟩) h.1⟩
  .refine⟨O,acJ (fun a' w' h=>⟨h.1,?_⟩) h.2⟩;have:=lY (P:=P) (S:=S) (L:=L) C hs hc hn _ _ _ _ (inv.set H O) U h.1 h.2;rw[show((ζ,i)::rest++post).length=rest.length+(post.length+1) by simp;omega] at this;exact this
def uH{J:Nat}{a:Act}{w:World}{l:List Oper}(n f:Nat)(G post:List (Bool×Nat))(R:Act->Act->World->Prop)(T:P.follows .mixedOrders=ε)(O:(Region.noSelect l.toArray&&Region.sinkB .any l.toArray n&&Region.chainB .any l.toArray n&&decide (n<l.length)&&decide (G.length+(post.length+1)=n)&&uk l.toArray n f post G (Array.replicate l.length ζ))=ε)(h:lU P l.toArray (fun w'=>∃x:aX w,w'=x.val) (fun a' w'=>R a a' w') f post G a w.drew)(U:∀a' w',R a a' w'->wpList P l.toArray Q (l.drop n) a' w'):(Code.region J l.toArray ε).wp P Q a w:=by
 simp only[υ,Δ] at O;obtain⟨⟨⟨⟨⟨C,hs⟩,hc⟩,hn⟩,Y⟩,F⟩:=O;have K:n<l.toArray.size:=by simpa using hn
 have D:HeadInv .any l.toArray n (Array.replicate l.length ζ):=
  ⟨ag,fun j M _ Z=>AaY,fun t _ S=>aen (by simpa using S) (aaU _ _)⟩
 have H:=mF (P:=P) C hs hc K G _ a w.drew D F ⟨⟨w.drew,(Ext.refl w).drew⟩,rfl⟩ h;have I:(l.drop n).length=l.toArray.size-n:=ag;have L:=nS (P:=P) (Q:=Q) (n:=n) (g:=l.toArray.size-n) (fun B a' w' N=>by
  have:=aco (P:=P) (ops:=l.toArray) (md:=.any) (Q':=Q) (l.drop n) n B a' w' (fun j=>ag) (by rw[I];exact N.1) (U _ _ N.2);rwa[I] at this) _ _ _ _ H
 exact Ab8
def Gj{l a w}{M:Act->World->Prop}(i)(hi:decide (i<l.length)=ε)(h:∀K:Act->World->Prop,(∀a' w',S w'->M a' w'->K a' w')->wpList P l.toArray (fun e a' w'=>e=.normal/\K a' w') (bJ l i) a w):
  wpOp P l.toArray QF i (fun a' w'=>S w'/\M a' w') a w:=bC (L:=M) i [] hi h
def gK{l w}{L:Act->World->Prop}{f post}:∀(is:List Nat) (rest:List (Bool×Nat)) (a:Act),is.all (fun i=>decide (i<l.length))=ε->
  wpQuiet P l.toArray S (fun a'=>lU P l.toArray S L f post rest a' w) (bZ l is) a->lU P l.toArray S L f post (is.map (fun i=>(ε,i))++rest) a w
 |[],_,_,_,h=>h
 |i::is,rest,a,hi,h=>by
  simp only[abR,υ,Δ] at hi;have B:l[i]? =γ l[i]:=ν hi.1;simp only[bZ,CS B,adl,wpQuiet] at h;simp only[acO,abN,lU,Γ,B];by_cases j:Region.wanted l[i] (yielded l.toArray a.tmps)=ε
  .rw[ι j] at h⊢;exact Oper.quiet_mono (fun a' D=>gK is rest a' hi.2 D) h
  .rw[θ j] at h⊢;exact gK is rest _ hi.2 h
def nJ{l a w}{L:Act->World->Prop}{f post}(i rest)(hi:decide (i<l.length)=ε)(j:decide (f<l.length)=ε)(h:∀K:Act->World->Prop,(∀a' w',S w'->lU P l.toArray S L f post rest a' w'->K a' w')->wpList P l.toArray (fun e a' w'=>e=.normal/\K a' w') (bJ l i) a w)(B:∀K:Act->World->Prop,(∀a' w',S w'->dh P l.toArray S L ((ζ,i)::rest++post) a' w'->K a' w')->wpList P l.toArray (fun e a' w'=>e=.normal/\K a' w') (bJ l f) a w):
  lU P l.toArray S L f post ((ζ,i)::rest) a w:=⟨Gj i hi h,Gj f j B⟩
def qp{l a w}{L:Act->World->Prop}{f post}(j:decide (f<l.length)=ε)(B:∀K:Act->World->Prop,(∀a' w',S w'->dh P l.toArray S L post a' w'->K a' w')->wpList P l.toArray (fun e a' w'=>e=.normal/\K a' w') (bJ l f) a w):
  lU P l.toArray S L f post [] a w:=Gj f j B
end
def Aj{P}(w){base t F e size C}(E:Elem P t e size C){v n xs}(M:w.ownsRow base e size v n xs)(A c):
  (Builtin.append_ #[t,t] F #[v,aO A 0 c]).run P w=.ok v w:=by
 obtain⟨i,z,j,hi,H,G,I,O,D⟩:=E;rcases M.2 with ⟨rfl,rfl⟩|⟨g,N,cur,rfl,_,_,B,_⟩
 .cases A<;>simp[Builtin.append_,abl j,sizeOf,typeInfo,hi,Builtin.lenOf,Builtin.firstCells,loadCells,loadCellsFrom]
 .cases A<;>simp[Builtin.append_,abl j,sizeOf,typeInfo,hi,Builtin.lenOf,Builtin.firstCells,B,storeCells,loadCells,loadCellsFrom]
theorem jL{P w ops rest o a Q t e size C}(E:Elem P t e size C)(H:o.guard=δ)(s x:Operand)(B:o.op=.call {callee:=.builtin .append,args:= #[s,x],argTypes:= #[t,t]})(base v n xs)(hs:a.eval s=v)(M:w.ownsRow base e size v n xs)(A m c D)(J:a.eval x=.slice A m c)(O:Reads w w.heap.size size A m D)(S:∀u∈D,u.oneCell'=ε)(L:n+m<=9223372036854775807)(F:(n+m)*C<=140737488355328)(K:base<=w.heap.size)(h:∀G w',w'.ownsRow base e size G (n+m) (xs++D)->w.grownBy w' v.ownBlock->wpList P ops Q rest (a.put o.dst G) w'):
  wpList P ops Q (o::rest) a w:=by
 rcases BB m with j|j
 .subst j;obtain rfl:D=[]:=KP (by simpa using O.1);refine adP H fun _ I=> ?_;unfold Oper.wp execOp;simp only[B,resolve,invoke,builtin,aaD,aa4,aaw,List.map_toArray,acO,List.map_nil,hs,J,Aj w E M A c];exact I _ _ (h v w (by simpa using M) (World.grownBy.refl w _))
 .exact Jp E H s x B base v n xs hs M A m c D J O S j L F K (fun g N w' R T _ _=>h _ w' R T)
def wpT_q1{P:Program}{ops:Array Oper}{w0:World}{E:Nat->Bool}{Φ:Nat->Nat->Nat->Value->World->Prop}{Q:Book->Act->Prop}{o:Oper}{l:List Oper}{k:Nat}{F:Book}{a:Act}(B:ops[k]? =γ o)(Y:(!E k&&jf o.op)=ε)(h:wpQuiet P ops (fun w'=>∃x:aX w0,w'=x.val) (fun a'=>wpT P ops w0 E Φ Q l (k+1) F a') [o] a):wpT P ops w0 E Φ Q (o::l) k F a:=
 Kg 1 (fun j C=>by
  obtain rfl:j=0:=aa;exact B.symm) (by simpa[B] using Y) h
def Qs{p q:Prop}(h:q)(t:q->p:=by
 intro h;(repeat (refine wpT_q1 (by rfl) (by rfl) ?_;go_big_quiet_step (fail);refine aaL ?_));exact h):p:=t h
def Qp{p q:Prop}(h:q)(t:q->p:=by
 intro h;(try simp only[Act.put,aQ,De,Ej]);exact h):p:=t h
def Qz{p q:Prop}(h:q)(t:q->p:=by
 intro h;(try simp only[Act.put,aQ,De,Ej]);exact h):Hid p:=aW (t h)
def Kn.f{ops:Array Oper}{w0:World}{Φ:Nat->Nat->Nat->Value->World->Prop}{k:Nat}{F:Book}{w:World}(h:Kn ops w0 Φ k F w)(i:Nat)(e:Value×Nat×Nat)(B:F i=γ e:=by rfl)(j:anc ops ops.size k i=ε:=by kernel_rfl):Φ i e.2.1 e.2.2 e.1 w:=h.2 i e B j
section
variable {P:Program} {ops:Array Oper} {w0:World} {E:Nat->Bool} {Φ:Nat->Nat->Nat->Value->World->Prop} {Qt:Book->Act->Prop} {o:Oper} {l:List Oper} {k:Nat} {F:Book} {a:Act}
def Eb{Q:Nat->Nat->Prop}(h:∀g hi,g<hi->Q g hi)(t:(∀g hi,g<hi->Q g hi)->wpT P ops w0 E Φ Qt (o::l) k F a:=by
   intro h;refine dL (by rfl) (by rfl) (by rfl) ?_ ?_
   .intro W I;go_simp;exact⟨Ext.new _ _,rfl,by simp,Blk.new _ _ _⟩
   .intro v g hi B;obtain⟨W,j⟩:=B;obtain⟨rfl,Z,-⟩:=j.get;clear j W;(try simp only[Act.put,aQ,De,Ej]);exact h g hi Z):wpT P ops w0 E Φ Qt (o::l) k F a:=t h
def En_{Q:Nat->Nat->Prop}(h:∀lo hi,Q lo hi)(t:(∀lo hi,Q lo hi)->wpT P ops w0 E Φ Qt (o::l) k F a:=by
   intro h;refine dL (by rfl) (by rfl) (by rfl) ?_ ?_
   .intro W I;go_simp;exact⟨Ext.refl _,rfl⟩
   .intro v lo hi B;obtain⟨W,j⟩:=B;obtain rfl:v=_:=j.get;clear j W;(try simp only[Act.put,aQ,De,Ej]);exact h lo hi):wpT P ops w0 E Φ Qt (o::l) k F a:=t h
variable {G:Value->World->Prop} {f:FuncId} {args:Array Value}
def E1{Q:Value->Nat->Nat->Prop}(x:∀W,Kn ops w0 Φ k F W->Calls P f args W (fun e w'=>∃v,e=.returned v/\G v w'/\Ext W w'))(h:∀v lo hi,Q v lo hi)(t:(∀W,Kn ops w0 Φ k F W->Calls P f args W (fun e w'=>∃v,e=.returned v/\G v w'/\Ext W w'))->(∀v lo hi,Q v lo hi)->wpT P ops w0 E Φ Qt (o::l) k F a:=by
   intro x h;refine dL (by rfl) (by rfl) (by rfl) ?_ ?_
   .intro W I;have y:=x W I;clear x h I;go_simp;exact⟨rfl,y.mono fun e w' ⟨v,O,hv,J⟩=>⟨v,O,J,hv⟩⟩
   .intro v lo hi j;clear j x;(try simp only[Act.put,aQ,De,Ej]);exact h v lo hi):wpT P ops w0 E Φ Qt (o::l) k F a:=t x h
end

def Qd{p q:Prop}(h:q)(t:q->p:=by
 intro h;simp only[aay,abm,ξ,τ];exact h):p:=t h
def an1(w:World)(j:TypeId)(c1:Array Value):Ext w (w.alloc (.cells c1 j))/\Blk (w.alloc (.cells c1 j)) w.heap.size j c1:=⟨(Ext.trans (Ext.refl w) (Ext.new _ _)),(aeV _ _ ag)⟩
def ah1(w:World)(j:TypeId)(c1:Array Value):Hid (Ext w (w.alloc (.cells c1 j)))/\Hid (Blk (w.alloc (.cells c1 j)) w.heap.size j c1):=⟨aW (Ext.trans (Ext.refl w) (Ext.new _ _)),aW (aeV _ _ ag)⟩
def an2(w:World)(j:TypeId)(c1:Array Value)(B:TypeId)(c2:Array Value):Ext w ((w.alloc (.cells c1 j)).alloc (.cells c2 B))/\Blk ((w.alloc (.cells c1 j)).alloc (.cells c2 B)) w.heap.size j c1/\Blk ((w.alloc (.cells c1 j)).alloc (.cells c2 B)) (w.heap.size+1) B c2:=⟨(Ext.trans (Ext.trans (Ext.refl w) (Ext.new _ _)) (Ext.new _ _)),(Blk.alloc (aeV _ _ ag) _),(aeV _ _ ag)⟩
def ah2(w:World)(j:TypeId)(c1:Array Value)(B:TypeId)(c2:Array Value):Hid (Ext w ((w.alloc (.cells c1 j)).alloc (.cells c2 B)))/\Hid (Blk ((w.alloc (.cells c1 j)).alloc (.cells c2 B)) w.heap.size j c1)/\Hid (Blk ((w.alloc (.cells c1 j)).alloc (.cells c2 B)) (w.heap.size+1) B c2):=⟨aW (Ext.trans (Ext.trans (Ext.refl w) (Ext.new _ _)) (Ext.new _ _)),aW (Blk.alloc (aeV _ _ ag) _),aW (aeV _ _ ag)⟩
def an3(w:World)(j:TypeId)(c1:Array Value)(B:TypeId)(c2:Array Value)(C:TypeId)(c3:Array Value):Ext w (((w.alloc (.cells c1 j)).alloc (.cells c2 B)).alloc (.cells c3 C))/\Blk (((w.alloc (.cells c1 j)).alloc (.cells c2 B)).alloc (.cells c3 C)) w.heap.size j c1/\Blk (((w.alloc (.cells c1 j)).alloc (.cells c2 B)).alloc (.cells c3 C)) (w.heap.size+1) B c2/\Blk (((w.alloc (.cells c1 j)).alloc (.cells c2 B)).alloc (.cells c3 C)) (w.heap.size+2) C c3:=⟨(Ext.trans (Ext.trans (Ext.trans (Ext.refl w) (Ext.new _ _)) (Ext.new _ _)) (Ext.new _ _)),(Blk.alloc (Blk.alloc (aeV _ _ ag) _) _),(Blk.alloc (aeV _ _ ag) _),(aeV _ _ ag)⟩
def ah3(w:World)(j:TypeId)(c1:Array Value)(B:TypeId)(c2:Array Value)(C:TypeId)(c3:Array Value):Hid (Ext w (((w.alloc (.cells c1 j)).alloc (.cells c2 B)).alloc (.cells c3 C)))/\Hid (Blk (((w.alloc (.cells c1 j)).alloc (.cells c2 B)).alloc (.cells c3 C)) w.heap.size j c1)/\Hid (Blk (((w.alloc (.cells c1 j)).alloc (.cells c2 B)).alloc (.cells c3 C)) (w.heap.size+1) B c2)/\Hid (Blk (((w.alloc (.cells c1 j)).alloc (.cells c2 B)).alloc (.cells c3 C)) (w.heap.size+2) C c3):=⟨aW (Ext.trans (Ext.trans (Ext.trans (Ext.refl w) (Ext.new _ _)) (Ext.new _ _)) (Ext.new _ _)),aW (Blk.alloc (Blk.alloc (aeV _ _ ag) _) _),aW (Blk.alloc (aeV _ _ ag) _),aW (aeV _ _ ag)⟩
def an4(w:World)(j:TypeId)(c1:Array Value)(B:TypeId)(c2:Array Value)(C:TypeId)(c3:Array Value)(D:TypeId)(c4:Array Value):Ext w ((((w.alloc (.cells c1 j)).alloc (.cells c2 B)).alloc (.cells c3 C)).alloc (.cells c4 D))/\Blk ((((w.alloc (.cells c1 j)).alloc (.cells c2 B)).alloc (.cells c3 C)).alloc (.cells c4 D)) w.heap.size j c1/\Blk ((((w.alloc (.cells c1 j)).alloc (.cells c2 B)).alloc (.cells c3 C)).alloc (.cells c4 D)) (w.heap.size+1) B c2/\Blk ((((w.alloc (.cells c1 j)).alloc (.cells c2 B)).alloc (.cells c3 C)).alloc (.cells c4 D)) (w.heap.size+2) C c3/\Blk ((((w.alloc (.cells c1 j)).alloc (.cells c2 B)).alloc (.cells c3 C)).alloc (.cells c4 D)) (w.heap.size+3) D c4:=⟨(Ext.trans (Ext.trans (Ext.trans (Ext.trans (Ext.refl w) (Ext.new _ _)) (Ext.new _ _)) (Ext.new _ _)) (Ext.new _ _)),(Blk.alloc (Blk.alloc (Blk.alloc (aeV _ _ ag) _) _) _),(Blk.alloc (Blk.alloc (aeV _ _ ag) _) _),(Blk.alloc (aeV _ _ ag) _),(aeV _ _ ag)⟩
def ah4(w:World)(j:TypeId)(c1:Array Value)(B:TypeId)(c2:Array Value)(C:TypeId)(c3:Array Value)(D:TypeId)(c4:Array Value):Hid (Ext w ((((w.alloc (.cells c1 j)).alloc (.cells c2 B)).alloc (.cells c3 C)).alloc (.cells c4 D)))/\Hid (Blk ((((w.alloc (.cells c1 j)).alloc (.cells c2 B)).alloc (.cells c3 C)).alloc (.cells c4 D)) w.heap.size j c1)/\Hid (Blk ((((w.alloc (.cells c1 j)).alloc (.cells c2 B)).alloc (.cells c3 C)).alloc (.cells c4 D)) (w.heap.size+1) B c2)/\Hid (Blk ((((w.alloc (.cells c1 j)).alloc (.cells c2 B)).alloc (.cells c3 C)).alloc (.cells c4 D)) (w.heap.size+2) C c3)/\Hid (Blk ((((w.alloc (.cells c1 j)).alloc (.cells c2 B)).alloc (.cells c3 C)).alloc (.cells c4 D)) (w.heap.size+3) D c4):=⟨aW (Ext.trans (Ext.trans (Ext.trans (Ext.trans (Ext.refl w) (Ext.new _ _)) (Ext.new _ _)) (Ext.new _ _)) (Ext.new _ _)),aW (Blk.alloc (Blk.alloc (Blk.alloc (aeV _ _ ag) _) _) _),aW (Blk.alloc (Blk.alloc (aeV _ _ ag) _) _),aW (Blk.alloc (aeV _ _ ag) _),aW (aeV _ _ ag)⟩
structure Imp where
 r:Int
 x:Int
 deriving DecidableEq,Inhabited
structure vV where
 name:ByteArray
 z1:Imp
 z0:Imp
 deriving DecidableEq,Inhabited
structure DV where
 name:ByteArray
 emf:Int
 z1:Imp
 z0:Imp
 deriving DecidableEq,Inhabited
structure qP where
 bus:Int
 pos:Int
 deriving DecidableEq,Inhabited
structure iA where
 name:ByteArray
 kind:Int
 obj:Int
 en:Int
 z:Imp
 links:List qP
 closed:Bool
 ct:Int
 vt:Int
 sat:Int
 travel:Int
 deriving DecidableEq,Inhabited
structure StD where
 name:ByteArray
 buses:List ByteArray
 lines:List vV
 srcs:List DV
 bays:List iA
 deriving DecidableEq,Inhabited
structure eD where
 kind:Int
 line:Bool
 obj:Int
 num:Int
 den:Int
 r:Int
 deriving DecidableEq,Inhabited
structure dM where
 closed:List Bool
 links:List (List Int)
 deriving DecidableEq,Inhabited
def dX (E:Nat->Int):Nat->Int
 |0=>0
 |n+1=>if dX E n=0 then E n else dX E n
def dI{E}:∀{n},(∀i,i<n->E i=0)->dX E n=0
 |0,_=>rfl
 |n+1,h=>by
  show(if dX E n=0 then E n else dX E n)=0;rw[dI (fun i hi=>h i aa),ι rfl];exact h n aa
def pW{E}:∀{n},dX E n=0->∀i,i<n->E i=0
 |0,_,i,hi=>absurd hi aa
 |n+1,h,i,hi=>by
  have D:(if dX E n=0 then E n else dX E n)=0:=h;by_cases e:dX E n=0
  .rw[ι e] at D;by_cases I:i=n
   .rw[I];exact D
   .exact pW e i aa
  .rw[θ e] at D;exact absurd D e
def Ey{E k}(B:∀i,i<k->E i=0)(j:E k≠0):∀{n},k<n->dX E n=E k
 |0,h=>absurd h aa
 |n+1,h=>by
  show(if dX E n=0 then E n else dX E n)=E k;by_cases O:k=n
  .rw[dI (fun i hi=>B i aa),ι rfl,O]
  .rw[Ey B j (n:=n) aa,θ j]
def dW (c:Nat):Bool:=(decide (65<=c)&&decide (c<=90))||(decide (97<=c)&&decide (c<=122))
def fe (c:Nat):Bool:=(decide (48<=c)&&decide (c<=57))||decide (c=95)
def wX (s:ByteArray) (i:Nat):Nat:=(s.data.getD i 0).toNat
def jm (s:ByteArray) (i:Nat):Bool:=dW (wX s i)||(decide (0<i)&&fe (wX s i))
def ik (s:ByteArray):Bool:=decide (0<s.size)&&decide (s.size<=12)&&(List.range s.size).all (jm s)
def El{s}(B:0<s.size)(j:s.size<=12)(h:∀i,i<s.size->jm s i=ε):ik s=ε:=by
 simp only[ik,B,j,acF,abw,q8,aau];exact h
def dS{s i}(hi:i<s.size)(h:jm s i=ζ):ik s=ζ:=by
 cases j:ik s with
 |false=>rfl
 |true=>
  simp only[ik,υ,q8,aau] at j;rw[j.2 i hi] at h;cases h
def zS{s}(h:s.size=0\/12<s.size):ik s=ζ:=by
 cases j:ik s with
 |false=>rfl
 |true=>
  simp only[ik,υ,Δ] at j;omega
def btw (n lo hi:Int):Bool:=decide (lo<=n)&&decide (n<=hi)
def fJ{n lo hi}:btw n lo hi=ε↔lo<=n/\n<=hi:=by simp[btw]
def okZ (z:Imp):Bool:=btw z.r 0 1000&&btw z.x 1 1000
def qW{z:Imp}:okZ z=ε↔(0<=z.r/\z.r<=1000)/\1<=z.x/\z.x<=1000:=by simp[okZ,btw]
def nms (s:StD) (b l g q:Nat):List ByteArray:=
 s.buses.take b++(s.lines.take l).map vV.name++(s.srcs.take g).map DV.name++(s.bays.take q).map iA.name
def vN (s:ByteArray):List ByteArray->Bool
 |[]=>ζ
 |x::l=>decide (x=s)||vN s l
def eH (B:List ByteArray) (s:ByteArray):Int:=if ik s=ε then (if vN s B=ε then 8 else 0) else 7
def wG (s:StD) (i:Nat):Int:=eH (nms s i 0 0 0) (s.buses.getD i η)
def mP (s:StD) (i:Nat):Int:=
 let x:=s.lines.getD i η
 let e:=eH (nms s s.buses.length i 0 0) x.name
 if e=0 then (if (okZ x.z1&&okZ x.z0)=ε then 0 else 2) else e
def ky (x:DV):Bool:=btw x.emf 1 1000000&&okZ x.z1&&okZ x.z0
def uO (s:StD) (i:Nat):Int:=
 let x:=s.srcs.getD i η
 let e:=eH (nms s s.buses.length s.lines.length i 0) x.name
 if e=0 then (if ky x=ε then 0 else 2) else e
def jK (nl ns:Nat) (x:iA):Int:=
 if x.kind=1 then (if btw x.obj 0 ((nl:Int)-1)=ε then 0 else 9)
 else if x.kind=2 then (if btw x.obj 0 ((ns:Int)-1)=ε then 0 else 9)
 else if x.kind=3 then (if x.obj=0 then 0 else 9)
 else 10
def dA (x:iA):Bool:=
 (if x.kind=3 then okZ x.z&&decide (x.vt=0) else decide (x.z=⟨0,0⟩)&&btw x.vt 1 10000)&&
 (btw x.en 0 (if x.kind=1 then 1 else 0)&&btw x.ct 1 100&&btw x.sat 0 16383&&btw x.travel 1 6)
def mQ (x y:iA):Bool:=decide (x.kind=y.kind)&&decide (x.obj=y.obj)&&decide (x.en=y.en)
def oM (B:List iA) (x:iA):Bool:=decide (x.kind≠3)&&B.any (mQ x)
def iX (nb:Nat) (x:iA) (i:Nat):Int:=
  let l:=x.links.getD i η
  if btw l.bus 0 ((nb:Int)-1)=ε then
    (if l.pos≠1/\(l.pos≠0\/x.kind=3) then 16
     else if 0<i/\(x.links.getD (i-1) η).bus=l.bus then 12 else 0)
  else 9
def iM (nb:Nat) (x:iA):Int:=
 if x.links.length<1\/2<x.links.length\/(x.kind=3/\x.links.length≠2) then 3 else dX (iX nb x) x.links.length
def tZ (s:StD) (i:Nat):Int:=
 let x:=s.bays.getD i η
 if jK s.lines.length s.srcs.length x=0 then
  (if dA x=ε then (if oM (s.bays.take i) x=ε then 12 else iM s.buses.length x) else 2)
 else jK s.lines.length s.srcs.length x
def wP (s:StD) (i:Nat):Int:=
 let e:=eH (nms s s.buses.length s.lines.length s.srcs.length i) (s.bays.getD i η).name
 if e=0 then tZ s i else e
def tX (s:StD):Bool:=
 decide (1<=s.buses.length)&&decide (s.buses.length<=4)&&decide (s.lines.length<=6)&&decide (s.srcs.length<=4)&&decide (s.bays.length<=16)
def chk (s:StD):Int:=
 if ik s.name=ε then
  if tX s=ε then
   if dX (wG s) s.buses.length=0 then
    if dX (mP s) s.lines.length=0 then
     if dX (uO s) s.srcs.length=0 then dX (wP s) s.bays.length
     else dX (uO s) s.srcs.length
    else dX (mP s) s.lines.length
   else dX (wG s) s.buses.length
  else 3
 else 7
def fD (nb nl:Nat) (f:eD):Int:=
 if f=⟨0,ζ,0,0,0,0⟩ then 0
 else if btw f.kind 1 10=ε then
  if btw f.obj 0 ((if f.line=ε then (nl:Int) else (nb:Int))-1)=ε then
   if f.line=ε/\(f.den<2\/16<f.den\/f.num<1\/f.den-1<f.num) then 2
   else if f.line=ζ/\(f.num≠0\/f.den≠0) then 2
   else if btw f.r 0 1000=ε then 0 else 2
  else 9
 else 10
def xL (s:StD) (f:eD):Int:=if chk s=0 then fD s.buses.length s.lines.length f else chk s
structure jC (s:StD):Prop where
 nb:1<=s.buses.length/\s.buses.length<=4
 nl:s.lines.length<=6
 ns:s.srcs.length<=4
 nq:s.bays.length<=16
 line:∀i,i<s.lines.length->okZ (s.lines.getD i η).z1=ε/\okZ (s.lines.getD i η).z0=ε
 src:∀i,i<s.srcs.length->ky (s.srcs.getD i η)=ε
 obj:∀i,i<s.bays.length->jK s.lines.length s.srcs.length (s.bays.getD i η)=0
 rng:∀i,i<s.bays.length->dA (s.bays.getD i η)=ε
 conf:∀i,i<s.bays.length->oM (s.bays.take i) (s.bays.getD i η)=ζ
 links:∀i,i<s.bays.length->iM s.buses.length (s.bays.getD i η)=0
theorem vZ{s}(h:chk s=0):jC s:=by
 unfold chk at h;split at h
 .split at h
  .rename_i hc
   split at h
   .rename_i F
    split at h
    .rename_i B
     split at h
     .rename_i C
      simp only[tX,υ,Δ] at hc;have b (i:Nat) (hi:i<s.bays.length):tZ s i=0:=by
       have hb:=pW h i hi;unfold wP at hb;simp only[] at hb;split at hb
       .exact hb
       .exact absurd hb Aa8
      refine⟨⟨aa,aa⟩,aa,aa,aa,?_,?_,?_,?_,?_,?_⟩
      .intro i hi;have hb:=pW B i hi;unfold mP at hb;simp only[] at hb;split at hb
       .split at hb
        .rename_i D
         simpa only[υ] using D
        .exact absurd hb aj
       .exact absurd hb Aa8
      .intro i hi;have hb:=pW C i hi;unfold uO at hb;simp only[] at hb;split at hb
       .split at hb
        .assumption
        .exact absurd hb aj
       .exact absurd hb Aa8
      all_goals
       intro i hi;have hb:=b i hi;unfold tZ at hb;simp only[] at hb;split at hb
       .split at hb
        .split at hb
         .exact absurd hb aj
         .first
          |assumption
          |(rename_i j;exact acS.mpr j)
        .exact absurd hb aj
       .exact absurd hb Aa8
     .exact absurd h Aa8
    .exact absurd h Aa8
   .exact absurd h Aa8
  .exact absurd h aj
 .exact absurd h aj
def lW (s:StD) (i:Nat) (x:Int):Bool:=decide (x=1)||(decide ((s.bays.getD i η).kind≠3)&&(decide (x=0)||decide (x=2)))
def jG (s:StD) (p:dM):Int:=
 if p.closed.length=s.bays.length/\p.links.length=s.bays.length then
  if (List.range s.bays.length).all (fun i=>decide ((p.links.getD i []).length=(s.bays.getD i η).links.length))=ε then
   if (List.range s.bays.length).all (fun i=>(p.links.getD i []).all (lW s i))=ε then 0 else 16
  else 3
 else 3
def resolve (c:Int) (p:dM):dM:=⟨p.closed,p.links.map (List.map (fun x=>if x=2 then c else x))⟩
def normal (s:StD):dM:=⟨s.bays.map iA.closed,s.bays.map (fun b=>b.links.map qP.pos)⟩
def joins (s:StD) (p:dM) (i:Nat):Bool:=
 decide ((s.bays.getD i η).kind≠3)&&decide ((s.bays.getD i η).links.length=2)&&
 decide ((p.links.getD i []).getD 0 0=1)&&decide ((p.links.getD i []).getD 1 0=1)
def merge (x y:Int) (g:List Int):List Int:=g.map (fun v=>if v=x\/v=y then min x y else v)
def ic (s:StD) (i k:Nat):Nat:=(((s.bays.getD i η).links.getD k η).bus).toNat
def qX (s:StD) (p:dM) (i:Nat) (g:List Int):List Int:=
 if joins s p i=ε then merge (g.getD (ic s i 0) 0) (g.getD (ic s i 1) 0) g else g
def jN (s:StD) (p:dM):Nat->List Int
 |0=>(List.range s.buses.length).map (fun k:Nat=>(k:Int))
 |n+1=>qX s p n (jN s p n)
def groups (s:StD) (p:dM):List Int:=jN s p s.bays.length
def xH (s:StD) (p:dM) (bus:Nat):Int×Int:=(1,(groups s p).getD bus 0)
def sD (s:StD) (p:dM) (i:Nat):Int×Int:=
 if (p.links.getD i []).getD 0 0=1 then xH s p (ic s i 0)
 else if 1<(s.bays.getD i η).links.length/\(p.links.getD i []).getD 1 0=1 then xH s p (ic s i 1)
 else (0,0)
def sides (s:StD) (p:dM) (i:Nat):(Int×Int)×(Int×Int):=
 if (s.bays.getD i η).kind=3 then (xH s p (ic s i 0),xH s p (ic s i 1))
 else (sD s p i,((if (s.bays.getD i η).kind=1 then 2 else 3),(s.bays.getD i η).obj))
def OQ{x y}(g):g.map (fun v=>if v=max x y then min x y else v)=merge x y g:=by
 refine acz fun v _=> ?_;by_cases h:v=max x y
 .rw[ι h,ι aa]
 .rw[θ h];by_cases j:v=x\/v=y
  .rw[ι j];omega
  .rw[θ j]
def xO{x y}(g):(merge x y g).length=g.length:=by simp[merge]
theorem kR(s p):∀n,(jN s p n).length=s.buses.length
 |0=>by simp[jN]
 |n+1=>by
  show(qX s p n (jN s p n)).length=_;unfold qX;split
  .rw[xO];exact kR s p n
  .exact kR s p n
def OL (g:List Int):Prop:=∀k,k<g.length->0<=g.getD k 0/\g.getD k 0<=(k:Int)/\g.getD (g.getD k 0).toNat 0=g.getD k 0
def yZ{x y}(g k)(j:k<g.length):(merge x y g).getD k 0=if g.getD k 0=x\/g.getD k 0=y then min x y else g.getD k 0:=by
 simp[merge,π,Aa,ν j]
def OL.merge{g:List Int}(h:OL g){a b:Nat}(ha:a<g.length)(hb:b<g.length):OL (merge (g.getD a 0) (g.getD b 0) g):=by
 intro k j;rw[xO] at j;have⟨k0,C,F⟩:=h k j;have⟨I,J,G⟩:=h a ha;have⟨H,b1,b2⟩:=h b hb;rw[yZ g k j];by_cases e:g.getD k 0=g.getD a 0\/g.getD k 0=g.getD b 0
 .rw[ι e];refine⟨aa,aa,?_⟩;have D:g.getD (min (g.getD a 0) (g.getD b 0)).toNat 0=min (g.getD a 0) (g.getD b 0):=by
   by_cases B:g.getD a 0<=g.getD b 0
   .rw[show min (g.getD a 0) (g.getD b 0)=g.getD a 0 by omega];exact G
   .rw[show min (g.getD a 0) (g.getD b 0)=g.getD b 0 by omega];exact b2
  rw[yZ g _ aa,D,ι aa]
 .rw[θ e];refine⟨k0,C,?_⟩;rw[yZ g _ aa,F,θ e]
theorem Mi{s}(p)(Z:∀i,i<s.bays.length->joins s p i=ε->ic s i 0<s.buses.length/\ic s i 1<s.buses.length):∀n,n<=s.bays.length->OL (jN s p n)
 |0,_=>by
  intro k F;have C:k<s.buses.length:=by rw[<-kR s p 0];exact F
  have e:∀j,j<s.buses.length->(jN s p 0).getD j 0=(j:Int):=by
   intro j D;simp[jN,π,Aa,aaz D]
  rw[e k C];refine⟨aa,aa,?_⟩;rw[Hu];exact e k C
 |n+1,hn=>by
  have B:=Mi p Z n aa;show OL (qX s p n (jN s p n));unfold qX;by_cases D:joins s p n=ε
  .rw[ι D];obtain⟨H,G⟩:=Z n aa D;exact B.merge (by rw[kR];exact H) (by rw[kR];exact G)
  .rw[θ D];exact B
theorem jC.link{s}(h:jC s){i}(hi:i<s.bays.length):
  (1<=(s.bays.getD i η).links.length/\(s.bays.getD i η).links.length<=2)/\((s.bays.getD i η).kind=3->(s.bays.getD i η).links.length=2)/\
  ∀k,k<(s.bays.getD i η).links.length->iX s.buses.length (s.bays.getD i η) k=0:=by
 have Z:=h.links i hi;unfold iM at Z;split at Z
 .exact absurd Z aj
 .rename_i hn
  refine⟨⟨aa,aa⟩,fun j=> ?_,pW Z⟩;by_cases e:(s.bays.getD i η).links.length=2
  .exact e
  .exact absurd (Or.inr (Or.inr ⟨j,e⟩)) hn
theorem jC.bus{s}(h:jC s){i k}(hi:i<s.bays.length)(j:k<(s.bays.getD i η).links.length):
  ((s.bays.getD i η).links.getD k η).bus=(ic s i k:Nat)/\ic s i k<s.buses.length:=by
 have Z:=(h.link hi).2.2 k j;unfold iX at Z;simp only[] at Z;split at Z
 .rename_i hb
  rw[fJ] at hb;unfold ic;omega
 .exact absurd Z aj
def jC.groups{s:StD}(h:jC s)(p:dM):OL (groups s p):=by
 refine Mi p (fun i hi j=> ?_) _ (κ _);have Y:(s.bays.getD i η).links.length=2:=by
  simp only[joins,υ,Δ] at j;exact j.1.1.2
 exact⟨(h.bus hi aa).2,(h.bus hi aa).2⟩
def lJ(s p):(groups s p).length=s.buses.length:=kR s p _
def Nw{s i}(hi:i<s.size):(s[i]'hi).toNat=wX s i:=by
 have j:i<s.data.size:=hi;show(s.data[i]'j).toNat=(s.data.getD i 0).toNat;rw[Array.getD,dif_pos j];rfl
def jU{s k}(h:∀j,j<k->jm s j=ε)(g:jm s k=ε)(j)(B:j<k+1):jm s j=ε:=by
 by_cases e:j=k
 .rw[e];exact g
 .exact h j aa
def EG(s i):wX s i<256:=(s.data.getD i 0).toNat_lt
def M6{s i B}(h:wX s i=B):jm s i=(dW B||(decide (0<i)&&fe B)):=by rw[<-h];rfl
def nc0(B:Nat)(h:0<=B)(g:B<=47):decide ((97:Int)<=(B:Int))=ζ/\(¬(97:Int)<=(B:Int))/\decide ((65:Int)<=(B:Int))=ζ/\(¬(65:Int)<=(B:Int))/\decide ((48:Int)<=(B:Int))=ζ/\(¬(48:Int)<=(B:Int))/\decide ((B:Int)<=122)=ε/\(B:Int)<=122/\decide ((B:Int)<=90)=ε/\(B:Int)<=90/\decide ((B:Int)<=57)=ε/\(B:Int)<=57/\decide ((B:Int)<48)=ε/\(B:Int)<48/\decide ((57:Int)<(B:Int))=ζ/\(¬(57:Int)<(B:Int))/\((B:Int)==95)=ζ/\((B:Int) !=95)=ε/\(¬(B:Int)=95):=by
 refine⟨?_,?_,?_,?_,?_,?_,?_,?_,?_,?_,?_,?_,?_,?_,?_,?_,?_,?_,?_⟩<;>first|omega|(simp;omega)|simp
def nc1(B:Nat)(h:48<=B)(g:B<=57):decide ((97:Int)<=(B:Int))=ζ/\(¬(97:Int)<=(B:Int))/\decide ((65:Int)<=(B:Int))=ζ/\(¬(65:Int)<=(B:Int))/\decide ((48:Int)<=(B:Int))=ε/\(48:Int)<=(B:Int)/\decide ((B:Int)<=122)=ε/\(B:Int)<=122/\decide ((B:Int)<=90)=ε/\(B:Int)<=90/\decide ((B:Int)<=57)=ε/\(B:Int)<=57/\decide ((B:Int)<48)=ζ/\(¬(B:Int)<48)/\decide ((57:Int)<(B:Int))=ζ/\(¬(57:Int)<(B:Int))/\((B:Int)==95)=ζ/\((B:Int) !=95)=ε/\(¬(B:Int)=95):=by
 refine⟨?_,?_,?_,?_,?_,?_,?_,?_,?_,?_,?_,?_,?_,?_,?_,?_,?_,?_,?_⟩<;>first|omega|(simp;omega)|simp
def nc2(B:Nat)(h:58<=B)(g:B<=64):decide ((97:Int)<=(B:Int))=ζ/\(¬(97:Int)<=(B:Int))/\decide ((65:Int)<=(B:Int))=ζ/\(¬(65:Int)<=(B:Int))/\decide ((48:Int)<=(B:Int))=ε/\(48:Int)<=(B:Int)/\decide ((B:Int)<=122)=ε/\(B:Int)<=122/\decide ((B:Int)<=90)=ε/\(B:Int)<=90/\decide ((B:Int)<=57)=ζ/\(¬(B:Int)<=57)/\decide ((B:Int)<48)=ζ/\(¬(B:Int)<48)/\decide ((57:Int)<(B:Int))=ε/\(57:Int)<(B:Int)/\((B:Int)==95)=ζ/\((B:Int) !=95)=ε/\(¬(B:Int)=95):=by
 refine⟨?_,?_,?_,?_,?_,?_,?_,?_,?_,?_,?_,?_,?_,?_,?_,?_,?_,?_,?_⟩<;>first|omega|(simp;omega)|simp
def nc3(B:Nat)(h:65<=B)(g:B<=90):decide ((97:Int)<=(B:Int))=ζ/\(¬(97:Int)<=(B:Int))/\decide ((65:Int)<=(B:Int))=ε/\(65:Int)<=(B:Int)/\decide ((48:Int)<=(B:Int))=ε/\(48:Int)<=(B:Int)/\decide ((B:Int)<=122)=ε/\(B:Int)<=122/\decide ((B:Int)<=90)=ε/\(B:Int)<=90/\decide ((B:Int)<=57)=ζ/\(¬(B:Int)<=57)/\decide ((B:Int)<48)=ζ/\(¬(B:Int)<48)/\decide ((57:Int)<(B:Int))=ε/\(57:Int)<(B:Int)/\((B:Int)==95)=ζ/\((B:Int) !=95)=ε/\(¬(B:Int)=95):=by
 refine⟨?_,?_,?_,?_,?_,?_,?_,?_,?_,?_,?_,?_,?_,?_,?_,?_,?_,?_,?_⟩<;>first|omega|(simp;omega)|simp
def nc4(B:Nat)(h:91<=B)(g:B<=96)(P:B≠95):decide ((97:Int)<=(B:Int))=ζ/\(¬(97:Int)<=(B:Int))/\decide ((65:Int)<=(B:Int))=ε/\(65:Int)<=(B:Int)/\decide ((48:Int)<=(B:Int))=ε/\(48:Int)<=(B:Int)/\decide ((B:Int)<=122)=ε/\(B:Int)<=122/\decide ((B:Int)<=90)=ζ/\(¬(B:Int)<=90)/\decide ((B:Int)<=57)=ζ/\(¬(B:Int)<=57)/\decide ((B:Int)<48)=ζ/\(¬(B:Int)<48)/\decide ((57:Int)<(B:Int))=ε/\(57:Int)<(B:Int)/\((B:Int)==95)=ζ/\((B:Int) !=95)=ε/\(¬(B:Int)=95):=by
 refine⟨?_,?_,?_,?_,?_,?_,?_,?_,?_,?_,?_,?_,?_,?_,?_,?_,?_,?_,?_⟩<;>first|omega|(simp;omega)|simp
def nc5(B:Nat)(h:95<=B)(g:B<=95):decide ((97:Int)<=(B:Int))=ζ/\(¬(97:Int)<=(B:Int))/\decide ((65:Int)<=(B:Int))=ε/\(65:Int)<=(B:Int)/\decide ((48:Int)<=(B:Int))=ε/\(48:Int)<=(B:Int)/\decide ((B:Int)<=122)=ε/\(B:Int)<=122/\decide ((B:Int)<=90)=ζ/\(¬(B:Int)<=90)/\decide ((B:Int)<=57)=ζ/\(¬(B:Int)<=57)/\decide ((B:Int)<48)=ζ/\(¬(B:Int)<48)/\decide ((57:Int)<(B:Int))=ε/\(57:Int)<(B:Int)/\((B:Int)==95)=ε/\((B:Int) !=95)=ζ/\(B:Int)=95:=by
 refine⟨?_,?_,?_,?_,?_,?_,?_,?_,?_,?_,?_,?_,?_,?_,?_,?_,?_,?_,?_⟩<;>first|omega|(simp;omega)|simp
def nc6(B:Nat)(h:97<=B)(g:B<=122):decide ((97:Int)<=(B:Int))=ε/\(97:Int)<=(B:Int)/\decide ((65:Int)<=(B:Int))=ε/\(65:Int)<=(B:Int)/\decide ((48:Int)<=(B:Int))=ε/\(48:Int)<=(B:Int)/\decide ((B:Int)<=122)=ε/\(B:Int)<=122/\decide ((B:Int)<=90)=ζ/\(¬(B:Int)<=90)/\decide ((B:Int)<=57)=ζ/\(¬(B:Int)<=57)/\decide ((B:Int)<48)=ζ/\(¬(B:Int)<48)/\decide ((57:Int)<(B:Int))=ε/\(57:Int)<(B:Int)/\((B:Int)==95)=ζ/\((B:Int) !=95)=ε/\(¬(B:Int)=95):=by
 refine⟨?_,?_,?_,?_,?_,?_,?_,?_,?_,?_,?_,?_,?_,?_,?_,?_,?_,?_,?_⟩<;>first|omega|(simp;omega)|simp
def nc7(B:Nat)(h:123<=B)(g:B<=255):decide ((97:Int)<=(B:Int))=ε/\(97:Int)<=(B:Int)/\decide ((65:Int)<=(B:Int))=ε/\(65:Int)<=(B:Int)/\decide ((48:Int)<=(B:Int))=ε/\(48:Int)<=(B:Int)/\decide ((B:Int)<=122)=ζ/\(¬(B:Int)<=122)/\decide ((B:Int)<=90)=ζ/\(¬(B:Int)<=90)/\decide ((B:Int)<=57)=ζ/\(¬(B:Int)<=57)/\decide ((B:Int)<48)=ζ/\(¬(B:Int)<48)/\decide ((57:Int)<(B:Int))=ε/\(57:Int)<(B:Int)/\((B:Int)==95)=ζ/\((B:Int) !=95)=ε/\(¬(B:Int)=95):=by
 refine⟨?_,?_,?_,?_,?_,?_,?_,?_,?_,?_,?_,?_,?_,?_,?_,?_,?_,?_,?_⟩<;>first|omega|(simp;omega)|simp
def EK(s w):
  Calls prog 63 #[.string s] w fun e w'=>e=.returned (.bool (ik s))/\w'=w:=by
 by_cases h0:s.size=0\/12<s.size
 .have Q:=aW (zS h0);rcases h0 with h0|h0
  .have hs:s=ByteArray.empty:=by
    cases s with
    |mk d=>exact congrArg ByteArray.mk (acp h0)
   subst hs;go_enter aeF,adQ;exact Acg
  .have t1:decide ((s.size:Int)<1)=ζ:=ae;have t2:¬(s.size:Int)<1:=aa;have t3:decide ((12:Int)<s.size)=ε:=ae;have t4:(12:Int)<s.size:=aa;have t5:((s.size:Int)==0)=ζ:=by simp;intro e;rw[e] at h0;simp at h0
   have t6:¬(s.size:Int)=0:=aa;have t7:¬s=ByteArray.empty:=by intro e;rw[e] at h0;simp at h0
   clear h0;go_enter aeF,adQ;exact Acg
 .have hp:0<s.size:=aa;have hm:s.size<=12:=aa;have t1:decide ((s.size:Int)<1)=ζ:=ae;have t2:¬(s.size:Int)<1:=aa;have t3:decide ((12:Int)<s.size)=ζ:=ae;have t4:¬(12:Int)<s.size:=aa;have t5:((s.size:Int)==0)=ζ:=by simp;intro e;rw[e] at hp;simp at hp
  have t6:¬(s.size:Int)=0:=aa;have t7:¬s=ByteArray.empty:=by intro e;rw[e] at hp;simp at hp
  clear h0;go_enter aeF,adQ;go_wp2_with fail
  go_loop [3] (fun i=>∃k:Nat,k<=s.size/\i=.int .i64 (k:Int)/\∀j,j<k->jm s j=ε) (fun i=>s.size-(intOf i).toNat)
  case atStart=>exact⟨0,aa,rfl,fun j hj=>absurd hj aa⟩
  case round=>
   exact Aad
def JK(s w):
  Calls prog 70 #[.string s] w fun e w'=>e=.returned (.bool (ik s))/\w'=w:=by
 by_cases h0:s.size=0\/12<s.size
 .have Q:=aW (zS h0);rcases h0 with h0|h0
  .have hs:s=ByteArray.empty:=by
    cases s with
    |mk d=>exact congrArg ByteArray.mk (acp h0)
   subst hs;go_enter aeG,adR;exact Acg
  .have t1:decide ((s.size:Int)<1)=ζ:=ae;have t2:¬(s.size:Int)<1:=aa;have t3:decide ((12:Int)<s.size)=ε:=ae;have t4:(12:Int)<s.size:=aa;have t5:((s.size:Int)==0)=ζ:=by simp;intro e;rw[e] at h0;simp at h0
   have t6:¬(s.size:Int)=0:=aa;have t7:¬s=ByteArray.empty:=by intro e;rw[e] at h0;simp at h0
   clear h0;go_enter aeG,adR;exact Acg
 .have hp:0<s.size:=aa;have hm:s.size<=12:=aa;have t1:decide ((s.size:Int)<1)=ζ:=ae;have t2:¬(s.size:Int)<1:=aa;have t3:decide ((12:Int)<s.size)=ζ:=ae;have t4:¬(12:Int)<s.size:=aa;have t5:((s.size:Int)==0)=ζ:=by simp;intro e;rw[e] at hp;simp at hp
  have t6:¬(s.size:Int)=0:=aa;have t7:¬s=ByteArray.empty:=by intro e;rw[e] at hp;simp at hp
  clear h0;go_enter aeG,adR;go_wp2_with fail
  go_loop [17] (fun i=>∃k:Nat,k<=s.size/\i=.int .i64 (k:Int)/\∀j,j<k->jm s j=ε) (fun i=>s.size-(intOf i).toNat)
  case atStart=>exact⟨0,aa,rfl,fun j hj=>absurd hj aa⟩
  case round=>
   exact Aad
def bP(x lo hi w):
  Calls prog 109 #[.int .i64 x,.int .i64 lo,.int .i64 hi] w fun e w'=>e=.returned (.bool (btw x lo hi))/\w=w':=by
 go_enter func109,ntmps109;go_wp2
 .go_ret;simp_all [btw]
 .go_ret;simp_all [btw];omega
def dP(x lo hi w):
  Calls prog 116 #[.int .i64 x,.int .i64 lo,.int .i64 hi] w fun e w'=>e=.returned (.bool (btw x lo hi))/\w=w':=by
 go_enter func116,ntmps116;go_wp2
 .go_ret;simp_all [btw]
 .go_ret;simp_all [btw];omega
def Tj (z:Imp):Value:=.agg #[z.r,z.x]
theorem bW(z:Imp)(w):
  Calls prog 66 #[Tj z] w fun e w'=>e=.returned (.bool (okZ z))/\w'=w.alloc (.cells #[z.r,z.x] 54):=by
 obtain⟨r,x⟩:=z;unfold Tj;dsimp only;cases h:btw r 0 1000
 .have V:Hid (okZ ⟨r,x⟩=ζ):=aW (by simp[okZ,h]);exact Aa5
 .have V:Hid (okZ ⟨r,x⟩=btw x 1 1000):=aW (by simp[okZ,h]);exact Aa5
theorem cZ(z:Imp)(w):
  Calls prog 115 #[Tj z] w fun e w'=>e=.returned (.bool (okZ z))/\w'=w.alloc (.cells #[z.r,z.x] 54):=by
 obtain⟨r,x⟩:=z;unfold Tj;dsimp only;cases h:btw r 0 1000
 .have V:Hid (okZ ⟨r,x⟩=ζ):=aW (by simp[okZ,h]);exact Aa3
 .have V:Hid (okZ ⟨r,x⟩=btw x 1 1000):=aW (by simp[okZ,h]);exact Aa3
def Un (g:DV):Value:=.agg #[g.name,g.emf,g.z1.r,g.z1.x,g.z0.r,g.z0.x]
theorem zW(g w):
  CE 67 #[Un g] w (.bool (ky g)):=by
 obtain⟨nm,emf,⟨r1,B⟩,⟨r0,j⟩⟩:=g;unfold Un;dsimp only;cases h:btw emf 1 1000000
 .have V:Hid (ky ⟨nm,emf,⟨r1,B⟩,⟨r0,j⟩⟩=ζ):=aW (by simp[ky,h]);go_enter aeH,adS;(go_wp2_with (go_at_call 109;refine(bP _ _ _ _).mono ?_;rintro e w1 ⟨rfl,rfl⟩));go_ret;exact⟨bE V.symm,Ext.new _ _⟩
 .cases C:okZ ⟨r1,B⟩
  .have V:Hid (ky ⟨nm,emf,⟨r1,B⟩,⟨r0,j⟩⟩=ζ):=aW (by simp[ky,h,C]);go_enter aeH,adS;(go_wp2_with (first|(go_at_call 109;refine(bP _ _ _ _).mono ?_;rintro e w1 ⟨rfl,rfl⟩)|(go_at_call 66;refine(bW ⟨_,_⟩ _).mono ?_;rintro e w1 ⟨rfl,rfl⟩)));go_ret;exact⟨bE V.symm,(Ext.new _ _).trans (Ext.new _ _)⟩
  .have V:Hid (ky ⟨nm,emf,⟨r1,B⟩,⟨r0,j⟩⟩=okZ ⟨r0,j⟩):=aW (by simp[ky,h,C]);go_enter aeH,adS;(go_wp2_with (first|(go_at_call 109;refine(bP _ _ _ _).mono ?_;rintro e w1 ⟨rfl,rfl⟩)|(go_at_call 66;refine(bW ⟨_,_⟩ _).mono ?_;rintro e w1 ⟨rfl,rfl⟩)));go_ret;exact⟨bE V.symm,((Ext.new _ _).trans (Ext.new _ _)).trans (Ext.new _ _)⟩
def Al (b:iA) (A:Option Addr) (n c:Nat):Value:=
 .agg #[b.name,b.kind,b.obj,b.en,b.z.r,b.z.x,aO A n c,b.closed,b.ct,b.vt,b.sat,b.travel]
theorem J7(b A n c w):
  CE 117 #[Al b A n c] w (.bool (dA b)):=by
 obtain⟨nm,kd,obj,en,⟨r,x⟩,B,D,ct,vt,sat,j⟩:=b;unfold Al;dsimp only;by_cases H:kd=3
 .subst H;cases h:okZ ⟨r,x⟩
  .skip;have V:Hid (dA ⟨nm,3,obj,en,⟨r,x⟩,B,D,ct,vt,sat,j⟩=ζ):=aW (by simp[dA,h]);exact AbM
  by_cases hv:vt=0
  .subst hv;cases F:btw en 0 0
   .skip;have V:Hid (dA ⟨nm,3,obj,en,⟨r,x⟩,B,D,ct,0,sat,j⟩=ζ):=aW (by simp[dA,h,F]);exact AbM
   cases G:btw ct 1 100
   .skip;have V:Hid (dA ⟨nm,3,obj,en,⟨r,x⟩,B,D,ct,0,sat,j⟩=ζ):=aW (by simp[dA,h,F,G]);exact AbM
   cases I:btw sat 0 16383
   .skip;have V:Hid (dA ⟨nm,3,obj,en,⟨r,x⟩,B,D,ct,0,sat,j⟩=ζ):=aW AcY;exact AbM
   have V:Hid (dA ⟨nm,3,obj,en,⟨r,x⟩,B,D,ct,0,sat,j⟩=btw j 1 6):=aW AcY;exact AbM
  have v1:((vt:Int)==0)=ζ:=ae;have N:((vt:Int) !=0)=ε:=ae;have V:Hid (dA ⟨nm,3,obj,en,⟨r,x⟩,B,D,ct,vt,sat,j⟩=ζ):=aW (by simp[dA,h,hv]);exact AbM
 have C:((kd:Int)==3)=ζ:=ae;by_cases M:r=0/\x=0
 .obtain⟨rfl,rfl⟩:=M;cases h:btw vt 1 10000
  .skip;have V:Hid (dA ⟨nm,kd,obj,en,⟨0,0⟩,B,D,ct,vt,sat,j⟩=ζ):=aW (by simp[dA,H,h]);exact Aaf
  by_cases K:kd=1
  .subst K;cases F:btw en 0 1
   .skip;have V:Hid (dA ⟨nm,1,obj,en,⟨0,0⟩,B,D,ct,vt,sat,j⟩=ζ):=aW (by simp[dA,h,F]);exact Aaf
   cases G:btw ct 1 100
   .skip;have V:Hid (dA ⟨nm,1,obj,en,⟨0,0⟩,B,D,ct,vt,sat,j⟩=ζ):=aW (by simp[dA,h,F,G]);exact Aaf
   cases I:btw sat 0 16383
   .skip;have V:Hid (dA ⟨nm,1,obj,en,⟨0,0⟩,B,D,ct,vt,sat,j⟩=ζ):=aW AcY;exact Aaf
   have V:Hid (dA ⟨nm,1,obj,en,⟨0,0⟩,B,D,ct,vt,sat,j⟩=btw j 1 6):=aW AcY;exact Aaf
  have O:((kd:Int)==1)=ζ:=ae;cases F:btw en 0 0
  .skip;have V:Hid (dA ⟨nm,kd,obj,en,⟨0,0⟩,B,D,ct,vt,sat,j⟩=ζ):=aW (by simp[dA,H,h,K,F]);exact Aaf
  cases G:btw ct 1 100
  .skip;have V:Hid (dA ⟨nm,kd,obj,en,⟨0,0⟩,B,D,ct,vt,sat,j⟩=ζ):=aW (by simp[dA,H,h,K,F,G]);exact Aaf
  cases I:btw sat 0 16383
  .skip;have V:Hid (dA ⟨nm,kd,obj,en,⟨0,0⟩,B,D,ct,vt,sat,j⟩=ζ):=aW (by simp[dA,H,h,K,F,G,I]);exact Aaf
  have V:Hid (dA ⟨nm,kd,obj,en,⟨0,0⟩,B,D,ct,vt,sat,j⟩=btw j 1 6):=aW (by simp[dA,H,h,K,F,G,I]);exact Aaf
 by_cases L:r=0
 .subst L;have J:¬x=0:=fun e=>M ⟨rfl,e⟩;have P:((x:Int)==0)=ζ:=by simp;exact J
  have V:Hid (dA ⟨nm,kd,obj,en,⟨0,x⟩,B,D,ct,vt,sat,j⟩=ζ):=aW (by simp[dA,H,J]);exact Aaf
 have r1:((r:Int)==0)=ζ:=by simp;exact L
 have V:Hid (dA ⟨nm,kd,obj,en,⟨r,x⟩,B,D,ct,vt,sat,j⟩=ζ):=aW (by simp[dA,H,L]);exact Aaf
theorem uC(b A n c w):
  CE 111 #[Al b A n c] w (.bool (dA b)):=by
 obtain⟨nm,kd,obj,en,⟨r,x⟩,B,D,ct,vt,sat,j⟩:=b;unfold Al;dsimp only;by_cases I:kd=3
 .subst I;by_cases H:en=0
  rotate_left
  .have e1:((en:Int)==0)=ζ:=ae;have O:((en:Int) !=0)=ε:=ae;have F:btw en 0 0=ζ:=by simp[btw];omega
   have V:Hid (dA ⟨nm,3,obj,en,⟨r,x⟩,B,D,ct,vt,sat,j⟩=ζ):=aW (by simp[dA,F]);exact Aaa
  have e1:((en:Int)==0)=ε:=ae;have O:((en:Int) !=0)=ζ:=ae;have F:btw en 0 0=ε:=by simp[btw];omega
  cases h:okZ ⟨r,x⟩
  .skip;have V:Hid (dA ⟨nm,3,obj,en,⟨r,x⟩,B,D,ct,vt,sat,j⟩=ζ):=aW (by simp[dA,F,h]);exact AbK
  cases G:btw ct 1 100
  .skip;have V:Hid (dA ⟨nm,3,obj,en,⟨r,x⟩,B,D,ct,vt,sat,j⟩=ζ):=aW (by simp[dA,F,h,G]);exact AbK
  by_cases hv:vt=0
  .subst hv;cases K:btw sat 0 16383
   .skip;have V:Hid (dA ⟨nm,3,obj,en,⟨r,x⟩,B,D,ct,0,sat,j⟩=ζ):=aW (by simp[dA,F,h,G,K]);exact AbK
   have V:Hid (dA ⟨nm,3,obj,en,⟨r,x⟩,B,D,ct,0,sat,j⟩=btw j 1 6):=aW (by simp[dA,F,h,G,K]);exact AbK
  have v1:((vt:Int)==0)=ζ:=ae;have Q:((vt:Int) !=0)=ε:=ae;have V:Hid (dA ⟨nm,3,obj,en,⟨r,x⟩,B,D,ct,vt,sat,j⟩=ζ):=aW (by simp[dA,F,h,G,hv]);exact AbK
 have C:((kd:Int)==3)=ζ:=ae;by_cases L:kd=1
 .subst L;cases H:btw en 0 1
  .skip;have V:Hid (dA ⟨nm,1,obj,en,⟨r,x⟩,B,D,ct,vt,sat,j⟩=ζ):=aW (by simp[dA,H]);exact Aaa
  by_cases N:r=0/\x=0
  .obtain⟨rfl,rfl⟩:=N;cases G:btw ct 1 100
   .skip;have V:Hid (dA ⟨nm,1,obj,en,⟨0,0⟩,B,D,ct,vt,sat,j⟩=ζ):=aW (by simp[dA,H,G]);exact Aaa
   cases hv:btw vt 1 10000
   .skip;have V:Hid (dA ⟨nm,1,obj,en,⟨0,0⟩,B,D,ct,vt,sat,j⟩=ζ):=aW (by simp[dA,H,G,hv]);exact Aaa
   cases K:btw sat 0 16383
   .skip;have V:Hid (dA ⟨nm,1,obj,en,⟨0,0⟩,B,D,ct,vt,sat,j⟩=ζ):=aW (by simp[dA,H,G,hv,K]);exact Aaa
   have V:Hid (dA ⟨nm,1,obj,en,⟨0,0⟩,B,D,ct,vt,sat,j⟩=btw j 1 6):=aW (by simp[dA,H,G,hv,K]);exact Aaa
  by_cases M:r=0
  .subst M;have J:¬x=0:=fun e=>N ⟨rfl,e⟩;have P:((x:Int)==0)=ζ:=by simp;exact J
   have V:Hid (dA ⟨nm,1,obj,en,⟨0,x⟩,B,D,ct,vt,sat,j⟩=ζ):=aW (by simp[dA,H,J]);exact Aaa
  have r1:((r:Int)==0)=ζ:=by simp;exact M
  have V:Hid (dA ⟨nm,1,obj,en,⟨r,x⟩,B,D,ct,vt,sat,j⟩=ζ):=aW (by simp[dA,H,M]);exact Aaa
 have R:((kd:Int)==1)=ζ:=ae;by_cases H:en=0
 rotate_left
 .have e1:((en:Int)==0)=ζ:=ae;have O:((en:Int) !=0)=ε:=ae;have F:btw en 0 0=ζ:=by simp[btw];omega
  have V:Hid (dA ⟨nm,kd,obj,en,⟨r,x⟩,B,D,ct,vt,sat,j⟩=ζ):=aW (by simp[dA,I,L,F]);exact Aaa
 have e1:((en:Int)==0)=ε:=ae;have O:((en:Int) !=0)=ζ:=ae;have F:btw en 0 0=ε:=by simp[btw];omega
 by_cases N:r=0/\x=0
 .obtain⟨rfl,rfl⟩:=N;cases G:btw ct 1 100
  .skip;have V:Hid (dA ⟨nm,kd,obj,en,⟨0,0⟩,B,D,ct,vt,sat,j⟩=ζ):=aW (by simp[dA,I,L,F,G]);exact Aaa
  cases hv:btw vt 1 10000
  .skip;have V:Hid (dA ⟨nm,kd,obj,en,⟨0,0⟩,B,D,ct,vt,sat,j⟩=ζ):=aW (by simp[dA,I,L,F,G,hv]);exact Aaa
  cases K:btw sat 0 16383
  .skip;have V:Hid (dA ⟨nm,kd,obj,en,⟨0,0⟩,B,D,ct,vt,sat,j⟩=ζ):=aW (by simp[dA,I,L,F,G,hv,K]);exact Aaa
  have V:Hid (dA ⟨nm,kd,obj,en,⟨0,0⟩,B,D,ct,vt,sat,j⟩=btw j 1 6):=aW (by simp[dA,I,L,F,G,hv,K]);exact Aaa
 by_cases M:r=0
 .subst M;have J:¬x=0:=fun e=>N ⟨rfl,e⟩;have P:((x:Int)==0)=ζ:=by simp;exact J
  have V:Hid (dA ⟨nm,kd,obj,en,⟨0,x⟩,B,D,ct,vt,sat,j⟩=ζ):=aW (by simp[dA,I,L,F,J]);exact Aaa
 have r1:((r:Int)==0)=ζ:=by simp;exact M
 have V:Hid (dA ⟨nm,kd,obj,en,⟨r,x⟩,B,D,ct,vt,sat,j⟩=ζ):=aW (by simp[dA,I,L,F,M]);exact Aaa
def stV (nm:ByteArray) (A0:Option Addr) (n0 c0:Nat) (A1:Option Addr) (n1 c1:Nat) (A2:Option Addr) (n2 c2:Nat) (A3:Option Addr) (n3 c3:Nat):Value:=
 .agg #[nm,aO A0 n0 c0,aO A1 n1 c1,aO A2 n2 c2,aO A3 n3 c3]
def Strs (w:World) (A:Option Addr) (n:Nat) (l:List ByteArray):Prop:=Reads w w.heap.size 1 A n (l.map Value.string)
def Strs.ext{w w' A n}{l:List ByteArray}(h:Strs w A n l)(e:Ext w w'):Strs w' A n l:=Reads.ext h e
def Strs.len{w A n}{l:List ByteArray}(h:Strs w A n l):l.length=n:=by simpa using h.1
def Strs.at_{w A n k}{l:List ByteArray}(h:Strs w A n l)(C:k<n):∃j x,A=γ j/\j.block<w.heap.size/\l[k]? =γ x/\w.cell? (j.add k)=γ (.string x):=by
 obtain⟨j,u,e,hb,B,hc⟩:=Reads.at_ h C;rw[Aa,abB] at B;obtain⟨x,J,rfl⟩:=B;exact⟨j,x,e,hb,J,hc⟩
def wL (s:ByteArray):List ByteArray->Nat->Int
 |[],_=> -1
 |x::l,k=>if x=s then (k:Int) else wL s l (k+1)
theorem Eh(s):∀(l:List ByteArray) (k:Nat),decide (0<=wL s l k)=vN s l
 |[],k=>by simp[wL,vN]
 |x::l,k=>by
  have B:=Eh s l (k+1);unfold wL vN;by_cases h:x=s
  .rw[ι h,Λ h];simp
  .rw[θ h,B,ρ h];simp
def toList_eq{x s:ByteArray}:(x.toList==s.toList)=decide (x=s):=by
 rw[Lib.toList_data,Lib.toList_data];by_cases h:x=s
 .rw[h];simp
 .rw[ρ h];have:¬x.data.toList=s.data.toList:=by
   intro e;apply h;cases x with|mk a=>cases s with|mk b=>exact congrArg ByteArray.mk (Array.toList_inj.1 e)
  simpa using this
def O5{s x}{l:List ByteArray}{k}(J:l[k]? =γ x)(h:x=s):wL s (l.drop k) k=(k:Int):=by
 obtain⟨j,rfl⟩:=μ.1 J;rw[aaA j,wL,ι h]
def Vm{s x}{l:List ByteArray}{k}(J:l[k]? =γ x)(h:x≠s):wL s (l.drop k) k=wL s (l.drop (k+1)) (k+1):=by
 obtain⟨j,rfl⟩:=μ.1 J;rw[aaA j,wL,θ h]
def R7{s}{l:List ByteArray}{k}(h:l.length<=k):wL s (l.drop k) k= -1:=by
 rw[aak h];rfl
def DD(s)(l:List ByteArray)(A n c w)(h:Strs w A n l)(hn:n<=9223372036854775807):
  Calls prog 108 #[aO A n c,.string s] w fun e w'=>e=.returned (.int .i64 (wL s l 0))/\w=w':=by
 have I:=aW h.len;go_enter func108,ntmps108;go_wp2_with fail
 go_loop [5] (fun i=>∃k:Nat,k<=n/\i=.int .i64 (k:Int)/\wL s l 0=wL s (l.drop k) k) (fun i=>n-(intOf i).toNat)
 case atStart=>exact⟨0,q9 _,rfl,rfl⟩
 case round=>
  obtain⟨k,K,rfl,B⟩:=hrel;have D:=aW B;clear B;by_cases C:k<n
  .obtain⟨L,x,rfl,hb,J,H⟩:=h.at_ C;have G:=aW J;clear J;by_cases j:x=s
   .have e1:(x.toList==s.toList)=ε:=by rw[toList_eq];simp[j]
    have F:=aW j;clear j;go_wp2;go_ret;exact⟨aZ (by rw[D.o,O5 G.o F.o]),rfl⟩
   .have e1:(x.toList==s.toList)=ζ:=by rw[toList_eq];simp[j]
    have F:=aW j;go_wp2_with fail
    go_round
    case rel=>exact⟨k+1,aa,au,by rw[D.o,Vm G.o F.o]⟩
    case measure=>exact aV
  .go_wp2;go_ret;exact⟨aZ (by rw[D.o,R7 (by have:=I.o;omega)]),rfl⟩
def sO(s)(l:List ByteArray)(A n c w)(h:Strs w A n l)(B:n<=9223372036854775807):
  Calls prog 64 #[aO A n c,.string s] w fun e w'=>e=.returned (.int .i64 (eH l s))/\w=w':=by
 have F:∀w:World,Calls prog 63 #[s] w fun e w'=>e=.returned (.bool (ik s))/\w=w':=fun w=>(EK s w).mono (fun e w' j=>⟨j.1,j.2.symm⟩);cases hn:ik s
 .have Q:Hid (eH l s=7):=aW (by simp[eH,hn]);go_enter func64,ntmps64;(go_wp2_with (first|(go_at_call 63;refine(F _).mono ?_;rintro e w1 ⟨rfl,rfl⟩)));go_ret;exact⟨aZ Q.symm,rfl⟩
 .have hd:=Eh s l 0;cases hc:vN s l
  .have Q:Hid (eH l s=0):=aW (by simp only[eH,hn,hc];rfl);rw[hc] at hd;have hd':¬0<=wL s l 0:=by simpa using hd
   exact AaM
  .have Q:Hid (eH l s=8):=aW (by simp only[eH,hn,hc];rfl);rw[hc] at hd;have hd':0<=wL s l 0:=by simpa using hd
   exact AaM
theorem qO(nm A0 n0 c0 A1 n1 c1 A2 n2 c2 A3 n3 c3 b A n c w):
  CE 110 #[stV nm A0 n0 c0 A1 n1 c1 A2 n2 c2 A3 n3 c3,Al b A n c] w (.int .i64 (jK n1 n2 b)):=by
 obtain⟨F,kd,obj,en,⟨r,x⟩,B,D,ct,vt,sat,j⟩:=b;unfold Al stV;dsimp only;by_cases J:kd=1
 .subst J;by_cases hn:obj<0
  .have H:decide ((obj:Int)<0)=ε:=ae;exact AcS
  have H:decide ((obj:Int)<0)=ζ:=ae;by_cases M:(n1:Int)<=obj
  .have G:decide ((n1:Int)<=obj)=ε:=ae;exact AcS
  have G:decide ((n1:Int)<=obj)=ζ:=ae;have V:Hid (jK n1 n2 ⟨F,1,obj,en,⟨r,x⟩,B,D,ct,vt,sat,j⟩=0):=aW Ab1;exact Aas
 have C:((kd:Int)==1)=ζ:=ae;by_cases I:kd=2
 .subst I;by_cases hn:obj<0
  .have H:decide ((obj:Int)<0)=ε:=ae;exact Adf
  have H:decide ((obj:Int)<0)=ζ:=ae;by_cases M:(n2:Int)<=obj
  .have G:decide ((n2:Int)<=obj)=ε:=ae;exact Adf
  have G:decide ((n2:Int)<=obj)=ζ:=ae;have V:Hid (jK n1 n2 ⟨F,2,obj,en,⟨r,x⟩,B,D,ct,vt,sat,j⟩=0):=aW Ab1;exact Aas
 have O:((kd:Int)==2)=ζ:=ae;by_cases L:kd=3
 .subst L;by_cases K:obj=0
  .subst K;have V:Hid (jK n1 n2 ⟨F,3,0,en,⟨r,x⟩,B,D,ct,vt,sat,j⟩=0):=aW Ab1;exact Aas
  have H:((obj:Int)==0)=ζ:=ae;have G:((obj:Int) !=0)=ε:=ae;have V:Hid (jK n1 n2 ⟨F,3,obj,en,⟨r,x⟩,B,D,ct,vt,sat,j⟩=9):=aW (by simp[jK,btw,K]<;>omega);exact Aas
 have N:((kd:Int)==3)=ζ:=ae;have V:Hid (jK n1 n2 ⟨F,kd,obj,en,⟨r,x⟩,B,D,ct,vt,sat,j⟩=10):=aW (by simp[jK,btw,J,I,L]<;>omega);exact Aas
structure Hd where
 A:Option Addr
 n:Nat
 c:Nat
def Hd.v (h:Hd):Value:=.slice h.A h.n h.c
def Arr (w:World) (A:Option Addr) (n k:Nat) (f:Nat->List Value):Prop:=
 0<n->∃b o,A=γ ⟨b,o,δ⟩/\b<w.heap.size/\∀i,i<n->∀t u,(f i)[t]? =γ u->w.cell? (aM b (o+i*k+t))=γ u
def Arr.ext{w w' A n k f}(h:Arr w A n k f)(x:Ext w w'):Arr w' A n k f:=fun hn=>by
 obtain⟨b,o,e,hb,hc⟩:=h hn;exact⟨b,o,e,ο hb x.size,fun i hi t u j=>(x.cell (p:=aM b _) hb).trans (hc i hi t u j)⟩
def Arr.at_{w A n k i f}(h:Arr w A n k f)(hi:i<n):∃b o,A=γ ⟨b,o,δ⟩/\b<w.heap.size/\∀t u,(f i)[t]? =γ u->w.cell? (aM b (o+i*k+t))=γ u:=by
 obtain⟨b,o,e,hb,hc⟩:=h aa;exact⟨b,o,e,hb,hc i hi⟩
def Arr.congr{w A n k f g}(h:Arr w A n k f)(e:∀i,i<n->f i=g i):Arr w A n k g:=fun hn=>by
 obtain⟨b,o,e1,hb,hc⟩:=h hn;exact⟨b,o,e1,hb,fun i hi t u j=>hc i hi t u (by rw[e i hi];exact j)⟩
def Ms (l:qP):List Value:=[.int .i64 l.bus,.int .i64 l.pos]
def mr (l:vV):List Value:=[.string l.name,.int .i64 l.z1.r,.int .i64 l.z1.x,.int .i64 l.z0.r,.int .i64 l.z0.x]
def yn (g:DV):List Value:=[.string g.name,.int .i64 g.emf,.int .i64 g.z1.r,.int .i64 g.z1.x,.int .i64 g.z0.r,.int .i64 g.z0.x]
def ji (b:iA) (h:Hd):List Value:=[.string b.name,.int .i64 b.kind,.int .i64 b.obj,.int .i64 b.en,.int .i64 b.z.r,.int .i64 b.z.x,.slice h.A h.n h.c,.bool b.closed,.int .i64 b.ct,.int .i64 b.vt,.int .i64 b.sat,.int .i64 b.travel]
def Lks (w:World) (A:Option Addr) (n:Nat) (l:List qP):Prop:=l.length=n/\Arr w A n 2 (fun k=>Ms (l.getD k η))
def Lks.ext{w w' A n l}(h:Lks w A n l)(x:Ext w w'):Lks w' A n l:=⟨h.1,h.2.ext x⟩
theorem EX{nb x}(C:1<=x.links.length)(B:x.links.length<=2)(j:x.kind=3->x.links.length=2):iM nb x=dX (iX nb x) x.links.length:=by
 unfold iM;rw[θ (fun h=>by rcases h with h|h|⟨h,D⟩<;>first|omega|exact D (j h))]
def dO{E n k v}(C:∀j,j<k->E j=0)(Y:E k=v)(hv:v≠0)(B:k<n):v=dX E n:=by
 rw[Ey C (by rw[Y];exact hv) B,Y]
def gX{E:Nat->Int}{k:Nat}(B:∀j,j<k->E j=0)(Y:E k=0):∀j,j<k+1->E j=0:=fun j C=>by
 by_cases e:j=k
 .rw[e];exact Y
 .exact B j aa
theorem rW{nb x}(h:x.links.length<1\/2<x.links.length\/(x.kind=3/\x.links.length≠2)):iM nb x=3:=by
 unfold iM;rw[ι h]
theorem xg(nm A0 n0 c0 A1 n1 c1 A2 n2 c2 A3 n3 c3 b A n c w)(hL:Lks w A n b.links):
    CE 112 #[stV nm A0 n0 c0 A1 n1 c1 A2 n2 c2 A3 n3 c3,Al b A n c] w (.int .i64 (iM n0 b)):=by
  have Z:=hL.1;have HL:=aW hL;clear hL;have H:=aW Z;clear Z;unfold Al stV;by_cases h1:n<1
  · have d1:decide ((n:Int)<1)=ε:=ae;have V:Hid (iM n0 b=3):=aW (rW (Or.inl AdB));exact AaR
  have d1:decide ((n:Int)<1)=ζ:=ae;by_cases h2:2<n
  · have d2:decide ((2:Int)<n)=ε:=ae;have V:Hid (iM n0 b=3):=aW (rW (Or.inr (Or.inl AdB)));exact AaR
  have d2:decide ((2:Int)<n)=ζ:=ae;by_cases h3:b.kind=3/\n≠2
  · obtain⟨S,Zp⟩:=h3;have d3:((b.kind:Int)==3)=ε:=by simp[S]
    have d4:((n:Int) !=2)=ε:=ae;have V:Hid (iM n0 b=3):=aW (rW (Or.inr (Or.inr ⟨S,by have:=H.o;omega⟩)));clear Zp S;exact AaR
  have V:Hid (iM n0 b=dX (iX n0 b) n):=aW (by
    have hh:=H.o;have e:=EX (nb:=n0) (x:=b) aa aa (fun S=>by
      by_cases e:n=2
      · omega
      · exact absurd (And.intro S e) h3)
    rw[hh] at e;exact e)
  have H3:=aW h3;clear h3;have hd:(∃k3:Bool,((b.kind:Int)==3)=k3/\(k3=ε->((n:Int) !=2)=ζ)):=⟨_,rfl,fun h=>by
    have S:b.kind=3:=by simpa using h
    have:=H3.o;simp;omega⟩
  obtain⟨k3,d3,d4⟩:=hd;cases k3
  (all_goals (first|(replace d4:=d4 rfl)|clear d4));all_goals
    obtain⟨E0,B2,B3⟩:=an2 w 27 #[nm,aO A0 n0 c0,aO A1 n1 c1,aO A2 n2 c2,aO A3 n3 c3] 57 #[b.name,b.kind,b.obj,b.en,b.z.r,b.z.x,aO A n c,b.closed,b.ct,b.vt,b.sat,b.travel];have U:=aW B2;have Yy:=aW B3;have D:=aW E0;clear B2 B3 E0;go_enter func112,ntmps112;go_wp2_with fail
    go_loopw [6] (fun i wr=>∃k:Nat,k<=n/\i=.int .i64 (k:Int)/\(∀j,j<k->iX n0 b j=0)/\Ext (aL (aL w #[nm,aO A0 n0 c0,aO A1 n1 c1,aO A2 n2 c2,aO A3 n3 c3] 27) #[b.name,b.kind,b.obj,b.en,b.z.r,b.z.x,aO A n c,b.closed,b.ct,b.vt,b.sat,b.travel] 57) wr) (aT n)
    case atStart=>exact⟨0,aa,rfl,by intros;omega,Ext.refl _⟩
    case round=>
      obtain⟨k,S,rfl,hz,J⟩:=hrel;have P:=aW hz;have M:=aW J;have k2:=(U.ext J).cell;have k3:=(Yy.ext J).cell;have hs:w.heap.size+1<wr.heap.size:=by have:=J.size;simp at this;omega
      have YY:w.heap.size<wr.heap.size:=aa;clear hz J;by_cases L:k<n
      · obtain⟨lb,lo,Y,hb,hc⟩:=(HL.ext (D.trans M.o)).2.at_ L;subst Y;have e0:wr.cell? (aM lb (lo+k*2))=γ (.int .i64 (b.links.getD k η).bus):=hc 0 _ rfl;have e1:=hc 1 _ rfl;clear hc;have C:Hid (iX n0 b k=if btw (b.links.getD k η).bus 0 ((n0:Int)-1)=ε then
    (if (b.links.getD k η).pos≠1/\((b.links.getD k η).pos≠0\/b.kind=3) then 16
     else if 0<k/\(b.links.getD (k-1) η).bus=(b.links.getD k η).bus then 12 else 0)
  else 9):=aW rfl
        generalize b.links.getD k η=l at e0 e1 C;obtain⟨bus,pos⟩:=l;dsimp only at e0 e1 C;by_cases YM:bus<0
        · have q1:decide (bus<0)=ε:=ae;exact Adw
        have q1:decide (bus<0)=ζ:=ae;by_cases YJ:(n0:Int)<=bus
        · have q2:decide ((n0:Int)<=bus)=ε:=ae;exact Adw
        have q2:decide ((n0:Int)<=bus)=ζ:=ae;have G:Hid (¬(pos≠1/\(pos≠0\/b.kind=3))->iX n0 b k=if 0<k/\(b.links.getD (k-1) η).bus=bus then 12 else 0):=aW (fun h=>by
          rw[C.o,ι Acx,θ h])
        by_cases hp:pos=1
        · subst hp;by_cases W:k=0
          · subst W;rw[aaV,I6] at e0 e1;have F:Hid (iX n0 b 0=0):=aW (by rw[G.o ag,θ aa]);go_wp2;go_quiet (fail);go_wp2;go_roundw
            case rel=>exact⟨1,aa,rfl,gX P.o F.o,(M.alloc _).drewN _⟩
            case measure=>exact aV
          · obtain rfl:k=1:=aa;obtain⟨K,N,Y,YT,hc⟩:=(HL.ext (D.trans M.o)).2.at_ (show 0<n by omega);simp only[aax,acg,ac3] at Y;obtain⟨rfl,rfl⟩:=Y;have f0:wr.cell? (aM lb lo)=γ (.int .i64 (b.links.getD 0 η).bus):=by
              exact Adl
            clear hc;rw[show lo+1*2=lo+2 from rfl] at e0 e1;by_cases B:(b.links.getD 0 η).bus=bus
            · have F:Hid (iX n0 b 1=12):=aW (by rw[G.o ag,ι ⟨aa,B⟩]);exact Ac3
            · have F:Hid (iX n0 b 1=0):=aW (by rw[G.o ag,θ (fun h=>B h.2)]);generalize (b.links.getD 0 η).bus=b0 at f0 B;have q5:((bus:Int)==b0)=ζ:=ae;clear B;go_wp2;go_quiet (fail);go_wp2;go_roundw
              case rel=>exact⟨2,aa,rfl,gX P.o F.o,(M.alloc _).drewN _⟩
              case measure=>exact aV
        by_cases I:pos=0
        · subst I;by_cases O:b.kind=3
          · first
            |(exfalso;simp[O] at d3;done)
            |(have F:Hid (iX n0 b k=16):=aW (by rw[C.o,ι Acx,ι ⟨aj,Or.inr O⟩]);go_wp2;go_ret;exact⟨aZ AbY,(D.trans M.o).alloc _⟩)
          · first
            |(exfalso;simp at d3;exact O d3)
            |
              skip;by_cases W:k=0
              · subst W;rw[aaV,I6] at e0 e1;have F:Hid (iX n0 b 0=0):=aW (by rw[G.o (by simp;exact O),θ aa]);go_wp2;go_quiet (fail);go_wp2;go_roundw
                case rel=>exact⟨1,aa,rfl,gX P.o F.o,(M.alloc _).drewN _⟩
                case measure=>exact aV
              · obtain rfl:k=1:=aa;obtain⟨K,N,Y,YT,hc⟩:=(HL.ext (D.trans M.o)).2.at_ (show 0<n by omega);simp only[aax,acg,ac3] at Y;obtain⟨rfl,rfl⟩:=Y;have f0:wr.cell? (aM lb lo)=γ (.int .i64 (b.links.getD 0 η).bus):=by
                  exact Adl
                clear hc;rw[show lo+1*2=lo+2 from rfl] at e0 e1;by_cases B:(b.links.getD 0 η).bus=bus
                · have F:Hid (iX n0 b 1=12):=aW (by rw[G.o (by simp;exact O),ι ⟨aa,B⟩]);exact Ac3
                · have F:Hid (iX n0 b 1=0):=aW (by rw[G.o (by simp;exact O),θ (fun h=>B h.2)]);generalize (b.links.getD 0 η).bus=b0 at f0 B;have q5:((bus:Int)==b0)=ζ:=ae;clear B;go_wp2;go_quiet (fail);go_wp2;go_roundw
                  case rel=>exact⟨2,aa,rfl,gX P.o F.o,(M.alloc _).drewN _⟩
                  case measure=>exact aV
        · have q6:((pos:Int)==1)=ζ:=by simp;exact hp
          have T:((pos:Int) !=1)=ε:=by simp;exact hp
          have R:((pos:Int)==0)=ζ:=by simp;exact I
          have Q:((pos:Int) !=0)=ε:=by simp;exact I
          have F:Hid (iX n0 b k=16):=aW (by rw[C.o,ι Acx,ι ⟨hp,Or.inl I⟩]);go_wp2;go_ret;exact⟨aZ AbY,(D.trans M.o).alloc _⟩
      · obtain rfl:k=n:=aa;go_wp2;go_ret;exact⟨aZ (by rw[V.o];exact(dI P.o).symm),D.trans M.o⟩
structure lI (w:World) (A0:Option Addr) (n0 c0:Nat) (A1:Option Addr) (n1 c1:Nat) (A2:Option Addr) (n2 c2:Nat) (A3:Option Addr) (n3 c3:Nat) (L:Nat->Hd) (s:StD):Prop where
 buses:Strs w A0 n0 s.buses
 nc:n0<=c0
 mx:n0<=1000000/\n1<=1000000/\n2<=1000000/\n3<=1000000
 l1:s.lines.length=n1
 lines:Arr w A1 n1 5 (fun i=>mr (s.lines.getD i η))
 l2:s.srcs.length=n2
 srcs:Arr w A2 n2 6 (fun i=>yn (s.srcs.getD i η))
 l3:s.bays.length=n3
 bays:Arr w A3 n3 12 (fun i=>ji (s.bays.getD i η) (L i))
 links:∀i,i<n3->Lks w (L i).A (L i).n (s.bays.getD i η).links
section
variable {w w':World} {A0:Option Addr} {n0 c0:Nat} {A1:Option Addr} {n1 c1:Nat} {A2:Option Addr} {n2 c2:Nat} {A3:Option Addr} {n3 c3:Nat} {L:Nat->Hd} {s:StD}
def lI.ext(h:lI w A0 n0 c0 A1 n1 c1 A2 n2 c2 A3 n3 c3 L s)(x:Ext w w'):lI w' A0 n0 c0 A1 n1 c1 A2 n2 c2 A3 n3 c3 L s:=
 ⟨h.buses.ext x,h.nc,h.mx,h.l1,h.lines.ext x,h.l2,h.srcs.ext x,h.l3,h.bays.ext x,fun i hi=>(h.links i hi).ext x⟩
end
def uy:Elem prog 22 9 1 16:=afa underlying22 (z:=.string ByteArray.empty) ah rfl aa
def Us(l:List ByteArray):∀u∈l.map Value.string,u.oneCell'=ε:=by
 exact Abl
def kY{α:Type}[Inhabited α]{l:List α}{k}(j:k<l.length):l.take (k+1)=l.take k++[l.getD k η]:=by
 rw[aaN j,π,ν j];rfl
theorem VA{s b k}(j:k<s.lines.length):nms s b (k+1) 0 0=nms s b k 0 0++[(s.lines.getD k η).name]:=by
 unfold nms;rw[kY j];simp
theorem VE{s b l k}(j:k<s.srcs.length):nms s b l (k+1) 0=nms s b l k 0++[(s.srcs.getD k η).name]:=by
 unfold nms;rw[kY j];simp
theorem VU{s b l g k}(j:k<s.bays.length):nms s b l g (k+1)=nms s b l g k++[(s.bays.getD k η).name]:=by
 unfold nms;rw[kY j];simp
theorem Qu{s b}:nms s b 0 0 0=s.buses.take b:=by unfold nms;simp
theorem Au{s b l g q}(C:b<=s.buses.length)(B:l<=s.lines.length)(j:g<=s.srcs.length)(D:q<=s.bays.length):(nms s b l g q).length=b+l+g+q:=by
 unfold nms;simp;omega
def Strs.take{w A n b}{l:List ByteArray}(h:Strs w A n l)(hb:b<=n):Strs w A b (l.take b):=by
 have Z:=h.len;refine⟨ae,fun hp=> ?_⟩;obtain⟨D,e,C,hc⟩:=h.2 aa;refine⟨D,e,C,fun j u B=>hc j u ?_⟩;rw[List.map_take,List.getElem?_take] at B;split at B
 .exact B
 .cases B
def ags{w B n v}{l:List ByteArray}(h:w.ownsRow B 9 1 v n (l.map Value.string)):∃A c,v=.slice A n c/\n<=c/\Strs w A n l:=by
 obtain⟨A,c,e,C,_,j⟩:=jH h;exact⟨A,c,e,C,j⟩
theorem Ld(nm){A0 n0 c0 A1 n1 c1 A2 n2 c2 A3 n3 c3 L s}(w)(hs:lI w A0 n0 c0 A1 n1 c1 A2 n2 c2 A3 n3 c3 L s)(b l g q)(hb:b<=n0)(Z:l<=n1)(hg:g<=n2)(hq:q<=n3):
  Calls prog 65 #[stV nm A0 n0 c0 A1 n1 c1 A2 n2 c2 A3 n3 c3,(b:Int),(l:Int),(g:Int),(q:Int)] w
   fun e w'=>∃A c,e=.returned (.slice A (b+l+g+q) c)/\Strs w' A (b+l+g+q) (nms s b l g q)/\Ext w w':=by
 have B:=hs.nc;have YR:=hs.mx;obtain⟨m0,m1,m2,m3⟩:=YR;have S:=(hs.buses.take hb).ext (Ext.new w (.cells #[nm,aO A0 n0 c0,aO A1 n1 c1,aO A2 n2 c2,aO A3 n3 c3] 27));have O:=aW hs;have HT:=aW S;clear hs S;have Zh:b<=c0:=aa;unfold stV;obtain⟨-,B2⟩:=an1 w 27 #[nm,aO A0 n0 c0,aO A1 n1 c1,aO A2 n2 c2,aO A3 n3 c3];have U:=aW B2;clear B2;have j:Hid (((w.alloc (.cells #[nm,aO A0 n0 c0,aO A1 n1 c1,aO A2 n2 c2,aO A3 n3 c3] 27)).alloc (.cells #[] 9)).ownsRow (w.heap.size+1) 9 1 (.slice (γ (aM (w.heap.size+1) 0)) 0 0) 0 []):=aW (by
  have:=abe (base:=w.heap.size+1) (e:=9) (size:=1) (aL w #[nm,aO A0 n0 c0,aO A1 n1 c1,aO A2 n2 c2,aO A3 n3 c3] 27) #[] 0 ag AdC ag;simpa using this)
 go_enter func65,ntmps65;(go_wp2_with (at_builtin;refine jL uy rfl (.tmp 15) (.tmp 19) rfl (w.heap.size+1) _ 0 [] rf j.o _ b _ ((s.buses.take b).map Value.string) rf (HT.ext (Ext.new _ _)) (Us _) aa aa AdA ?_));intro v1 w1 F V;have N:Ext (aL w #[nm,aO A0 n0 c0,aO A1 n1 c1,aO A2 n2 c2,aO A3 n3 c3] 27) w1:=gu V (Ext.new _ _) Ab6;have H:=aW N;have T:Hid (w1.ownsRow (w.heap.size+1) 9 1 v1 (b+0) ((nms s b 0 0 0).map Value.string)):=aW (by rw[Qu];simpa using F);clear N F V;go_wp2_with fail
 go_loopw [11,12] (fun v i wr=>∃k:Nat,k<=l/\i=.int .i64 (k:Int)/\wr.ownsRow (w.heap.size+1) 9 1 v (b+k) ((nms s b k 0 0).map Value.string)/\Ext (aL w #[nm,aO A0 n0 c0,aO A1 n1 c1,aO A2 n2 c2,aO A3 n3 c3] 27) wr) (fun _ i _=>l-(intOf i).toNat)
 case atStart=>exact⟨0,aa,rfl,T.o,H.o⟩
 case round=>
  clear T H;obtain⟨k,hk,rfl,F,J⟩:=hrel;have T:=aW F;have H:=aW J;have R:w.heap.size<wr.heap.size:=by have:=J.size;simp at this;omega
  have k2:=(U.ext J).cell;clear F J;by_cases Q:k<l
  .have hd:decide (k<l)=ε:=ae;obtain⟨lb,lo,Y,P,hc⟩:=(O.ext ((Ext.new _ _).trans H.o)).lines.at_ (show k<n1 by omega);have M:Hid (nms s b (k+1) 0 0=nms s b k 0 0++[(s.lines.getD k η).name]):=aW (VA (by have:=O.l1;omega));subst Y;have e0:wr.cell? (aM lb (lo+k*5))=γ (.string (s.lines.getD k η).name):=hc 0 _ rfl;clear hc;generalize (s.lines.getD k η).name=x at e0 M;(go_wp2_with (at_builtin;refine fu uy rfl (.tmp 26) (.tmp 33) rfl (w.heap.size+1) _ (b+k) _ rf (T.alloc _) wr.heap.size 1 1 [.string x] rf (Blk.new _ _ _) rfl AaC aa aa aa AdA ?_));intro g1 C w2 D G _ _;have K:Hid (w2.ownsRow (w.heap.size+1) 9 1 (.slice (γ (aM g1 0)) (b+k+1) C) (b+(k+1)) ((nms s b (k+1) 0 0).map Value.string)):=aW AcK;have W:=aW (gu G (H.alloc _) (fun g' I=>by have:=(T.lt g' I).1;simp;omega));clear D G;go_wp2_with fail
   go_roundw
   case rel=>exact⟨k+1,aa,au,K.o,W.o⟩
   case measure=>exact aV
  .obtain rfl:l=k:=aa
   go_wp2_with fail
   go_loopw [11,13] (fun v i wr=>∃k:Nat,k<=g/\i=.int .i64 (k:Int)/\wr.ownsRow (w.heap.size+1) 9 1 v (b+l+k) ((nms s b l k 0).map Value.string)/\Ext (aL w #[nm,aO A0 n0 c0,aO A1 n1 c1,aO A2 n2 c2,aO A3 n3 c3] 27) wr) (fun _ i _=>g-(intOf i).toNat)
   case atStart=>exact⟨0,aa,rfl,T.o,H.o⟩
   case round=>
    clear T H;obtain⟨k,hk,rfl,F,J⟩:=hrel;have T:=aW F;have H:=aW J;have R:w.heap.size<wr.heap.size:=by have:=J.size;simp at this;omega
    have k2:=(U.ext J).cell;clear F J;by_cases Q:k<g
    .have hd:decide (k<g)=ε:=ae;obtain⟨lb,lo,Y,P,hc⟩:=(O.ext ((Ext.new _ _).trans H.o)).srcs.at_ (show k<n2 by omega);have M:Hid (nms s b l (k+1) 0=nms s b l k 0++[(s.srcs.getD k η).name]):=aW (VE (by have:=O.l2;omega));subst Y;have e0:wr.cell? (aM lb (lo+k*6))=γ (.string (s.srcs.getD k η).name):=hc 0 _ rfl;clear hc;generalize (s.srcs.getD k η).name=x at e0 M;(go_wp2_with (at_builtin;refine fu uy rfl (.tmp 40) (.tmp 47) rfl (w.heap.size+1) _ (b+l+k) _ rf (T.alloc _) wr.heap.size 1 1 [.string x] rf (Blk.new _ _ _) rfl AaC aa aa aa AdA ?_));intro g1 C w2 D G _ _;have K:Hid (w2.ownsRow (w.heap.size+1) 9 1 (.slice (γ (aM g1 0)) (b+l+k+1) C) (b+l+(k+1)) ((nms s b l (k+1) 0).map Value.string)):=aW AcK;have W:=aW (gu G (H.alloc _) (fun g' I=>by have:=(T.lt g' I).1;simp;omega));clear D G;go_wp2_with fail
     go_roundw
     case rel=>exact⟨k+1,aa,au,K.o,W.o⟩
     case measure=>exact aV
    .obtain rfl:g=k:=aa
     go_wp2_with fail
     go_loopw [11,14] (fun v i wr=>∃k:Nat,k<=q/\i=.int .i64 (k:Int)/\wr.ownsRow (w.heap.size+1) 9 1 v (b+l+g+k) ((nms s b l g k).map Value.string)/\Ext (aL w #[nm,aO A0 n0 c0,aO A1 n1 c1,aO A2 n2 c2,aO A3 n3 c3] 27) wr) (fun _ i _=>q-(intOf i).toNat)
     case atStart=>exact⟨0,aa,rfl,T.o,H.o⟩
     case round=>
      clear T H;obtain⟨k,hk,rfl,F,J⟩:=hrel;have T:=aW F;have H:=aW J;have R:w.heap.size<wr.heap.size:=by have:=J.size;simp at this;omega
      have k2:=(U.ext J).cell;clear F J;by_cases Q:k<q
      .have hd:decide (k<q)=ε:=ae;obtain⟨lb,lo,Y,P,hc⟩:=(O.ext ((Ext.new _ _).trans H.o)).bays.at_ (show k<n3 by omega);have M:Hid (nms s b l g (k+1)=nms s b l g k++[(s.bays.getD k η).name]):=aW (VU (by have:=O.l3;omega));subst Y;have e0:wr.cell? (aM lb (lo+k*12))=γ (.string (s.bays.getD k η).name):=hc 0 _ rfl;clear hc;generalize (s.bays.getD k η).name=x at e0 M;(go_wp2_with (at_builtin;refine fu uy rfl (.tmp 54) (.tmp 61) rfl (w.heap.size+1) _ (b+l+g+k) _ rf (T.alloc _) wr.heap.size 1 1 [.string x] rf (Blk.new _ _ _) rfl AaC aa aa aa AdA ?_));intro g1 C w2 D G _ _;have K:Hid (w2.ownsRow (w.heap.size+1) 9 1 (.slice (γ (aM g1 0)) (b+l+g+k+1) C) (b+l+g+(k+1)) ((nms s b l g (k+1)).map Value.string)):=aW AcK;have W:=aW (gu G (H.alloc _) (fun g' I=>by have:=(T.lt g' I).1;simp;omega));clear D G;go_wp2_with fail
       go_roundw
       case rel=>exact⟨k+1,aa,au,K.o,W.o⟩
       case measure=>exact aV
      .obtain rfl:q=k:=aa;go_wp2_with fail;obtain⟨A,c,rfl,hc,hr⟩:=ags T.o;go_wp2;go_ret;exact⟨A,c,rfl,hr,(Ext.new _ _).trans H.o⟩
def Arr.bay{w:World}{A:Option Addr}{n i:Nat}{f:Nat->iA}{g:Nat->Hd}(h:Arr w A n 12 (fun i=>ji (f i) (g i)))(hi:i<n):
  ∃lb lo,A=γ ⟨lb,lo,δ⟩/\lb<w.heap.size/\w.cell? (aM lb (lo+i*12))=γ (.string (f i).name)/\w.cell? (aM lb (lo+i*12+1))=γ (.int .i64 (f i).kind)/\w.cell? (aM lb (lo+i*12+2))=γ (.int .i64 (f i).obj)/\w.cell? (aM lb (lo+i*12+3))=γ (.int .i64 (f i).en)/\w.cell? (aM lb (lo+i*12+4))=γ (.int .i64 (f i).z.r)/\w.cell? (aM lb (lo+i*12+5))=γ (.int .i64 (f i).z.x)/\w.cell? (aM lb (lo+i*12+6))=γ (.slice (g i).A (g i).n (g i).c)/\w.cell? (aM lb (lo+i*12+7))=γ (.bool (f i).closed)/\w.cell? (aM lb (lo+i*12+8))=γ (.int .i64 (f i).ct)/\w.cell? (aM lb (lo+i*12+9))=γ (.int .i64 (f i).vt)/\w.cell? (aM lb (lo+i*12+10))=γ (.int .i64 (f i).sat)/\w.cell? (aM lb (lo+i*12+11))=γ (.int .i64 (f i).travel):=by
 obtain⟨lb,lo,j,hb,hc⟩:=h.at_ hi;exact⟨lb,lo,j,hb,hc 0 _ rfl,hc 1 _ rfl,hc 2 _ rfl,hc 3 _ rfl,hc 4 _ rfl,hc 5 _ rfl,hc 6 _ rfl,hc 7 _ rfl,hc 8 _ rfl,hc 9 _ rfl,hc 10 _ rfl,hc 11 _ rfl⟩
def Hf{α:Type}[Inhabited α]{p:α->Bool}{l:List α}:∀{k:Nat},k<=l.length->(∀j,j<k->p (l.getD j η)=ζ)->(l.take k).any p=ζ
 |0,_,_=>ag
 |k+1,hk,h=>by
  rw[kY aa,List.any_append,Hf aa (fun j B=>h j aa)];simp[-List.getD_eq_getElem?_getD,h k aa]
def any_some{α:Type}[Inhabited α]{p:α->Bool}{l:List α}{k i}(j:k<i)(hi:i<=l.length)(h:p (l.getD k η)=ε):(l.take i).any p=ε:=by
 rw[List.any_eq_true];refine⟨l.getD k η,?_,h⟩;rw[π,ν aa];rw[List.mem_take_iff_getElem];exact⟨k,aa,rfl⟩
theorem rO{x y}(h:x.kind≠y.kind\/x.obj≠y.obj\/x.en≠y.en):mQ x y=ζ:=by
 unfold mQ;rcases h with h|h|h<;>simp[h]
theorem Et{x y}(B:x.kind=y.kind)(j:x.obj=y.obj)(C:x.en=y.en):mQ x y=ε:=by
 unfold mQ;simp[B,j,C]
theorem Hq(nm){A0 n0 c0 A1 n1 c1 A2 n2 c2 A3 n3 c3 L s}(w)(hs:lI w A0 n0 c0 A1 n1 c1 A2 n2 c2 A3 n3 c3 L s)(i)(hi:i<n3):
  CE 68 #[stV nm A0 n0 c0 A1 n1 c1 A2 n2 c2 A3 n3 c3,(i:Int)] w (.int .i64 (tZ s i)):=by
 have S:=hs.l1;have YW:=hs.l2;have YH:=hs.l3;have YR:=hs.mx;have Zq:s.buses.length=n0:=hs.buses.len;have G:=hs.links i hi;have P:Hid (tZ s i=if jK n1 n2 (s.bays.getD i η)=0 then
  (if dA (s.bays.getD i η)=ε then (if oM (s.bays.take i) (s.bays.getD i η)=ε then 12 else iM n0 (s.bays.getD i η)) else 2)
 else jK n1 n2 (s.bays.getD i η)):=aW (by rw[<-S,<-YW,<-Zq];rfl)
 have HS:=aW hs;have Z:=aW YH;obtain⟨m0,m1,m2,m3⟩:=YR;clear S YW YH Zq;obtain⟨lb,lo,I,hb,e0,e1,e2,e3,e4,e5,e6,e7,e8,e9,Yx,YE⟩:=hs.bays.bay hi;have HA:=aW I;rw[I];clear hs I;revert e0 e1 e2 e3 e4 e5 e6 e7 e8 e9 Yx YE P G;generalize Y:s.bays.getD i η=b;generalize L i=h;intro G P e0 e1 e2 e3 e4 e5 e6 e7 e8 e9 Yx YE;have Zc:=aW Y;have M:=aW G;clear Y G;obtain⟨E0,B2,B3⟩:=an2 w 27 #[nm,aO A0 n0 c0,aO A1 n1 c1,aO A2 n2 c2,aO (γ (aM lb lo)) n3 c3] 57 #[b.name,b.kind,b.obj,b.en,b.z.r,b.z.x,aO h.A h.n h.c,b.closed,b.ct,b.vt,b.sat,b.travel];have U:=aW B2;have H:=aW B3;have D:=aW E0;clear B2 B3 E0;unfold stV;generalize ho:jK n1 n2 b=B at P;have T:=aW ho;clear ho;by_cases h0:B=0
 rotate_left
 .have q0:((B:Int) !=0)=ε:=by simp;exact h0
  have V:Hid (tZ s i=B):=aW (by rw[P.o,θ h0]);clear h0;go_enter adh,ac4;go_wp2_with fail;refine(qO nm A0 n0 c0 A1 n1 c1 A2 n2 c2 _ n3 c3 b h.A h.n h.c _).mono ?_;rintro e w1 ⟨rfl,J⟩;rw[T.o];go_wp2_with fail;go_ret;exact⟨aZ V.symm,D.trans J⟩
 subst h0;cases W:dA b
 .have V:Hid (tZ s i=2):=aW (by rw[P.o,ι rfl,θ (by rw[W];decide)]);have Q:=aW W;clear W;go_enter adh,ac4;go_wp2_with fail;refine(qO nm A0 n0 c0 A1 n1 c1 A2 n2 c2 _ n3 c3 b h.A h.n h.c _).mono ?_;rintro e w1 ⟨rfl,J⟩;rw[T.o];have k3:=(H.ext J).cell;have C:=aW (D.trans J);clear J;go_wp2_with fail;refine(uC b h.A h.n h.c _).mono ?_;rintro e w2 ⟨rfl,J⟩;rw[Q.o];go_wp2_with fail;go_ret;exact⟨aZ V.symm,C.trans J⟩
 have Q:=aW W;have V:Hid (tZ s i=if oM (s.bays.take i) b=ε then 12 else iM n0 b):=aW (by rw[P.o,ι rfl,ι W]);clear W P;by_cases F:b.kind=3
 .have q3:((b.kind:Int) !=3)=ζ:=by simp[F]
  have ac:Hid (tZ s i=iM n0 b):=aW (by rw[V.o,θ (by simp[oM,F])]);clear F;go_enter adh,ac4;go_wp2_with fail;refine(qO nm A0 n0 c0 A1 n1 c1 A2 n2 c2 _ n3 c3 b h.A h.n h.c _).mono ?_;rintro e w1 ⟨rfl,J⟩;rw[T.o];have k3:=(H.ext J).cell;have C:=aW J;clear J;go_wp2_with fail;refine(uC b h.A h.n h.c _).mono ?_;rintro e w2 ⟨rfl,J⟩;rw[Q.o];replace C:=C.aC J;have k3:=(H.ext C.o).cell;have k2:=(U.ext C.o).cell;clear J;go_wp2_with fail;refine wp_loop_rounds 1 ?_;rw[rounds_succ];by_cases O:0<i
  .have d0:decide (0<i)=ε:=ae;exact AaQ
  .have d0:decide (0<i)=ζ:=ae;exact AaQ
 .have q3:((b.kind:Int) !=3)=ε:=by simp;exact F
  have ZA:=aW F;clear F;go_enter adh,ac4;go_wp2_with fail;refine(qO nm A0 n0 c0 A1 n1 c1 A2 n2 c2 _ n3 c3 b h.A h.n h.c _).mono ?_;rintro e w1 ⟨rfl,J⟩;rw[T.o];have k3:=(H.ext J).cell;have C:=aW J;clear J;go_wp2_with fail;refine(uC b h.A h.n h.c _).mono ?_;rintro e w2 ⟨rfl,J⟩;rw[Q.o];replace C:=C.aC J;clear J k3;go_wp2_with fail
  go_loopw [7] (fun j wr=>∃k:Nat,k<=i/\j=.int .i64 (k:Int)/\(∀j,j<k->mQ b (s.bays.getD j η)=ζ)/\Ext (aL (aL w #[nm,aO A0 n0 c0,aO A1 n1 c1,aO A2 n2 c2,aO (γ (aM lb lo)) n3 c3] 27) #[b.name,b.kind,b.obj,b.en,b.z.r,b.z.x,aO h.A h.n h.c,b.closed,b.ct,b.vt,b.sat,b.travel] 57) wr) (aT i)
  case atStart=>exact⟨0,aa,rfl,by intros;omega,C.o⟩
  case round=>
   clear C;obtain⟨k,hk,rfl,hz,J⟩:=hrel;have HZ:=aW hz;have C:=aW J;have k2:=(U.ext J).cell;have k3:=(H.ext J).cell;clear hz J;by_cases Yu:k<i
   .have d0:decide (k<i)=ε:=ae;obtain⟨K,N,I,YT,f0,f1,f2,f3,_⟩:=(HS.ext (D.trans C.o)).bays.bay (show k<n3 by omega);rw[HA.o] at I;simp only[aax,acg,ac3] at I;obtain⟨rfl,rfl⟩:=I;clear f0;generalize R:s.bays.getD k η=y at f1 f2 f3;have HY:=aW R;clear R;have F:k<n3:=aa;by_cases g1:y.kind=b.kind
    .have t1:((y.kind:Int)==b.kind)=ε:=by simp;exact g1
     by_cases g2:y.obj=b.obj
     .have t2:((y.obj:Int)==b.obj)=ε:=by simp;exact g2
      by_cases g3:y.en=b.en
      .have t3:((y.en:Int)==b.en)=ε:=by simp;exact g3
       have HC:Hid (oM (s.bays.take i) b=ε):=aW (by
        unfold oM;rw[any_some Yu AcD (by rw[HY.o];exact Et g1.symm g2.symm g3.symm),Λ ZA.o];rfl)
       clear g1 g2 g3;go_wp2_with fail;go_quiet (fail);go_wp2_with fail;go_ret;exact⟨aZ (by rw[V.o,ι HC.o]),(D.trans C.o).drewN _⟩
      .have t3:((y.en:Int)==b.en)=ζ:=by simp;exact g3
       have HN:Hid (mQ b (s.bays.getD k η)=ζ):=aW (by rw[HY.o];exact rO (.inr (.inr (fun e=>g3 e.symm))));clear g1 g2 g3;go_wp2_with fail;go_quiet (fail);go_wp2_with fail
       go_roundw
       case rel=>exact⟨k+1,aa,au,(fun j hj=>by
        by_cases e:j=k
        .rw[e];exact HN.o
        .exact HZ.o j aa),C.drewN _⟩
       case measure=>exact aV
     .have t2:((y.obj:Int)==b.obj)=ζ:=by simp;exact g2
      have HN:Hid (mQ b (s.bays.getD k η)=ζ):=aW (by rw[HY.o];exact rO (.inr (.inl (fun e=>g2 e.symm))));clear g1 g2;go_wp2_with fail;go_quiet (fail);go_wp2_with fail
      go_roundw
      case rel=>exact⟨k+1,aa,au,(fun j hj=>by
       by_cases e:j=k
       .rw[e];exact HN.o
       .exact HZ.o j aa),C.drewN _⟩
      case measure=>exact aV
    .have t1:((y.kind:Int)==b.kind)=ζ:=by simp;exact g1
     have HN:Hid (mQ b (s.bays.getD k η)=ζ):=aW (by rw[HY.o];exact rO (.inl (fun e=>g1 e.symm)));clear g1;go_wp2_with fail;go_quiet (fail);go_wp2_with fail
     go_roundw
     case rel=>exact⟨k+1,aa,au,(fun j hj=>by
      by_cases e:j=k
      .rw[e];exact HN.o
      .exact HZ.o j aa),C.drewN _⟩
     case measure=>exact aV
   .obtain rfl:i=k:=aa;have HC:Hid (tZ s i=iM n0 b):=aW (by rw[V.o,θ (by unfold oM;rw[Hf AcD HZ.o];simp)]);go_wp2_with fail;refine(xg nm A0 n0 c0 A1 n1 c1 A2 n2 c2 _ n3 c3 b h.A h.n h.c _ (M.ext (D.trans C.o))).mono ?_;rintro e w3 ⟨rfl,J⟩;go_wp2_with fail;go_ret;exact⟨aZ HC.symm,(D.trans C.o).trans J⟩
def ym(nm){A0 n0 c0 A1 n1 c1 A2 n2 c2 A3 n3 c3 L s}(w)(hs:lI w A0 n0 c0 A1 n1 c1 A2 n2 c2 A3 n3 c3 L s)(b l g q n)(hb:b<=n0)(Z:l<=n1)(j:g<=n2)(hq:q<=n3)(hn:b+l+g+q=n):
  Calls prog 65 #[stV nm A0 n0 c0 A1 n1 c1 A2 n2 c2 A3 n3 c3,(b:Int),(l:Int),(g:Int),(q:Int)] w
   fun e w'=>∃A c,e=.returned (.slice A n c)/\Strs w' A n (nms s b l g q)/\Ext w w':=by
 subst hn;exact Ld nm w hs b l g q hb Z j hq
def Strs.getD{w A n k}{l:List ByteArray}(h:Strs w A n l)(B:k<n):∃j,A=γ j/\j.block<w.heap.size/\w.cell? (j.add k)=γ (.string (l.getD k η)):=by
 obtain⟨j,x,e,hb,J,hc⟩:=h.at_ B;refine⟨j,e,hb,?_⟩;rw[π,J];exact hc
theorem RF{s}(j:ik s.name=ε)(B:tX s=ε):chk s=(if dX (wG s) s.buses.length=0 then
    if dX (mP s) s.lines.length=0 then
     if dX (uO s) s.srcs.length=0 then dX (wP s) s.bays.length
     else dX (uO s) s.srcs.length
    else dX (mP s) s.lines.length
   else dX (wG s) s.buses.length):=by
 unfold chk;rw[ι j,ι B]
theorem VM{s}(h:ik s.name=ζ):chk s=7:=by unfold chk;rw[θ (by rw[h];decide)]
theorem VJ{s}(j:ik s.name=ε)(B:tX s=ζ):chk s=3:=by unfold chk;rw[ι j,θ (by rw[B];decide)]
theorem zM{A0 n0 c0 A1 n1 c1 A2 n2 c2 A3 n3 c3 L s}(w)(hs:lI w A0 n0 c0 A1 n1 c1 A2 n2 c2 A3 n3 c3 L s):
  CE 31 #[stV s.name A0 n0 c0 A1 n1 c1 A2 n2 c2 A3 n3 c3] w (.int .i64 (chk s)):=by
 have F:∀w:World,Calls prog 63 #[s.name] w fun e w'=>e=.returned (.bool (ik s.name))/\w=w':=fun w=>(EK s.name w).mono (fun e w' hh=>⟨hh.1,hh.2.symm⟩);have G:s.buses.length=n0:=hs.buses.len;have S:=hs.l1;have YW:=hs.l2;have YH:=hs.l3;have YR:=hs.mx;obtain⟨m0,m1,m2,m3⟩:=YR;have HS:=aW hs;clear hs;have YJ:=aW G;have T:=aW S;have Yy:=aW YW;have Z:=aW YH;unfold stV;cases hn:ik s.name
 .have V:Hid (chk s=7):=aW (VM hn);clear G S YW YH;go_enter aeE,adK;(go_wp2_with (first|(go_at_call 63;refine(F _).mono ?_;rintro e w1 ⟨rfl,rfl⟩)));go_ret;exact⟨aZ V.symm,Ext.new _ _⟩
 cases hc:tX s
 .have V:Hid (chk s=3):=aW (VJ hn hc);have Za:¬(1<=n0/\n0<=4/\n1<=6/\n2<=4/\n3<=16):=by
   exact Ada
  clear G S YW YH hc;have HC:=aW Za;clear Za;by_cases U:n0<1
  .have d0:decide ((n0:Int)<1)=ε:=ae;clear U;exact Aar
  have d0:decide ((n0:Int)<1)=ζ:=ae;by_cases t1:4<n0
  .have d1:decide ((4:Int)<n0)=ε:=ae;clear t1;exact Aar
  have d1:decide ((4:Int)<n0)=ζ:=ae;by_cases t2:6<n1
  .have d2:decide ((6:Int)<n1)=ε:=ae;clear t2;exact Aar
  have d2:decide ((6:Int)<n1)=ζ:=ae;by_cases t3:4<n2
  .have d3:decide ((4:Int)<n2)=ε:=ae;clear t3;exact Aar
  have d3:decide ((4:Int)<n2)=ζ:=ae;by_cases t4:16<n3
  .have d4:decide ((16:Int)<n3)=ε:=ae;clear t4;exact Aar
  exact Ado
 have V:=aW (RF hn hc);have YV:1<=n0/\n0<=4/\n1<=6/\n2<=4/\n3<=16:=by
  unfold tX at hc;rw[G,S,YW,YH] at hc;simp at hc;omega
 obtain⟨g0,O,g1,g2,g3⟩:=YV;clear hc;rw[G,S,YW,YH] at V;clear G S YW YH;have d0:decide ((n0:Int)<1)=ζ:=ae;have d1:decide ((4:Int)<n0)=ζ:=ae;have d2:decide ((6:Int)<n1)=ζ:=ae;have d3:decide ((4:Int)<n2)=ζ:=ae;have d4:decide ((16:Int)<n3)=ζ:=ae;obtain⟨-,B1⟩:=an1 w 27 #[s.name,aO A0 n0 c0,aO A1 n1 c1,aO A2 n2 c2,aO A3 n3 c3];have Yw:=aW B1;clear B1;have D:Hid (Ext w (aL w #[s.name,aO A0 n0 c0,aO A1 n1 c1,aO A2 n2 c2,aO A3 n3 c3] 27)):=aW (Ext.new _ _);go_enter aeE,adK;(go_wp2_with (first|(go_at_call 63;refine(F _).mono ?_;rintro e w1 ⟨rfl,rfl⟩)));go_quiet (fail);go_wp2_with fail;clear d0 d1 d2 d3 d4 F;have H:Hid (Ext (aL w #[s.name,aO A0 n0 c0,aO A1 n1 c1,aO A2 n2 c2,aO A3 n3 c3] 27) ((w.alloc (.cells #[s.name,aO A0 n0 c0,aO A1 n1 c1,aO A2 n2 c2,aO A3 n3 c3] 27)).drewN nq)):=aW ((Ext.refl _).drewN _);go_loopw [7] (fun i wr=>∃k:Nat,k<=n0/\i=.int .i64 (k:Int)/\(∀j,j<k->wG s j=0)/\Ext (aL w #[s.name,aO A0 n0 c0,aO A1 n1 c1,aO A2 n2 c2,aO A3 n3 c3] 27) wr) (aT n0)
 case atStart=>exact⟨0,aa,rfl,by intros;omega,H.o⟩
 case round=>
  clear H;obtain⟨k,hk,rfl,hz,J⟩:=hrel;have YS:=aW hz;have H:=aW J;have YY:w.heap.size<wr.heap.size:=by have:=J.size;simp at this;omega
  have C:=(Yw.ext J).cell;clear hz J;by_cases Yu:k<n0
  .have hd:decide (k<n0)=ε:=ae;have R:=aW (HS.ext (D.trans H.o));obtain⟨ad,hA,hb,e0⟩:=R.buses.getD Yu;have M:Hid (wG s k=eH (nms s k 0 0 0) (s.buses.getD k η)):=aW rfl;generalize s.buses.getD k η=x at e0 M;subst hA;generalize Yx:eH (nms s k 0 0 0) x=ne at M;have YX:=aW Yx;clear Yx;have Y1:=aX.blk (Yw.ext H.o);have Y2:=fun x:aX wr=>aX.cell e0 x;go_wp2_with fail;refine bO 9 [(ε,0),(ε,1),(ε,3),(ε,4),(ε,5),(ε,6),(ε,7),(ζ,2),(ζ,8)] ah ah ?_;refine bD [0,1,3,4,5,6,7] [(ζ,2),(ζ,8)] _ ah ?_;refine Gq ?_;refine bC 2 [(ζ,8)] ah ?_;intro K I;simp only[bJ];go_wp2_with fail;refine(ym s.name _ (R.ext ((Ext.refl wr).drew)) k 0 0 0 k (show k<=n0 by omega) (q9 _) (q9 _) (q9 _) rfl).mono ?_;rintro e w2 ⟨A,c,rfl,hr,J⟩;have Q:=aW hr;have P:=((Ext.refl wr).drew).trans J;have W:=aW P;clear J hr;go_wp2_with fail;refine I _ _ ⟨⟨w2,P⟩,rfl⟩ ?_;clear I K P;refine bC 8 [] ah ?_;intro K I;simp only[bJ];go_wp2_with fail;refine(sO x _ _ _ _ _ Q.o aa).mono ?_;rintro e w3 ⟨rfl,rfl⟩;rw[YX.o];go_wp2_with fail;refine I _ _ ⟨⟨w2,W.o⟩,rfl⟩ ?_;clear I K Y1 Y2;simp only[dh,ξ,τ];have C:=(Yw.ext (H.trans W.o)).cell;by_cases N:ne=0
   rotate_left
   .have q0:((ne:Int) !=0)=ε:=by simp;exact N
    have q1:((ne:Int)==0)=ζ:=by simp;exact N
    have Y:Hid (wG s k=ne):=M;have HV:=aW N;clear N;go_wp2_with fail;go_ret;exact⟨aZ (by
     have h:=dO YS.o Y.o HV.o Yu;rw[V.o];skip
     first|exact h|(rw[θ AbZ];exact h)),(D.trans H.o).trans W.o⟩
   subst N;have Y:Hid (wG s k=0):=M;go_wp2_with fail
   go_roundw
   case rel=>exact⟨k+1,aa,au,gX YS.o Y.o,H.trans W.o⟩
   case measure=>exact aV
  .obtain rfl:n0=k:=aa;clear Yu YY C;go_wp2_with fail
   go_loopw [9] (fun i wr=>∃k:Nat,k<=n1/\i=.int .i64 (k:Int)/\(∀j,j<k->mP s j=0)/\Ext (aL w #[s.name,aO A0 n0 c0,aO A1 n1 c1,aO A2 n2 c2,aO A3 n3 c3] 27) wr) (aT n1)
   case atStart=>exact⟨0,aa,rfl,by intros;omega,H.o⟩
   case round=>
    clear H;obtain⟨k,hk,rfl,hz,J⟩:=hrel;have YU:=aW hz;have H:=aW J;have YY:w.heap.size<wr.heap.size:=by have:=J.size;simp at this;omega
    have C:=(Yw.ext J).cell;clear hz J;by_cases Yu:k<n1
    .have hd:decide (k<n1)=ε:=ae;have R:=aW (HS.ext (D.trans H.o));obtain⟨lb,lo,hA,hb,hc⟩:=R.lines.at_ Yu;have e0:wr.cell? (aM lb (lo+k*5))=γ (.string (s.lines.getD k η).name):=hc 0 _ rfl;have e1:=hc 1 _ rfl;have e2:=hc 2 _ rfl;have e3:=hc 3 _ rfl;have e4:=hc 4 _ rfl;clear hc;have M:Hid (mP s k=if eH (nms s n0 k 0 0) (s.lines.getD k η).name=0 then (if (okZ (s.lines.getD k η).z1&&okZ (s.lines.getD k η).z0)=ε then 0 else 2) else eH (nms s n0 k 0 0) (s.lines.getD k η).name):=aW (by rw[<-YJ.o];rfl);generalize s.lines.getD k η=x at e0 e1 e2 e3 e4 M;subst hA;generalize Yx:eH (nms s n0 k 0 0) x.name=ne at M;have YX:=aW Yx;clear Yx;have Y1:=aX.blk (Yw.ext H.o);have Y2:=fun x:aX wr=>aX.cell e0 x;go_wp2_with fail;refine bO 11 [(ε,0),(ε,1),(ε,2),(ε,4),(ε,5),(ε,6),(ε,7),(ε,8),(ε,9),(ζ,3),(ζ,10)] ah ah ?_;refine bD [0,1,2,4,5,6,7,8,9] [(ζ,3),(ζ,10)] _ ah ?_;refine Gq ?_;refine bC 3 [(ζ,10)] ah ?_;intro K I;simp only[bJ];go_wp2_with fail;refine(ym s.name _ (R.ext ((Ext.refl wr).drew)) n0 k 0 0 (n0+k) (κ _) (show k<=n1 by omega) (q9 _) (q9 _) rfl).mono ?_;rintro e w2 ⟨A,c,rfl,hr,J⟩;have Q:=aW hr;have P:=((Ext.refl wr).drew).trans J;have W:=aW P;clear J hr;go_wp2_with fail;refine I _ _ ⟨⟨w2,P⟩,rfl⟩ ?_;clear I K P;refine bC 10 [] ah ?_;intro K I;simp only[bJ];go_wp2_with fail;refine(sO x.name _ _ _ _ _ Q.o aa).mono ?_;rintro e w3 ⟨rfl,rfl⟩;rw[YX.o];go_wp2_with fail;refine I _ _ ⟨⟨w2,W.o⟩,rfl⟩ ?_;clear I K Y1 Y2;simp only[dh,ξ,τ];have C:=(Yw.ext (H.trans W.o)).cell;by_cases N:ne=0
     rotate_left
     .have q0:((ne:Int) !=0)=ε:=by simp;exact N
      have q1:((ne:Int)==0)=ζ:=by simp;exact N
      have Y:Hid (mP s k=ne):=aW (by rw[M.o,θ N]);have HV:=aW N;clear N;go_wp2_with fail;go_ret;exact⟨aZ (by
       have h:=dO YU.o Y.o HV.o Yu;rw[V.o];rw[ι (dI YS.o)]
       first|exact h|(rw[θ AbZ];exact h)),(D.trans H.o).trans W.o⟩
     subst N;generalize YK:okZ x.z1=z1 at M;generalize YP:okZ x.z0=z0 at M;have YD:=aW YK;have B:=aW YP;clear YK YP;have YI:lb<w2.heap.size:=ο hb W.size;have ZU:w.heap.size<w2.heap.size:=ο YY W.size;replace e0:=W.cell_ e0;replace e1:=W.cell_ e1;replace e2:=W.cell_ e2;replace e3:=W.cell_ e3;replace e4:=W.cell_ e4;cases z1
     .have Y:Hid (mP s k=2):=aW AcL;have HV:Hid ((2:Int)≠0):=aW aj;go_wp2_with fail;refine(bW x.z1 _).mono ?_;rintro e w4 ⟨rfl,rfl⟩;rw[YD.o];go_wp2_with fail;go_ret;exact⟨aZ (by
       have h:=dO YU.o Y.o HV.o Yu;rw[V.o];rw[ι (dI YS.o)]
       first|exact h|(rw[θ AbZ];exact h)),(D.trans H.o).trans (W.alloc _)⟩
     cases z0
     .have Y:Hid (mP s k=2):=aW AcL;have HV:Hid ((2:Int)≠0):=aW aj;go_wp2_with fail;refine(bW x.z1 _).mono ?_;rintro e w4 ⟨rfl,rfl⟩;rw[YD.o];go_wp2_with fail;refine(bW x.z0 _).mono ?_;rintro e w5 ⟨rfl,rfl⟩;rw[B.o];go_wp2_with fail;go_ret;exact⟨aZ (by
       have h:=dO YU.o Y.o HV.o Yu;rw[V.o];rw[ι (dI YS.o)]
       first|exact h|(rw[θ AbZ];exact h)),(D.trans H.o).trans ((W.alloc _).alloc _)⟩
     have Y:Hid (mP s k=0):=aW AcL;go_wp2_with fail;refine(bW x.z1 _).mono ?_;rintro e w4 ⟨rfl,rfl⟩;rw[YD.o];go_wp2_with fail;refine(bW x.z0 _).mono ?_;rintro e w5 ⟨rfl,rfl⟩;rw[B.o];go_wp2_with fail
     go_roundw
     case rel=>exact⟨k+1,aa,au,gX YU.o Y.o,H.trans ((W.alloc _).alloc _)⟩
     case measure=>exact aV
    .obtain rfl:n1=k:=aa;clear Yu YY C;go_wp2_with fail
     go_loopw [11] (fun i wr=>∃k:Nat,k<=n2/\i=.int .i64 (k:Int)/\(∀j,j<k->uO s j=0)/\Ext (aL w #[s.name,aO A0 n0 c0,aO A1 n1 c1,aO A2 n2 c2,aO A3 n3 c3] 27) wr) (aT n2)
     case atStart=>exact⟨0,aa,rfl,by intros;omega,H.o⟩
     case round=>
      clear H;obtain⟨k,hk,rfl,hz,J⟩:=hrel;have Zi:=aW hz;have H:=aW J;have YY:w.heap.size<wr.heap.size:=by have:=J.size;simp at this;omega
      have C:=(Yw.ext J).cell;clear hz J;by_cases Yu:k<n2
      .have hd:decide (k<n2)=ε:=ae;have R:=aW (HS.ext (D.trans H.o));obtain⟨lb,lo,hA,hb,hc⟩:=R.srcs.at_ Yu;have e0:wr.cell? (aM lb (lo+k*6))=γ (.string (s.srcs.getD k η).name):=hc 0 _ rfl;have e1:=hc 1 _ rfl;have e2:=hc 2 _ rfl;have e3:=hc 3 _ rfl;have e4:=hc 4 _ rfl;have e5:=hc 5 _ rfl;clear hc;have M:Hid (uO s k=if eH (nms s n0 n1 k 0) (s.srcs.getD k η).name=0 then (if ky (s.srcs.getD k η)=ε then 0 else 2) else eH (nms s n0 n1 k 0) (s.srcs.getD k η).name):=aW (by rw[<-YJ.o,<-T.o];rfl);generalize s.srcs.getD k η=x at e0 e1 e2 e3 e4 e5 M;subst hA;generalize Yx:eH (nms s n0 n1 k 0) x.name=ne at M;have YX:=aW Yx;clear Yx;have Y1:=aX.blk (Yw.ext H.o);have Y2:=fun x:aX wr=>aX.cell e0 x;go_wp2_with fail;refine bO 12 [(ε,0),(ε,1),(ε,2),(ε,3),(ε,5),(ε,6),(ε,7),(ε,8),(ε,9),(ε,10),(ζ,4),(ζ,11)] ah ah ?_;refine bD [0,1,2,3,5,6,7,8,9,10] [(ζ,4),(ζ,11)] _ ah ?_;refine Gq ?_;refine bC 4 [(ζ,11)] ah ?_;intro K I;simp only[bJ];go_wp2_with fail;refine(ym s.name _ (R.ext ((Ext.refl wr).drew)) n0 n1 k 0 (n0+n1+k) (κ _) (κ _) (show k<=n2 by omega) (q9 _) rfl).mono ?_;rintro e w2 ⟨A,c,rfl,hr,J⟩;have Q:=aW hr;have P:=((Ext.refl wr).drew).trans J;have W:=aW P;clear J hr;go_wp2_with fail;refine I _ _ ⟨⟨w2,P⟩,rfl⟩ ?_;clear I K P;refine bC 11 [] ah ?_;intro K I;simp only[bJ];go_wp2_with fail;refine(sO x.name _ _ _ _ _ Q.o aa).mono ?_;rintro e w3 ⟨rfl,rfl⟩;rw[YX.o];go_wp2_with fail;refine I _ _ ⟨⟨w2,W.o⟩,rfl⟩ ?_;clear I K Y1 Y2;simp only[dh,ξ,τ];have C:=(Yw.ext (H.trans W.o)).cell;by_cases N:ne=0
       rotate_left
       .have q0:((ne:Int) !=0)=ε:=by simp;exact N
        have q1:((ne:Int)==0)=ζ:=by simp;exact N
        have Y:Hid (uO s k=ne):=aW (by rw[M.o,θ N]);have HV:=aW N;clear N;go_wp2_with fail;go_ret;exact⟨aZ (by
         have h:=dO Zi.o Y.o HV.o Yu;rw[V.o];rw[ι (dI YS.o)];rw[ι (dI YU.o)]
         first|exact h|(rw[θ AbZ];exact h)),(D.trans H.o).trans W.o⟩
       subst N;generalize YK:ky x=z1 at M;have YD:=aW YK;clear YK;have YI:lb<w2.heap.size:=ο hb W.size;have ZU:w.heap.size<w2.heap.size:=ο YY W.size;replace e0:=W.cell_ e0;replace e1:=W.cell_ e1;replace e2:=W.cell_ e2;replace e3:=W.cell_ e3;replace e4:=W.cell_ e4;replace e5:=W.cell_ e5;cases z1
       .have Y:Hid (uO s k=2):=aW AcL;have HV:Hid ((2:Int)≠0):=aW aj;go_wp2_with fail;refine(zW x _).mono ?_;rintro e w4 ⟨rfl,J⟩;have YZ:=aW (W.trans J);clear J;rw[YD.o];go_wp2_with fail;go_ret;exact⟨aZ (by
         have h:=dO Zi.o Y.o HV.o Yu;rw[V.o];rw[ι (dI YS.o)];rw[ι (dI YU.o)]
         first|exact h|(rw[θ AbZ];exact h)),(D.trans H.o).trans YZ.o⟩
       have Y:Hid (uO s k=0):=aW AcL;go_wp2_with fail;refine(zW x _).mono ?_;rintro e w4 ⟨rfl,J⟩;have YZ:=aW (W.trans J);clear J;rw[YD.o];go_wp2_with fail
       go_roundw
       case rel=>exact⟨k+1,aa,au,gX Zi.o Y.o,H.trans YZ.o⟩
       case measure=>exact aV
      .obtain rfl:n2=k:=aa;clear Yu YY C;go_wp2_with fail
       go_loopw [13] (fun i wr=>∃k:Nat,k<=n3/\i=.int .i64 (k:Int)/\(∀j,j<k->wP s j=0)/\Ext (aL w #[s.name,aO A0 n0 c0,aO A1 n1 c1,aO A2 n2 c2,aO A3 n3 c3] 27) wr) (aT n3)
       case atStart=>exact⟨0,aa,rfl,by intros;omega,H.o⟩
       case round=>
        clear H;obtain⟨k,hk,rfl,hz,J⟩:=hrel;have Zd:=aW hz;have H:=aW J;have YY:w.heap.size<wr.heap.size:=by have:=J.size;simp at this;omega
        have C:=(Yw.ext J).cell;clear hz J;by_cases Yu:k<n3
        .have hd:decide (k<n3)=ε:=ae;have R:=aW (HS.ext (D.trans H.o));obtain⟨lb,lo,hA,hb,hc⟩:=R.bays.at_ Yu;have e0:wr.cell? (aM lb (lo+k*12))=γ (.string (s.bays.getD k η).name):=hc 0 _ rfl;clear hc;have M:Hid (wP s k=if eH (nms s n0 n1 n2 k) (s.bays.getD k η).name=0 then tZ s k else eH (nms s n0 n1 n2 k) (s.bays.getD k η).name):=aW (by rw[<-YJ.o,<-T.o,<-Yy.o];rfl);generalize s.bays.getD k η=x at e0 M;subst hA;generalize Yx:eH (nms s n0 n1 n2 k) x.name=ne at M;have YX:=aW Yx;clear Yx;have Y1:=aX.blk (Yw.ext H.o);have Y2:=fun x:aX wr=>aX.cell e0 x;go_wp2_with fail;refine bO 13 [(ε,0),(ε,1),(ε,2),(ε,3),(ε,4),(ε,6),(ε,7),(ε,8),(ε,9),(ε,10),(ε,11),(ζ,5),(ζ,12)] ah ah ?_;refine bD [0,1,2,3,4,6,7,8,9,10,11] [(ζ,5),(ζ,12)] _ ah ?_;refine Gq ?_;refine bC 5 [(ζ,12)] ah ?_;intro K I;simp only[bJ];go_wp2_with fail;refine(ym s.name _ (R.ext ((Ext.refl wr).drew)) n0 n1 n2 k (n0+n1+n2+k) (κ _) (κ _) (κ _) (show k<=n3 by omega) rfl).mono ?_;rintro e w2 ⟨A,c,rfl,hr,J⟩;have Q:=aW hr;have P:=((Ext.refl wr).drew).trans J;have W:=aW P;clear J hr;go_wp2_with fail;refine I _ _ ⟨⟨w2,P⟩,rfl⟩ ?_;clear I K P;refine bC 12 [] ah ?_;intro K I;simp only[bJ];go_wp2_with fail;refine(sO x.name _ _ _ _ _ Q.o aa).mono ?_;rintro e w3 ⟨rfl,rfl⟩;rw[YX.o];go_wp2_with fail;refine I _ _ ⟨⟨w2,W.o⟩,rfl⟩ ?_;clear I K Y1 Y2;simp only[dh,ξ,τ];have C:=(Yw.ext (H.trans W.o)).cell;by_cases N:ne=0
         rotate_left
         .have q0:((ne:Int) !=0)=ε:=by simp;exact N
          have q1:((ne:Int)==0)=ζ:=by simp;exact N
          have Y:Hid (wP s k=ne):=aW (by rw[M.o,θ N]);have HV:=aW N;clear N;go_wp2_with fail;go_ret;exact⟨aZ (by
           have h:=dO Zd.o Y.o HV.o Yu;rw[V.o];rw[ι (dI YS.o)];rw[ι (dI YU.o)];rw[ι (dI Zi.o)]
           first|exact h|(rw[θ AbZ];exact h)),(D.trans H.o).trans W.o⟩
         subst N;generalize YK:tZ s k=be at M;have YD:=aW YK;clear YK;by_cases YM:be=0
         .subst YM;have Y:Hid (wP s k=0):=aW AcL;go_wp2_with fail;refine(Hq s.name _ (R.ext W.o) k Yu).mono ?_;rintro e w4 ⟨rfl,J⟩;have YZ:=aW (W.trans J);clear J;rw[YD.o];go_wp2_with fail
          go_roundw
          case rel=>exact⟨k+1,aa,au,gX Zd.o Y.o,H.trans YZ.o⟩
          case measure=>exact aV
         .have q0:((be:Int) !=0)=ε:=by simp;exact YM
          have Y:Hid (wP s k=be):=aW AcL;have HV:=aW YM;clear YM;go_wp2_with fail;refine(Hq s.name _ (R.ext W.o) k Yu).mono ?_;rintro e w4 ⟨rfl,J⟩;have YZ:=aW (W.trans J);clear J;rw[YD.o];go_wp2_with fail;go_ret;exact⟨aZ (by
           have h:=dO Zd.o Y.o HV.o Yu;rw[V.o];rw[ι (dI YS.o)];rw[ι (dI YU.o)];rw[ι (dI Zi.o)]
           first|exact h|(rw[θ AbZ];exact h)),(D.trans H.o).trans YZ.o⟩
        .obtain rfl:n3=k:=aa;clear Yu YY C;go_wp2_with fail;go_ret;exact⟨aZ (by rw[V.o,ι (dI YS.o),ι (dI YU.o),ι (dI Zi.o),dI Zd.o]),D.trans H.o⟩
def val:List Nat->Nat
 |[]=>0
 |d::l=>d+4294967296*val l
def Dig (l:List Nat):Prop:=∀d∈l,d<4294967296
def ae9:Dig []:=by intro d h;cases h
def Dig.cons{d l}(hd:d<4294967296)(Z:Dig l):Dig (d::l):=by
 intro x J;cases J with
 |head=>exact hd
 |tail _ h=>exact Z x h
def Dig.head{d l}(h:Dig (d::l)):d<4294967296:=h d ag
def Dig.tail{d l}(h:Dig (d::l)):Dig l:=fun x J=>h x (by simp[J])
def Dig.append{a b}(ha:Dig a)(hb:Dig b):Dig (a++b):=by
 intro x J;rcases aae.1 J with h|h
 .exact ha x h
 .exact hb x h
def Dig.one{d}(h:d<4294967296):Dig [d]:=Dig.cons h ae9
def Dig.take{l}(h:Dig l)(k):Dig (l.take k):=fun x J=>h x (adp J)
def Dig.drop{l}(h:Dig l)(k):Dig (l.drop k):=fun x J=>h x (List.mem_of_mem_drop J)
def Dig.at_{l}(h:Dig l){k x:Nat}(J:l[k]? =γ x):x<4294967296:=h x (wo J)
def Dig.replicate(k):Dig (List.replicate k 0):=by
 intro x J;rw[List.mem_replicate] at J;omega
def Dig.set{l}(h:Dig l)(k){x}(J:x<4294967296):Dig (l.set k x):=by
 intro y R;rcases List.mem_or_eq_of_mem_set R with j|j
 .exact h y j
 .omega
def val_append(a b):val (a++b)=val a+4294967296^a.length*val b:=by
 induction a with
 |nil=>simp[val]
 |cons d l ih=>simp only[abN,val,ih,nV,wN,ω];rw[nH (4294967296^l.length) 4294967296,φ];omega
def rz(k):val (List.replicate k 0)=0:=by
 induction k with
 |zero=>rfl
 |succ k ih=>simp[aaJ,val,ih]
def kG(a x):val (a++[x])=val a+4294967296^a.length*x:=by rw[val_append];simp[val]
def bX{l:List Nat}{k x}(J:l[k]? =γ x):val (l.take (k+1))=val (l.take k)+4294967296^k*x:=by
 obtain⟨j,rfl⟩:=μ.1 J;rw[aaN j,kG];simp[aam (aah j)]
def kT{l k}(h:l.length<=k):val (l.take k)=val l:=by rw[χ h]
def vT{l:List Nat}{k}(h:l.length<=k):val (l.take (k+1))=val (l.take k):=by rw[kT h,kT aa]
def iE(l k)(j:k<=l.length):val l=val (l.take k)+4294967296^k*val (l.drop k):=by
 have:=val_append (l.take k) (l.drop k);rw[acj] at this;rw[this];simp[aam j]
def mW{l}(h:Dig l):val l<4294967296^l.length:=by
 induction l with
 |nil=>simp[val]
 |cons d l ih=>
  have j:=ih h.tail;have B:=h.head;simp only[val,nV,wN];omega
def qH{l k x y}(J:l[k]? =γ x):val (l.set k y)+4294967296^k*x=val l+4294967296^k*y:=by
 induction l generalizing k with
 |nil=>simp at J
 |cons d l ih=>
  cases k with
  |zero=>simp at J;subst J;simp[val];omega
  |succ k=>
   have:=ih (k:=k) (by simpa using J);simp only[De,val,wN];have e:∀z,4294967296^k*4294967296*z=4294967296*(4294967296^k*z):=fun z=>by rw[nH (4294967296^k) 4294967296,φ]
   rw[e,e];omega
def Canon (l:List Nat):Prop:=∀x,l.getLast? =γ x->x≠0
def afN:Canon []:=by intro x h;simp at h
def sZ{d l}(h:Canon (d::l)):Canon l:=by
 intro x J;cases l with
 |nil=>simp at J
 |cons e m=>exact h x (by rw[adc];exact J)
def NU{l}(h:Canon l)(Z:l≠[]):0<val l:=by
 induction l with
 |nil=>exact absurd rfl Z
 |cons d l ih=>
  cases l with
  |nil=>have:=h d ag;simp[val];omega
  |cons e m=>
   have:=ih (sZ h) ag;simp only[val] at this⊢;omega
def Kj{l}(h:Canon l)(Z:l≠[]):4294967296^(l.length-1)<=val l:=by
 induction l with
 |nil=>exact absurd rfl Z
 |cons d l ih=>
  cases l with
  |nil=>have:=h d ag;simp[val];omega
  |cons e m=>
   have:=ih (sZ h) ag;simp only[val,nV,Nat.add_sub_cancel] at this⊢;rw[wN];omega
def Tu{a b}(ha:Dig a)(hb:Dig b)(C:Canon a)(j:Canon b)(h:val a=val b):a=b:=by
 induction a generalizing b with
 |nil=>
  cases b with
  |nil=>rfl
  |cons d l=>have:=NU j ag;rw[<-h] at this;simp[val] at this
 |cons d l ih=>
  cases b with
  |nil=>have:=NU C ag;rw[h] at this;simp[val] at this
  |cons e m=>
   simp only[val] at h;have G:=ha.head;have F:=hb.head;have D:d=e:=aa;have B:val l=val m:=aa;rw[D,ih ha.tail hb.tail (sZ C) (sZ j) B]
def dF (n:Nat):List Nat:=if h:n=0 then [] else n%4294967296::dF (n/4294967296)
termination_by n
decreasing_by omega
def iZ:dF 0=[]:=by rw[dF];simp
def yl{n}(h:n≠0):dF n=n%4294967296::dF (n/4294967296):=by rw[dF];simp[h]
def bf(n):val (dF n)=n:=by
 induction n using Nat.strongRecOn with
 |_ n ih=>
  by_cases h:n=0
  .subst h;rw[iZ];rfl
  .rw[yl h];have:=ih (n/4294967296) aa;simp only[val,this];omega
def qx(n):Dig (dF n):=by
 induction n using Nat.strongRecOn with
 |_ n ih=>
  by_cases h:n=0
  .subst h;rw[iZ];exact ae9
  .rw[yl h];exact Dig.cons aa (ih (n/4294967296) aa)
def LZ{d l}(h:Canon l)(hd:l=[]->d≠0):Canon (d::l):=by
 intro x J;cases l with
 |nil=>simp at J;subst J;exact hd rfl
 |cons e m=>rw[adc] at J;exact h x J
def oz{n}:dF n=[]↔n=0:=by
 constructor
 .intro h;by_cases j:n=0
  .exact j
  .rw[yl j] at h;cases h
 .rintro rfl;exact iZ
def cK(n):Canon (dF n):=by
 induction n using Nat.strongRecOn with
 |_ n ih=>
  by_cases h:n=0
  .subst h;rw[iZ];exact afN
  .rw[yl h];refine LZ (ih (n/4294967296) aa) fun j=> ?_;have:=oz.1 j;omega
def Ho{l}(h:Dig l)(c:Canon l):dF (val l)=l:=Tu (qx _) h (cK _) c (bf _)
def jA (l:List Nat):Nat->Nat
 |0=>0
 |k+1=>if l.getD k 0=0 then jA l k else k+1
theorem Qn(l k):jA l k<=k:=by
 induction k with
 |zero=>simp[jA]
 |succ k ih=>unfold jA;split<;>omega
theorem Jm(l k):∀j,jA l k<=j->j<k->l.getD j 0=0:=by
 induction k with
 |zero=>intro j _ h;omega
 |succ k ih=>
  intro j B F;unfold jA at B;split at B
  .rename_i D
   by_cases C:j=k
   .subst C;exact D
   .exact ih j B aa
  .omega
theorem LJ(l k)(h:0<jA l k):l.getD (jA l k-1) 0≠0:=by
 induction k with
 |zero=>simp[jA] at h
 |succ k ih=>
  unfold jA at h⊢;split
  .rename_i j
   rw[ι j] at h;exact ih h
  .rename_i j
   simpa using j
def Qg{l}(h:∀j,j<l.length->l.getD j 0=0):l=List.replicate l.length 0:=by
 apply aal;intro i;by_cases hi:i<l.length
 .have:=h i hi;simp[hi] at this⊢;exact this
 .simp[Nat.not_lt.1 hi]
def MU{l}(h:Dig l):l.take (jA l l.length)=dF (val l):=by
 have B:=Qn l l.length;have F:l.drop (jA l l.length)=List.replicate (l.length-jA l l.length) 0:=by
  have:=Qg (l:=l.drop (jA l l.length)) (fun j C=>by
   have:=Jm l l.length (jA l l.length+j) aa (by simp at C;omega);simpa using this)
  simpa using this
 have hv:val l=val (l.take (jA l l.length)):=by
  have:=iE l _ B;rw[this,F,rz];simp
 rw[hv];refine(Ho (h.take _) fun x J=> ?_).symm;by_cases D:jA l l.length=0
 .rw[D] at J;simp at J
 .have:=LJ l l.length aa;rw[abW,Bn,aam B] at J;rw[PI aa] at J;simpa[List.getD,J] using this
def eQ{n k}(h:n<4294967296^k):(dF n).length<=k:=by
 by_cases B:dF n=[]
 .simp[B]
 .have:=Kj (cK n) B;rw[bf] at this;rcases Nq ((dF n).length-1) k with j|j
  .omega
  .have:=Ad (n:=4294967296) aa j;omega
def eG{n k}(h:(dF n).length<=k):n<4294967296^k:=by
 have:=mW (qx n);rw[bf] at this;exact ο this (Ad aa h)
def Yl{l n a b c}(hd:Dig l)(B:val l<4294967296^(n+3))(ha:l[n+2]? =γ a)(hb:l[n+1]? =γ b)(hc:l[n]? =γ c):
  ∃r,r<4294967296^n/\val l=(a*(4294967296*4294967296)+b*4294967296+c)*4294967296^n+r:=by
 have hn:n+2<l.length:=(μ.1 ha).1;have j:=iE l (n+3) aa;have D:val (l.drop (n+3))=0:=by
  rcases BB (val (l.drop (n+3))) with h|h
  .exact h
  .have:4294967296^(n+3)*1<=4294967296^(n+3)*val (l.drop (n+3)):=Ξ _ h;omega
 rw[D,Nat.mul_zero,I6,bX ha,bX hb,bX hc] at j;refine⟨val (l.take n),?_,?_⟩
 .exact AbH
 .rw[j];have e1:4294967296^(n+2)=4294967296^n*(4294967296*4294967296):=by rw[aao]
  have C:4294967296^(n+1)=4294967296^n*4294967296:=by rw[wN]
  rw[e1,C,Z4,Z4,nH (a*(4294967296*4294967296)),nH (b*4294967296),nH c,φ,φ,nH a,nH b];omega
def Yp{l n b c}(hd:Dig l)(Z:l.length=n+2)(hb:l[n+1]? =γ b)(hc:l[n]? =γ c):
  ∃r,r<4294967296^n/\val l=(b*4294967296+c)*4294967296^n+r:=by
 have j:=kT (l:=l) (k:=n+2) aa;rw[bX hb,bX hc] at j;refine⟨val (l.take n),?_,?_⟩
 .exact AbH
 .rw[<-j,wN,Z4,nH (b*4294967296),nH c,φ,nH b];omega
section
variable {S V P u2 u1 u0 v1 v0 r s g rest:Nat}
structure sw (S V P u2 u1 u0 v1 v0:Nat):Prop where
 pos:0<P
 hS:∃r,r<P/\S=(u2*(4294967296*4294967296)+u1*4294967296+u0)*P+r
 hV:∃s,s<P/\V=(v1*4294967296+v0)*P+s
 top:2147483648<=v1
 l1:v1<4294967296
 l0:v0<4294967296
 m2:u2<4294967296
 m1:u1<4294967296
 m0:u0<4294967296
 fits:S<4294967296*V
def sw.Uk(t:sw S V P u2 u1 u0 v1 v0):0<V:=by
 rcases BB V with h|h
 .have:=t.fits;rw[h] at this;omega
 .exact h
def sw.WH(t:sw S V P u2 u1 u0 v1 v0):S/V<4294967296:=by
 rw[aaQ t.Uk];exact t.fits
def sw.M3(t:sw S V P u2 u1 u0 v1 v0):u2*4294967296+u1<4294967296*(v1+1):=by
 obtain⟨r,G,hS⟩:=t.hS;obtain⟨s,hs,hV⟩:=t.hV;have D:=t.fits;have I:=t.l0;rcases Nq (u2*4294967296+u1) (4294967296*(v1+1)) with h|h
 .exact h
 .exfalso;have H:4294967296*(v1+1)*(4294967296*P)<=(u2*4294967296+u1)*(4294967296*P):=pq _ h;have F:(u2*4294967296+u1)*(4294967296*P)<=S:=by
   rw[hS];have:(u2*4294967296+u1)*(4294967296*P)=(u2*(4294967296*4294967296)+u1*4294967296)*P:=by rw[<-φ,Z4 (u2*4294967296) u1 4294967296,φ u2]
   rw[this];have:(u2*(4294967296*4294967296)+u1*4294967296)*P<=(u2*(4294967296*4294967296)+u1*4294967296+u0)*P:=pq _ aa;omega
  have C:V<=(v1+1)*(4294967296*P):=by
   rw[hV];have e:(v1+1)*(4294967296*P)=(v1*4294967296+4294967296)*P:=by rw[<-φ,Z4 v1 1,aav]
   rw[e];have:(v1*4294967296+v0+1)*P<=(v1*4294967296+4294967296)*P:=pq _ aa;rw[Z4 _ 1,aav] at this;omega
  have j:4294967296*V<=4294967296*((v1+1)*(4294967296*P)):=Ξ _ C;rw[<-φ] at j;omega
def sw.above(t:sw S V P u2 u1 u0 v1 v0)(h:u2*(4294967296*4294967296)+u1*4294967296+u0<g*(v1*4294967296+v0)):S/V<g:=by
 obtain⟨r,C,hS⟩:=t.hS;obtain⟨s,hs,hV⟩:=t.hV;rw[aaQ t.Uk];have j:(u2*(4294967296*4294967296)+u1*4294967296+u0+1)*P<=g*(v1*4294967296+v0)*P:=pq _ h;rw[Z4 _ 1,aav] at j;have B:g*(v1*4294967296+v0)*P<=g*V:=by
  rw[φ];exact Ξ _ (by rw[hV];omega)
 omega
def sw.first(t:sw S V P u2 u1 u0 v1 v0):S/V<=(u2*4294967296+u1)/v1:=by
 obtain⟨r,D,hS⟩:=t.hS;obtain⟨s,hs,hV⟩:=t.hV;have hv:=t.top;have B:=t.m0;rw[Nat.le_div_iff_mul_le aa];have F:S/V*V<=S:=Nat.div_mul_le_self S V;have C:S/V*(v1*(4294967296*P))<=S/V*V:=by
  refine Ξ _ ?_;rw[hV];have e:v1*(4294967296*P)=v1*4294967296*P:=by rw[φ]
  have:v1*4294967296*P<=(v1*4294967296+v0)*P:=pq _ aa;omega
 have G:S<(u2*4294967296+u1+1)*(4294967296*P):=by
  rw[hS];have e:(u2*4294967296+u1+1)*(4294967296*P)=(u2*(4294967296*4294967296)+u1*4294967296+4294967296)*P:=by rw[<-φ,Z4 (u2*4294967296+u1) 1 4294967296,Z4 (u2*4294967296) u1 4294967296,φ u2,aav]
  rw[e];have:(u2*(4294967296*4294967296)+u1*4294967296+u0+1)*P<=(u2*(4294967296*4294967296)+u1*4294967296+4294967296)*P:=pq _ aa;rw[Z4 _ 1,aav] at this;omega
 have j:S/V*v1*(4294967296*P)<(u2*4294967296+u1+1)*(4294967296*P):=by
  rw[φ];omega
 have:=Nat.lt_of_mul_lt_mul_right j;omega
def sw.close(t:sw S V P u2 u1 u0 v1 v0)(C:g<4294967296)(h:g*(v1*4294967296+v0)<=u2*(4294967296*4294967296)+u1*4294967296+u0):g<=S/V+1:=by
 obtain⟨r,D,hS⟩:=t.hS;obtain⟨s,hs,hV⟩:=t.hV;have hv:=t.top;have F:g*V<=(u2*(4294967296*4294967296)+u1*4294967296+u0)*P+g*P:=by
  rw[hV,ω,<-φ];have j:g*(v1*4294967296+v0)*P<=(u2*(4294967296*4294967296)+u1*4294967296+u0)*P:=pq _ h;have B:g*s<=g*P:=Ξ _ (aah hs);omega
 have G:g*P<V:=by
  rw[hV];have j:g*P<4294967296*P:=aa5 C t.pos;have B:4294967296*P<=(v1*4294967296+v0)*P:=pq _ aa;omega
 have H:g*V<S+V:=aa;rcases Nq (S/V+1) g with hc|hc
 .exfalso;have j:(S/V+2)*V<=g*V:=pq _ hc;have B:=Nat.lt_div_mul_add (a:=S) (b:=V) t.Uk;have I:(S/V+2)*V=S/V*V+V+V:=by rw[Z4];omega
  omega
 .exact hc
end
def WT{A C D R u0 X:Nat}(e:X=C+D)(B:A=C+R):D>R+u0↔A+u0<X:=by
 subst e B;constructor
 .intro j;omega
 .intro j;omega
def Di{u2 u1 u0 v1 v0 g rest}(h:g*v1+rest=u2*4294967296+u1):g*v0>rest*4294967296+u0↔u2*(4294967296*4294967296)+u1*4294967296+u0<g*(v1*4294967296+v0):=
 WT (C:=g*v1*4294967296) (by rw[ω,<-φ]) aa
def g3 (a b d:Int):Nat:=Nat.gcd (Nat.gcd d.natAbs a.natAbs) b.natAbs
def sgZ (d:Int):Int:=if d<0 then-1 else 1
def gZ (a b d:Int):Int:=sgZ d*(g3 a b d:Int)
def nf (a b d:Int):Int×Int×Int:=(a/gZ a b d,b/gZ a b d,d/gZ a b d)
theorem FE{a b d}(hd:d≠0):0<g3 a b d:=by
 unfold g3;exact abv _ (abv _ aa)
theorem Kq(a b d):(g3 a b d:Int)∣a/\(g3 a b d:Int)∣b/\(g3 a b d:Int)∣d:=by
 unfold g3;refine⟨?_,?_,?_⟩
 .exact aac.2 (aaf (I4 _ _) (aag _ _))
 .exact aac.2 (aag _ _)
 .exact aac.2 (aaf (I4 _ _) (I4 _ _))
theorem W9(a b d):Nat.gcd (Nat.gcd a.natAbs b.natAbs) d.natAbs=g3 a b d:=by
 unfold g3;rw[aaE,<-ach]
theorem EN{a b d}(hd:d≠0):gZ a b d≠0:=by
 unfold gZ sgZ;have:=FE (a:=a) (b:=b) hd;split<;>omega
theorem vz{a b d}(hd:d≠0):∃O K J:Int,nf a b d=(O,K,J)/\a=gZ a b d*O/\b=gZ a b d*K/\d=gZ a b d*J/\0<J/\g3 O K J=1:=by
 have I:=EN (a:=a) (b:=b) hd;obtain⟨⟨F,ha⟩,⟨b1,hb⟩,⟨C,j⟩⟩:=Kq a b d;have S:=FE (a:=a) (b:=b) hd;have B:sgZ d*sgZ d=1:=by unfold sgZ;split<;>rfl
 have fac:∀{x R:Int},x=(g3 a b d:Int)*R->x=gZ a b d*(sgZ d*R):=by
  intro x R h;unfold gZ;rw[h,aaM,abE (g3 a b d:Int),<-aaM,B,aeI]
 have P:=fac ha;have N:=fac hb;have D:=fac j;refine⟨sgZ d*F,sgZ d*b1,sgZ d*C,?_,P,N,D,?_,?_⟩
 .unfold nf;have e1:a/gZ a b d=sgZ d*F:=by rw[abI I ⟨_,P⟩];exact P
  have M:b/gZ a b d=sgZ d*b1:=by rw[abI I ⟨_,N⟩];exact N
  have Q:d/gZ a b d=sgZ d*C:=by rw[abI I ⟨_,D⟩];exact D
  rw[e1,M,Q]
 .have L:(0:Int)<(g3 a b d:Int):=aa;unfold sgZ;by_cases hn:d<0
  .rw[ι hn];have:C<0:=by
    rcases acT C 0 with h|h|h
    .exact h
    .rw[h] at j;simp at j;exact absurd j hd
    .have:=Int.mul_pos L h;omega
   omega
  .rw[θ hn];have:0<C:=by
    rcases acT C 0 with h|h|h
    .have:=ac0 L h;omega
    .rw[h] at j;simp at j;exact absurd j hd
    .exact h
   omega
 .have H:∀x:Int,(sgZ d*x).natAbs=x.natAbs:=by
   intro x;rw[Ex];unfold sgZ;split<;>simp
  have V:g3 (sgZ d*F) (sgZ d*b1) (sgZ d*C)=g3 F b1 C:=by unfold g3;rw[H,H,H]
  rw[V];have U:g3 a b d=g3 a b d*g3 F b1 C:=by
   have e1:a.natAbs=g3 a b d*F.natAbs:=by
    have:=congrArg Int.natAbs ha;exact Abi
   have M:b.natAbs=g3 a b d*b1.natAbs:=by
    have:=congrArg Int.natAbs hb;exact Abi
   have Q:d.natAbs=g3 a b d*C.natAbs:=by
    have:=congrArg Int.natAbs j;exact Abi
   have Y:g3 a b d=Nat.gcd (Nat.gcd d.natAbs a.natAbs) b.natAbs:=rfl;generalize g3 a b d=G at*
   have T:Nat.gcd (Nat.gcd d.natAbs a.natAbs) b.natAbs=G*g3 F b1 C:=by
    rw[e1,M,Q,abO,abO];rfl
   exact Y.trans T
  have W:g3 a b d*1=g3 a b d*g3 F b1 C:=by rw[aap];exact U
  exact(abh S W).symm
theorem yw{a b d a' b' d'}(B:a*d'=a'*d)(j:b*d'=b'*d)(D:g3 a b d=1):d∣d':=by
 have h:(g3 (a*d') (b*d') (d*d'):Nat)=d'.natAbs:=by
  unfold g3;rw[Ex,Ex,Ex,acU,acU];have:Nat.gcd (Nat.gcd d.natAbs a.natAbs) b.natAbs=1:=D;rw[this,aav]
 have ha:d.natAbs∣(a*d').natAbs:=by rw[B,Ex];exact ac5 _ _
 have hb:d.natAbs∣(b*d').natAbs:=by rw[j,Ex];exact ac5 _ _
 have hc:d.natAbs∣(d*d').natAbs:=by rw[Ex];exact Nat.dvd_mul_right _ _
 have C:d.natAbs∣d'.natAbs:=by
  rw[<-h];unfold g3;exact acG (acG hc ha) hb
 exact adm.1 C
def pR{a b d a' b' d'}(hd:d≠0)(hd':d'≠0)(T:a*d'=a'*d)(S:b*d'=b'*d):nf a b d=nf a' b' d':=by
 obtain⟨N,M,K,e0,ea,W,U,hp,V⟩:=vz (a:=a) (b:=b) hd;obtain⟨O,b1,L,e1,B,j,F,D,R⟩:=vz (a:=a') (b:=b') hd';have Y:=EN (a:=a) (b:=b) hd;have J:=EN (a:=a') (b:=b') hd';generalize gZ a b d=G at*
 generalize gZ a' b' d'=H at*
 have I:G*H≠0:=nk Y J;have c1:N*L=O*K:=by
  rw[ea,F,B,U] at T;have:(G*H)*(N*L)=(G*H)*(O*K):=by
   calc (G*H)*(N*L)=G*N*(H*L):=by rw[aaM,aaM,abE H N L]
    _=H*O*(G*K):=T
    _=(G*H)*(O*K):=by rw[ac6 G H,aaM,aaM,abE G O K]
  exact ac1 I this
 have c2:M*L=b1*K:=by
  rw[W,F,j,U] at S;have:(G*H)*(M*L)=(G*H)*(b1*K):=by
   calc (G*H)*(M*L)=G*M*(H*L):=by rw[aaM,aaM,abE H M L]
    _=H*b1*(G*K):=S
    _=(G*H)*(b1*K):=by rw[ac6 G H,aaM,aaM,abE G b1 K]
  exact ac1 I this
 have C:K∣L:=yw c1 c2 V;have Z:L∣K:=yw c1.symm c2.symm R;have Q:K=L:=Int.le_antisymm (Int.le_of_dvd D C) (Int.le_of_dvd hp Z);subst Q;have P:K≠0:=aa;have ha:N=O:=acP P c1;have hb:M=b1:=acP P c2;rw[e0,e1,ha,hb]
def Low (a b d:Int):Prop:=0<d/\g3 a b d=1
theorem BM{a b d}(h:Low a b d):nf a b d=(a,b,d):=by
 obtain⟨B,j⟩:=h;unfold nf gZ sgZ;rw[j,θ aa];simp
def Xa{a b d}(hd:d≠0):Low (nf a b d).1 (nf a b d).2.1 (nf a b d).2.2:=by
 obtain⟨C,D,B,e0,_,_,_,hp,j⟩:=vz (a:=a) (b:=b) hd;rw[e0];exact⟨hp,j⟩

@[ext] structure GQ where
 re:Rat
 im:Rat
namespace GQ
instance:Add GQ:=⟨fun x y=>⟨x.re+y.re,x.im+y.im⟩⟩
instance:Sub GQ:=⟨fun x y=>⟨x.re-y.re,x.im-y.im⟩⟩
instance:Neg GQ:=⟨fun x=>⟨-x.re,-x.im⟩⟩
instance:Mul GQ:=⟨fun x y=>⟨x.re*y.re-x.im*y.im,x.re*y.im+x.im*y.re⟩⟩
def nrm (y:GQ):Rat:=y.re*y.re+y.im*y.im
instance:Div GQ:=⟨fun x y=>⟨(x.re*y.re+x.im*y.im)/y.nrm,(x.im*y.re-x.re*y.im)/y.nrm⟩⟩
def i (a b:Int):GQ:=⟨a,b⟩
def bT(x y:GQ):(x+y).re=x.re+y.re:=rfl
def bS(x y:GQ):(x+y).im=x.im+y.im:=rfl
def dJ(x y:GQ):(x-y).re=x.re-y.re:=rfl
def dK(x y:GQ):(x-y).im=x.im-y.im:=rfl
def lL(x:GQ):(-x).re= -x.re:=rfl
def lT(x:GQ):(-x).im= -x.im:=rfl
def bL(x y:GQ):(x*y).re=x.re*y.re-x.im*y.im:=rfl
def bK(x y:GQ):(x*y).im=x.re*y.im+x.im*y.re:=rfl
def Cm(x y:GQ):(x/y).re=(x.re*y.re+x.im*y.im)/y.nrm:=rfl
def wR(x y:GQ):(x/y).im=(x.im*y.re-x.re*y.im)/y.nrm:=rfl
def dH(a b):(i a b).re=a:=rfl
def dC(a b):(i a b).im=b:=rfl
def dZ(x y:GQ):x*y=y*x:=by ext<;>simp only[bL,bK]<;>grind
def dE(x y z:GQ):x*y*z=x*(y*z):=by ext<;>simp only[bL,bK]<;>grind
theorem Dj{y}(h:y≠i 0 0):y.nrm≠0:=by
 intro e;apply h;have C:0<=y.re*y.re:=by
  rcases adV (a:=0) (b:=y.re) with h|h
  .exact aaR h h
  .have:=aaR (a:= -y.re) (b:= -y.re) ak ak;grind
 have B:0<=y.im*y.im:=by
  rcases adV (a:=0) (b:=y.im) with h|h
  .exact aaR h h
  .have:=aaR (a:= -y.im) (b:= -y.im) ak ak;grind
 unfold nrm at e;have e1:y.re*y.re=0:=ak;have j:y.im*y.im=0:=ak;ext<;>simp only[dH,dC]
 .rcases abx.1 e1 with h|h<;>simpa using h
 .rcases abx.1 j with h|h<;>simpa using h
theorem ME{x y}(h:y≠i 0 0):x*y/y=x:=by
 have hn:=Dj h;unfold nrm at hn;ext<;>simp only[bL,bK,Cm,wR,nrm]<;>grind
end GQ
structure Is (q:GQ) (a b d:Int):Prop where
 low:Low a b d
 re:q.re=(a:Rat)/(d:Rat)
 im:q.im=(b:Rat)/(d:Rat)
def gL{d:Int}(h:d≠0):(d:Rat)≠0:=by exact_mod_cast h
def MI{a b d}(hd:d≠0):(nf a b d).1.natAbs<=a.natAbs/\(nf a b d).2.1.natAbs<=b.natAbs/\(nf a b d).2.2.natAbs<=d.natAbs:=by
 obtain⟨J,F,H,e0,C,j,B,hp,D⟩:=vz (a:=a) (b:=b) hd;have I:=EN (a:=a) (b:=b) hd;rw[e0];generalize gZ a b d=G at*
 have Q:∀x y:Int,x=G*y->y.natAbs<=x.natAbs:=by
  intro x y h;rw[h,Ex];exact abC _ aa
 exact⟨Q _ _ C,Q _ _ j,Q _ _ B⟩
def Ta{a b d:Int}(hd:d≠0):Is ⟨(a:Rat)/(d:Rat),(b:Rat)/(d:Rat)⟩ (nf a b d).1 (nf a b d).2.1 (nf a b d).2.2:=by
 refine⟨Xa hd,?_,?_⟩;all_goals
  obtain⟨H,I,j,e0,B,D,F,hp,J⟩:=vz (a:=a) (b:=b) hd;have K:=gL (EN (a:=a) (b:=b) hd);have C:(j:Rat)≠0:=gL aa;rw[e0];generalize gZ a b d=G at*
  subst B D F;simp only[aan];grind
def Is.EC{q:GQ}{a b d a' b' d':Int}(h:Is q a' b' d')(hd:d≠0)(B:q.re=(a:Rat)/(d:Rat))(hi:q.im=(b:Rat)/(d:Rat)):nf a b d=(a',b',d'):=by
 have hd':d'≠0:=by have:=h.low.1;omega
 rw[<-BM h.low];have C:=gL hd;have j:=gL hd';have e1:=h.re;have D:=h.im;apply pR hd hd'
 .have:(a:Rat)*d'=a'*d:=ak
  exact_mod_cast this
 .have:(b:Rat)*d'=b'*d:=ak
  exact_mod_cast this
def Is.unique{q a b d a' b' d'}(h:Is q a b d)(D:Is q a' b' d'):a=a'/\b=b'/\d=d':=by
 have e:=D.EC (by have:=h.low.1;omega) h.re h.im;rw[BM h.low] at e;simpa using e
structure Sz (n:Nat) (a b d:Int):Prop where
 a:a.natAbs<2^n
 b:b.natAbs<2^n
 d:d.natAbs<2^n
def Sz.mono{m n a b d}(h:Sz m a b d)(Q:m<=n):Sz n a b d:=
 ⟨ο h.a (Ad aa Q),ο h.b (Ad aa Q),ο h.d (Ad aa Q)⟩
def Is.size{q:GQ}{a b d A B D:Int}{n:Nat}(h:Is q a b d)(C:D≠0)(F:q.re=(A:Rat)/(D:Rat))(hi:q.im=(B:Rat)/(D:Rat))(hs:Sz n A B D):Sz n a b d:=by
 have e:=h.EC C F hi;have j:=MI (a:=A) (b:=B) C;rw[e] at j;exact⟨ψ j.1 hs.a,ψ j.2.1 hs.b,ψ j.2.2 hs.d⟩
def bR{x y:Int}{m n}(J:x.natAbs<2^m)(R:y.natAbs<2^n):(x*y).natAbs<2^(m+n):=by
 rw[Ex,aao];exact Nat.mul_lt_mul'' J R
def iV{x y:Int}{m}(J:x.natAbs<2^m)(R:y.natAbs<2^m):(x+y).natAbs<2^(m+1):=by
 have:=ab8 x y;rw[wN];omega
def sK{x y:Int}{m}(J:x.natAbs<2^m)(R:y.natAbs<2^m):(x-y).natAbs<2^(m+1):=by
 have:=abF x y;rw[wN];omega
def jl{x:Int}{m n}(J:x.natAbs<2^m)(h:m<=n):x.natAbs<2^n:=ο J (Ad aa h)
def Is.dne{q a b d}(h:Is q a b d):d≠0:=by have:=h.low.1;omega
section
variable {x y q:GQ} {a b d a' b' d' u v t:Int} {m n:Nat}
def Is.Q7(J:Is x a b d)(sx:Sz m a b d)(R:Is y a' b' d')(sy:Sz n a' b' d')(h:Is (x+y) u v t):Sz (m+n+1) u v t:=by
 have C:=gL J.dne;have j:=gL R.dne;refine h.size (A:=a*d'+a'*d) (B:=b*d'+b'*d) (D:=d*d') (nk J.dne R.dne) ?_ ?_ ⟨iV (bR sx.a sy.d) ?_,iV (bR sx.b sy.d) ?_,jl (bR sx.d sy.d) aa⟩
 .rw[GQ.bT,J.re,R.re];exact AaF
 .rw[GQ.bS,J.im,R.im];exact AaF
 .rw[aaX];exact bR sy.a sx.d
 .rw[aaX];exact bR sy.b sx.d
def Is.Q9(J:Is x a b d)(sx:Sz m a b d)(R:Is y a' b' d')(sy:Sz n a' b' d')(h:Is (x*y) u v t):Sz (m+n+1) u v t:=by
 have C:=gL J.dne;have j:=gL R.dne;refine h.size (A:=a*a'-b*b') (B:=a*b'+b*a') (D:=d*d') (nk J.dne R.dne) ?_ ?_ ⟨sK (bR sx.a sy.a) (bR sx.b sy.b),iV (bR sx.a sy.b) (bR sx.b sy.a),jl (bR sx.d sy.d) aa⟩
 .exact Acn
 .rw[GQ.bK,J.re,R.re,J.im,R.im];exact AaF
end
theorem L8(a b):Is (GQ.i a b) a b 1:=by
 refine⟨⟨aa,?_⟩,?_,?_⟩
 .unfold g3;simp
 .simp only[GQ.dH];grind
 .simp only[GQ.dC];grind

@[ext] structure PQ where
 u:GQ
 v:GQ
namespace PQ
instance:Add PQ:=⟨fun x y=>⟨x.u+y.u,x.v+y.v⟩⟩
instance:Mul PQ:=⟨fun x y=>⟨x.u*y.u+GQ.i 3 0*(x.v*y.v),x.u*y.v+x.v*y.u⟩⟩
def plain (x:GQ):PQ:=⟨x,GQ.i 0 0⟩
def one:PQ:=plain (GQ.i 1 0)
def half:GQ:=⟨1/2,0⟩
def z:PQ:=⟨half*GQ.i 0 1,half⟩
def zp:Nat->PQ
 |0=>one
 |n+1=>zp n*z
def qR(x y:PQ):(x+y).u=x.u+y.u:=rfl
def qJ(x y:PQ):(x+y).v=x.v+y.v:=rfl
def vX(x y:PQ):(x*y).u=x.u*y.u+GQ.i 3 0*(x.v*y.v):=rfl
def vS(x y:PQ):(x*y).v=x.u*y.v+x.v*y.u:=rfl
def dE(x y z:PQ):x*y*z=x*(y*z):=by
 ext<;>simp only[vX,vS,GQ.bL,GQ.bK,GQ.bT,GQ.bS,GQ.dH,GQ.dC]<;>grind
def dZ(x y:PQ):x*y=y*x:=by
 ext<;>simp only[vX,vS,GQ.bL,GQ.bK,GQ.bT,GQ.bS,GQ.dH,GQ.dC]<;>grind
def pU(x):x*one=x:=by
 ext<;>simp only[vX,vS,one,plain,GQ.bL,GQ.bK,GQ.bT,GQ.bS,GQ.dH,GQ.dC]<;>grind
def KA(m n):zp (m+n)=zp m*zp n:=by
 induction n with
 |zero=>exact(pU _).symm
 |succ n ih=>rw[<-acN];show zp (m+n)*z=zp m*(zp n*z);rw[ih,dE]
def mk4 (a b c d:Rat):PQ:=⟨⟨a,b⟩,⟨c,d⟩⟩
def qV(a b c d:Rat):mk4 a b c d*z=mk4 (3/2*c-b/2) (a/2+3/2*d) (a/2-d/2) (b/2+c/2):=by
 ext<;>simp only[mk4,vX,vS,z,half,GQ.bL,GQ.bK,GQ.bT,GQ.bS,GQ.dH,GQ.dC]<;>grind
def zp0:zp 0=mk4 1 0 0 0:=by
 ext<;>simp only[zp,one,plain,mk4,GQ.dH,GQ.dC]<;>grind
def zp1:zp 1=mk4 0 (1/2) (1/2) 0:=by rw[zp,zp0,qV];congr 1<;>grind
def zp2:zp 2=mk4 (1/2) 0 0 (1/2):=by rw[zp,zp1,qV];congr 1<;>grind
def zp3:zp 3=mk4 0 1 0 0:=by rw[zp,zp2,qV];congr 1<;>grind
def zp4:zp 4=mk4 (-1/2) 0 0 (1/2):=by rw[zp,zp3,qV];congr 1<;>grind
def zp5:zp 5=mk4 0 (1/2) (-1/2) 0:=by rw[zp,zp4,qV];congr 1<;>grind
def zp6:zp 6=mk4 (-1) 0 0 0:=by rw[zp,zp5,qV];congr 1<;>grind
def zp7:zp 7=mk4 0 (-1/2) (-1/2) 0:=by rw[zp,zp6,qV];congr 1<;>grind
def zp8:zp 8=mk4 (-1/2) 0 0 (-1/2):=by rw[zp,zp7,qV];congr 1<;>grind
end PQ
def mg (l:List Nat):List Value:=l.map fun(d:Nat)=> .int .u32 (d:Int)
def ry(l):(mg l).length=l.length:=by simp[mg]
def pY{l}{k x:Nat}(h:l[k]? =γ x):(mg l)[k]? =γ (.int .u32 (x:Int)):=by simp[mg,h]
def Ci{l}:∀u∈mg l,u.oneCell'=ε:=by
 intro u j;simp only[mg,aab] at j;obtain⟨d,_,rfl⟩:=j;rfl
def V4(l:List Nat)(k x:Nat):(mg l).set k (.int .u32 (x:Int))=mg (l.set k x):=by simp[mg,adW]
def FV(n):mg (List.replicate n 0)=List.replicate n (.int .u32 0):=by simp[mg]
structure RM (w:World) (A:Option Addr) (n c:Nat) (l:List Nat):Prop where
 rd:Reads w w.heap.size 1 A n (mg l)
 dg:Dig l
 nc:n<=c
 cm:c<=9223372036854775807
section
variable {w w':World} {A:Option Addr} {n c:Nat} {l:List Nat}
def RM.ext(h:RM w A n c l)(e:Ext w w'):RM w' A n c l:=⟨h.rd.ext e,h.dg,h.nc,h.cm⟩
def RM.len(h:RM w A n c l):l.length=n:=by have:=h.rd.1;rw[ry] at this;omega
def RM.at_{k}(h:RM w A n c l)(C:k<n):∃j x,A=γ j/\j.block<w.heap.size/\l[k]? =γ x/\x<4294967296/\w.cell? (j.add k)=γ (.int .u32 (x:Int)):=by
 obtain⟨j,u,e,hb,B,hc⟩:=h.rd.at_ C;simp only[mg,Aa,abB] at B;obtain⟨x,J,rfl⟩:=B;exact⟨j,x,e,hb,J,h.dg.at_ J,hc⟩
def afn:RM w δ 0 0 []:=⟨afq,ae9,κ _,aa⟩
def RM.empty(h:RM w A 0 c l):l=[]:=KP h.len
def RM.take{k c'}(h:RM w A n c l)(G:k<=n)(hc:k<=c')(C:c'<=9223372036854775807):RM w A k c' (l.take k):=by
 have Z:=h.len;refine⟨⟨?_,fun H=> ?_⟩,h.dg.take k,hc,C⟩
 .rw[ry,Bn];omega
 .obtain⟨F,e,hb,B⟩:=h.rd.2 aa;refine⟨F,e,hb,fun j u D=>B j u ?_⟩;simp only[mg,Aa,abB] at D⊢;obtain⟨x,J,rfl⟩:=D;refine⟨x,?_,rfl⟩;rw[List.getElem?_take] at J;split at J
  .exact J
  .cases J
end
def AR{l:List Nat}{k x}(h:l[k]? =γ x):l.getD k 0=x:=by simp[List.getD,h]
def BU{l k}(h:l[k]? =γ 0):jA l (k+1)=jA l k:=by simp[jA,h]
def Bf{l k x}(h:l[k]? =γ x)(J:x≠0):jA l (k+1)=k+1:=by simp[jA,h,J]
def SlM (l:List Nat) (v:Value) (w:World):Prop:=∃A n c,v=.slice A n c/\RM w A n c l
def SF(A n c l w)(h:RM w A n c l):
  Calls prog 174 #[aO A n c] w fun e w'=>(∃v,e=.returned v/\SlM (dF (val l)) v w)/\w=w':=by
 have hn:n<=9223372036854775807:=Θ h.nc h.cm;have B:=h.nc;have K:=h.cm;have D:=aW h.len;have H:=aW (MU h.dg);go_enter func174,ntmps174;go_wp2;go_loop [3] (fun i=>∃k:Nat,k<=n/\i=.int .i64 k/\jA l n=jA l k) (fun i=>(intOf i).toNat)
 case atStart=>exact⟨n,κ _,rfl,rfl⟩
 case round=>
  obtain⟨k,O,rfl,C⟩:=hrel;have V:=aW C;clear C;by_cases M:k=0
  .subst M;go_wp2;go_ret;refine⟨⟨_,rfl,δ,0,0,rfl,?_⟩,rfl⟩;rw[<-H.o,D.o,V.o];exact afn
  .obtain⟨j,rfl⟩:∃j,k=j+1:=⟨k-1,aa⟩;obtain⟨P,x,rfl,hb,J,G,L⟩:=h.at_ (k:=j) aa;have F:=aW J;clear J;by_cases N:x=0
   .subst N;go_wp2;go_round
    case rel=>exact⟨j,aa,au,by rw[V.o,BU F.o]⟩
    case measure=>simp[aT,intOf]<;>omega
   .have I:((x:Int)==0)=ζ:=ae;go_wp2;go_ret;refine⟨⟨_,rfl,_,_,_,rfl,?_⟩,rfl⟩;rw[<-H.o,D.o,V.o,Bf F.o N];exact h.take aa aa aa
def nY (a b:Nat):Int:=if a<b then-1 else if b<a then 1 else 0
def Ay{a b}(ha:Dig a)(j:Canon b)(h:a.length<b.length):val a<val b:=by
 have C:=mW ha;have B:=Kj j (by intro e;simp[e] at h);have D:=Ad (n:=4294967296) aa (show a.length<=b.length-1 by omega);omega
def vB{a b k x y}(ha:Dig a)(J:a[k]? =γ x)(R:b[k]? =γ y)(h:a.drop (k+1)=b.drop (k+1))(j:x<y):val a<val b:=by
 obtain⟨G,rfl⟩:=μ.1 J;obtain⟨F,rfl⟩:=μ.1 R;have e1:=iE a (k+1) aa;have D:=iE b (k+1) aa;rw[bX J] at e1;rw[bX R,<-h] at D;have C:=mW (ha.take k);rw[Bn,aam aa] at C;have B:4294967296^k*(a[k]+1)<=4294967296^k*b[k]:=Ξ _ j;rw[ω,aap] at B;omega
def Fa{a b:List Nat}{k x}(J:a[k]? =γ x)(R:b[k]? =γ x)(h:a.drop (k+1)=b.drop (k+1)):a.drop k=b.drop k:=by
 obtain⟨B,e1⟩:=μ.1 J;obtain⟨j,C⟩:=μ.1 R;rw[aaA B,aaA j,e1,C,h]
def AO{a b}(h:a<b): -1=nY a b:=by simp[nY,h]
def AZ{a b}(h:b<a):1=nY a b:=by simp[nY,h];omega
def MG{a b}(h:a=b):0=nY a b:=by simp[nY,h]
def je(A B n m c d a b w)(I:RM w A n c a)(L:RM w B m d b)(C:Canon a)(Y:Canon b):
  CE 97 #[aO A n c,aO B m d] w (.int .i64 (nY (val a) (val b))):=by
 have hn:n<=9223372036854775807:=Θ I.nc I.cm;have hm:m<=9223372036854775807:=Θ L.nc L.cm;have P:=aW I.len;have O:=aW L.len;rcases ab7 n m with N|W|F
 .have H:((n:Int) !=m)=ε:=ae;go_enter aeJ,adX;exact Acm
 .subst W;go_enter aeJ,adX;exact Aam
 .have H:((n:Int) !=m)=ε:=ae;go_enter aeJ,adX;exact AcV
def iW(A B n m c d a b w)(I:RM w A n c a)(L:RM w B m d b)(C:Canon a)(Y:Canon b):
  CE 113 #[aO A n c,aO B m d] w (.int .i64 (nY (val a) (val b))):=by
 have hn:n<=9223372036854775807:=Θ I.nc I.cm;have hm:m<=9223372036854775807:=Θ L.nc L.cm;have P:=aW I.len;have O:=aW L.len;rcases ab7 n m with N|W|F
 .have H:((n:Int) !=m)=ε:=ae;go_enter adY,adw;exact Acm
 .subst W;go_enter adY,adw;exact Aam
 .have H:((n:Int) !=m)=ε:=ae;go_enter adY,adw;exact AcV
def kN:Elem prog 38 208 1 4:=afa ab9 (z:=.int .u32 0) ah rfl aa
def aft{w base n v l}(h:w.ownsRow base 208 1 v n (mg l))(hd:Dig l):SlM l v w:=by
 obtain⟨A,c,rfl,B,j,C⟩:=jH h;exact⟨A,n,c,rfl,C,hd,B,j⟩
def SlM.ext{w w' l v}(h:SlM l v w)(e:Ext w w'):SlM l v w':=by
 obtain⟨A,n,c,B,j⟩:=h;exact⟨A,n,c,B,j.ext e⟩
def zB(A n c l w)(h:RM w A n c l)(hn:n<=1000000):
  Calls prog 179 #[aO A n c] w fun e w'=>∃v,e=.returned v/\(SlM (dF (val l)) v w'/\∀g,v.ownBlock=γ g->w.heap.size<=g)/\Ext w w':=by
 have B:=h.nc;have F:=h.cm;have S:=aW h.len;have U:=aW (MU h.dg);go_enter func179,ntmps179;go_wp2;go_loop [3] (fun i=>∃k:Nat,k<=n/\i=.int .i64 k/\jA l n=jA l k) (fun i=>(intOf i).toNat)
 case atStart=>exact⟨n,κ _,rfl,rfl⟩
 case round=>
  obtain⟨k,P,rfl,H⟩:=hrel;have V:=aW H;clear H;have fin:∀j,j<=n->jA l j=j->jA l k=jA l j->RM w A j c (dF (val l)):=fun j T R L=>by
   have:=h.take (k:=j) (c':=c) T aa F;rwa[<-U.o,S.o,V.o,L,R]
  by_cases O:k=0
  .subst O;have Q:=aW (fin 0 aa rfl rfl);clear fin;cases A
   all_goals
    (go_wp2_with (at_builtin;refine jL kN rfl (.tmp 18) (.tmp 21) rfl w.heap.size _ 0 [] rf (abe _ _ _ aa aa ag) _ 0 _ (mg (dF (val l))) rf (Q.ext (Ext.new w _)).rd Ci aa aa ag ?_));exact Aa6
  .obtain⟨j,rfl⟩:∃j,k=j+1:=⟨k-1,aa⟩;obtain⟨W,x,rfl,hb,J,G,M⟩:=h.at_ (k:=j) aa;have I:=aW J;clear J;by_cases N:x=0
   .subst N;clear fin;go_wp2;go_round
    case rel=>exact⟨j,aa,au,by rw[V.o,BU I.o]⟩
    case measure=>simp[aT,intOf]<;>omega
   .have K:((x:Int)==0)=ζ:=ae;have Q:=aW (fin (j+1) P (Bf I.o N) rfl);clear fin;(go_wp2_with (at_builtin;refine jL kN rfl (.tmp 18) (.tmp 21) rfl w.heap.size _ 0 [] rf (abe _ _ _ aa aa ag) _ (j+1) _ (mg (dF (val l))) rf (Q.ext (Ext.new w _)).rd Ci aa aa ag ?_));exact Aa6
def ja(A n c l w)(h:RM w A n c l)(hn:n<=1000000):
  CV 179 #[aO A n c] w fun v w'=>SlM (dF (val l)) v w':=
 (zB A n c l w h hn).mono fun _ _ ⟨v,B,j,C⟩=>⟨v,B,j.1,C⟩
abbrev iv (neg:Bool) (A:Option Addr) (n c:Nat):Value:=.agg #[neg,aO A n c]
def RM.at3{w A n c k l}(h:RM w A n c l)(C:k<n):
  ∃B x,A=γ B/\l[k]? =γ x/\x<4294967296/\w.cell? (B.add k)=γ (.int .u32 (x:Int))/\(∀o,(w.alloc o).cell? (B.add k)=γ (.int .u32 (x:Int)))/\
   (∀o U,((w.alloc o).alloc U).cell? (B.add k)=γ (.int .u32 (x:Int)))/\(∀o U j,(((w.alloc o).alloc U).alloc j).cell? (B.add k)=γ (.int .u32 (x:Int))):=by
 obtain⟨B,x,e,hb,J,G,hc⟩:=h.at_ C;exact⟨B,x,e,J,G,hc,fun o=>(Ext.new w o).cell_ hc,fun o U=>((Ext.new w o).alloc U).cell_ hc,fun o U j=>(((Ext.new w o).alloc U).alloc j).cell_ hc⟩
def lM (neg:Bool) (l:List Nat):Bool:=if l.length=0 then !neg else decide (l.length<=400)&&l.getD (l.length-1) 0 !=0
def Ai{neg l}(h:l.length=0):lM neg l= !neg:=by simp[lM,h]
def zJ{neg l}(h:400<l.length):lM neg l=ζ:=by
 have:¬l.length=0:=aa;simp[lM,this];omega
def vD{neg l j x}(h:l.length=j+1)(B:j+1<=400)(J:l[j]? =γ x):lM neg l=(x !=0):=by
 have:¬l.length=0:=aa;simp only[lM,h,Nat.add_sub_cancel,AR J];simp[B]
def iG(neg A n c l w)(h:RM w A n c l):
  CE 96 #[iv neg A n c] w (.bool (lM neg l)):=by
 have hn:n<=9223372036854775807:=Θ h.nc h.cm;have D:=aW h.len;by_cases L:n=0
 .subst L;cases neg
  all_goals
   go_enter func96,ntmps96;go_wp2;go_ret;exact⟨bE (by rw[Ai D.o];rfl),Ext.new _ _⟩
 .obtain⟨j,rfl⟩:∃j,n=j+1:=⟨n-1,aa⟩;have K:(((j+1:Nat):Int)==0)=ζ:=ae;have B:((j:Int)+1==0)=ζ:=ae;by_cases F:j+1<=400
  .obtain⟨M,x,rfl,J,G,_,O,_,_⟩:=h.at3 (k:=j) aa;have I:=aW J;clear J;by_cases N:x=0
   .subst N;have e1:lM neg l=ζ:=by rw[vD D.o F I.o];rfl
    have C:=aW e1;clear e1;exact Aco
   .have H:((x:Int) !=0)=ε:=ae;have e1:lM neg l=ε:=by rw[vD D.o F I.o];simp[N]
    have C:=aW e1;clear e1;exact Aco
  .have C:=aW (zJ (neg:=neg) (l:=l) (by rw[D.o];omega));exact Aco
def fI(neg A n c l w)(h:RM w A n c l):
  CE 178 #[iv neg A n c] w (.bool (lM neg l)):=by
 have hn:n<=9223372036854775807:=Θ h.nc h.cm;have D:=aW h.len;by_cases L:n=0
 .subst L;cases neg
  all_goals
   go_enter func178,ntmps178;go_wp2;go_ret;exact⟨bE (by rw[Ai D.o];rfl),Ext.new _ _⟩
 .obtain⟨j,rfl⟩:∃j,n=j+1:=⟨n-1,aa⟩;have K:(((j+1:Nat):Int)==0)=ζ:=ae;have B:((j:Int)+1==0)=ζ:=ae;by_cases F:j+1<=400
  .obtain⟨M,x,rfl,J,G,_,O,_,_⟩:=h.at3 (k:=j) aa;have I:=aW J;clear J;by_cases N:x=0
   .subst N;have e1:lM neg l=ζ:=by rw[vD D.o F I.o];rfl
    have C:=aW e1;clear e1;exact Ack
   .have H:((x:Int) !=0)=ε:=ae;have e1:lM neg l=ε:=by rw[vD D.o F I.o];simp[N]
    have C:=aW e1;clear e1;exact Ack
  .have C:=aW (zJ (neg:=neg) (l:=l) (by rw[D.o];omega));exact Ack
def RX (w:World) (v:Value) (neg:Bool) (l:List Nat):Prop:=∃A n c,v=iv neg A n c/\RM w A n c l
def RX.ext{w w' v neg l}(h:RX w v neg l)(e:Ext w w'):RX w' v neg l:=by
 obtain⟨A,n,c,B,j⟩:=h;exact⟨A,n,c,B,j.ext e⟩
def DX:Nat:=400
def lim:Nat:=4294967296^DX
def SS{m k}(h:m<4294967296^k)(j:k<=400):m<lim:=ο h (Ad aa (show k<=DX from j))
theorem ku{m}(h:m<lim):(dF m).length<=400:=show(dF m).length<=DX from eQ (k:=DX) (by unfold lim at h;exact h)
def RI (w:World) (v:Value) (z:Int):Prop:=RX w v (decide (z<0)) (dF z.natAbs)
def RI.ext{w w' v z}(h:RI w v z)(e:Ext w w'):RI w' v z:=RX.ext h e
def RI.zero(w):RI w (iv ζ δ 0 0) 0:=⟨δ,0,0,rfl,by simpa[iZ] using afn⟩
def zOf (neg:Bool) (m:Nat):Int:=if neg then-(m:Int) else m
theorem vC(neg m):(zOf neg m).natAbs=m:=by unfold zOf;split<;>omega
def Ue(neg m):decide (zOf neg m<0)=(neg&&decide (0<m)):=by
 cases neg
 .simp[zOf]
 .simp[zOf]
def RX.made{w A n c m}(neg)(h:RM w A n c (dF m)):RI w (iv (neg&&decide (0<n)) A n c) (zOf neg m):=by
 refine⟨A,n,c,?_,by rw[vC];exact h⟩;have Z:=h.len;rw[Ue];have e:decide (0<n)=decide (0<m):=by
  by_cases j:m=0
  .subst j;rw[iZ] at Z;obtain rfl:n=0:=by simpa using Z.symm
   rfl
  .have C:dF m≠[]:=fun e=>j (oz.1 e);have B:0<n:=by rw[<-Z];exact acA.2 C
   rw[Λ B,Λ aa]
 rw[e]
theorem ae2{w v z}(j:RI w v z)(G:z.natAbs<lim):lM (decide (z<0)) (dF z.natAbs)=ε:=by
 unfold lM;have D:(dF z.natAbs).length<=400:=ku G;split
 .rename_i C
  have:=oz.1 (KP C);simp;omega
 .rename_i C
  have B:(dF z.natAbs)[(dF z.natAbs).length-1]? =γ (dF z.natAbs)[(dF z.natAbs).length-1]:=ν aa;have F:=cK z.natAbs _ (by rw[abW];exact B);simp only[υ,Δ,bne_iff_ne,AR B];exact⟨D,F⟩
def RM.only{w w' A n c g l t cs}(h:RM w A n c l)(F:Only g w w')(hb:Blk w g t cs)(D:∀(j:Nat) (k:IntKind) (x:Int),cs[j]?≠γ (.int k x)):RM w' A n c l:=by
 refine⟨⟨h.rd.1,fun hn=> ?_⟩,h.dg,h.nc,h.cm⟩;obtain⟨b,o,rfl,B,hc⟩:=h.rd.plain hn;obtain⟨H,x,e,_,J,_,_⟩:=h.at_ hn;have C:b≠g:=by
  rintro rfl;have:=hc 0 _ (pY J);rw[hb.cell] at this;exact D _ _ _ this
 refine⟨_,rfl,ο B F.size,fun j u G=> ?_⟩;rw[add_plain];exact F.cell_ (hc j u G) C
def V9{b A n c}:∀(j:Nat) (k:IntKind) (x:Int),#[Value.bool b,Value.slice A n c][j]?≠γ (.int k x):=by
 intro j k x
 match j with
 |0=>simp
 |1=>simp
 |j+2=>simp
def jO{w w' g B A0 n0 c0}(J:Ext w w')(j:w.heap.size<=g)(hb:Blk w' g 40 #[.bool B,aO A0 n0 c0])(b A n c):
  Ext w ((w'.setCell ⟨g,0,δ⟩ (.bool b)).setCell ⟨g,1,δ⟩ (.slice A n c))/\Blk ((w'.setCell ⟨g,0,δ⟩ (.bool b)).setCell ⟨g,1,δ⟩ (.slice A n c)) g 40 #[.bool b,aO A n c]/\
   ∀A' n' c' l,RM w' A' n' c' l->RM ((w'.setCell ⟨g,0,δ⟩ (.bool b)).setCell ⟨g,1,δ⟩ (.slice A n c)) A' n' c' l:=
 ⟨(J.setCell j _).setCell j _,(hb.qG 0 _).qG 1 _,fun _ _ _ _ h=>h.only ((Only.set _ _ _ _).trans (Only.set _ _ _ _)) hb V9⟩
def xJ{w g b A n c}(hb:Blk w g 40 #[.bool b,aO A n c]):(loadVar 40 ⟨g,0,δ⟩).run prog w=.ok (iv b A n c) w:=by
 have hc:=hb.cell;simp[go_sem,hc]
section
variable {fn:Func} {R:Ending->World->Prop} {a:Act} {w:World} {t u x g g':Nat} {b b':Bool} {A A':Option Addr} {n c n' c':Nat}
def fK(B:fn.results= #[.cell t 40])(hd:a.defers=[])(hp:a.tmps[t]?.getD undef=.pointer (γ (aM g 0)))(hb:Blk w g 40 #[.bool b,aO A n c])(j:R (.returned (iv b A n c)) w):bodyPost prog fn R .ret a w:=aai (by simp[results,B,hp,asAddr,xJ hb]) hd j
def iK(B:fn.results= #[.cell t 40,.tmp u])(hd:a.defers=[])(hp:a.tmps[t]?.getD undef=.pointer (γ (aM g 0)))(hb:Blk w g 40 #[b,aO A n c])(j:R (.returned (.tuple #[iv b A n c,a.tmps.getD u undef])) w):bodyPost prog fn R .ret a w:=aai (v:=.tuple #[iv b A n c,a.tmps.getD u undef]) (by simp[results,B,hp,asAddr,xJ hb]) hd j
def yH(C:fn.results= #[.cell t 40,.cell u 40,.tmp x])(hd:a.defers=[])(hp:a.tmps[t]?.getD undef=.pointer (γ (aM g 0)))(hb:Blk w g 40 #[b,aO A n c])(D:a.tmps[u]?.getD undef=.pointer (γ (aM g' 0)))(j:Blk w g' 40 #[b',aO A' n' c'])(B:R (.returned (.tuple #[iv b A n c,iv b' A' n' c',a.tmps.getD x undef])) w):bodyPost prog fn R .ret a w:=
 aai (v:=.tuple #[iv b A n c,iv b' A' n' c',a.tmps.getD x undef]) (by simp[results,C,hp,D,asAddr,xJ hb,xJ j]) hd B
end
def iJ(neg A n c l w)(h:RM w A n c l)(hn:n<=1000000):
  CV 150 #[.bool neg,aO A n c] w fun v w'=>RI w' v (zOf neg (val l)):=by
 go_enter func150,ntmps150;go_wp2_with fail;refine(ja A n c l _ (h.ext (Ext.new w _)) hn).mono ?_;rintro e w1 ⟨v1,rfl,⟨A1,n1,c1,rfl,D⟩,H⟩;have J:n1<=9223372036854775807:=Θ D.nc D.cm;have hb:=(Blk.new w 40 _).ext H;have hc:=hb.cell;have K:=hb.frozen;obtain⟨C,I,G⟩:=jO ((Ext.new w _).trans H) (κ _) hb (neg&&decide (0<n1)) A1 n1 c1;have j:=aW C;have U:=aW I;have B:=aW (RX.made neg (G _ _ _ _ D));clear C I G;by_cases F:0<n1
 all_goals
  cases neg
  all_goals
   go_wp2
   first
    |simp only[abw,ab2,ρ F] at j U B
    |simp only[abw,ab2,Λ F] at j U B
   exact fK rfl rfl rfl U.o ⟨_,rfl,B.o,j.o⟩
def qg (z:Int):Int×Int:=if z.natAbs<lim then (z,0) else (0,2)
theorem kW{z}(h:z.natAbs<lim):qg z=(z,0):=by unfold qg;rw[ι h]
theorem MP{z}(h:¬z.natAbs<lim):qg z=(0,2):=by unfold qg;rw[θ h]
def mM (p:Int×Int) (v:Value) (w:World):Prop:=∃u,v=.tuple #[u,p.2]/\RI w u p.1
def mM.ext{w w' v}{p:Int×Int}(h:mM p v w)(e:Ext w w'):mM p v w':=by
 obtain⟨u,B,j⟩:=h;exact⟨u,B,j.ext e⟩
def Cb{m n}(h:(dF m).length=n):n<=400↔m<lim:=
 ⟨fun j=>SS (eG (k:=n) aa) j,fun j=>by have:=ku j;omega⟩
def kL(A n c l w)(h:RM w A n c l):
  CV 174 #[aO A n c] w fun v w'=>SlM (dF (val l)) v w':=
 (SF A n c l w h).mono fun _ _ ⟨⟨v,C,B⟩,j⟩=>⟨v,C,j ▸ B,j ▸ Ext.refl _⟩
def jb(neg A n c l w)(h:RM w A n c l):
  CV 203 #[.bool neg,aO A n c] w fun v w'=>mM (qg (zOf neg (val l))) v w':=by
 go_enter func203,ntmps203;go_wp2_with fail;refine(kL A n c l _ (h.ext (Ext.new w _))).mono ?_;rintro e w1 ⟨v1,rfl,⟨A1,n1,c1,rfl,I⟩,H⟩;have hb:=(Blk.new w 40 _).ext H;have hc:=hb.cell;have O:=hb.frozen;have N:n1<=9223372036854775807:=Θ I.nc I.cm;have j:=Cb I.len;have B:=vC neg (val l);by_cases M:n1<=400
 .obtain⟨C,G,L⟩:=jO ((Ext.new w _).trans H) (κ _) hb (neg&&decide (0<n1)) A1 n1 c1;have D:=aW C;have U:=aW G;have J:=aW (RX.made neg (L _ _ _ _ I));clear C G L;have F:=aW (kW (z:=zOf neg (val l)) (by rw[B];exact j.1 M));clear j B;by_cases K:0<n1
  all_goals
   cases neg
   all_goals
    go_wp2
    first
     |simp only[abw,ab2,ρ K] at D U J
     |simp only[abw,ab2,Λ K] at D U J
    exact iK rfl rfl rfl U.o ⟨_,rfl,⟨_,by rw[F.o];rfl,by rw[F.o];exact J.o⟩,D.o⟩
 .have F:=aW (MP (z:=zOf neg (val l)) (by rw[B];exact fun h=>M (j.2 h)));clear j B;obtain⟨C,G,_⟩:=jO ((Ext.new w _).trans H) (κ _) hb ζ δ 0 0;have D:=aW C;have U:=aW G;clear C G;go_wp2;exact iK rfl rfl rfl U.o ⟨_,rfl,⟨_,by rw[F.o];rfl,by rw[F.o];exact RI.zero _⟩,D.o⟩
def kH(v z w)(h:RI w v z):
  CV 183 #[v] w fun v w'=>mM (qg z) v w':=by
 obtain⟨A,n,c,rfl,C⟩:=h;have hn:n<=9223372036854775807:=Θ C.nc C.cm;have j:=Cb C.len;by_cases D:n<=400
 .have B:=aW (kW (z:=z) (j.1 D));clear j;go_enter func183,ntmps183;go_wp2;exact iK rfl rfl rfl (aeV _ _ ag) ⟨_,rfl,⟨_,by rw[B.o];rfl,by rw[B.o];exact⟨_,_,_,rfl,C.ext ((Ext.new _ _).alloc _)⟩⟩,(Ext.new _ _).alloc _⟩
 .have B:=aW (MP (z:=z) (fun h=>D (j.2 h)));clear j;go_enter func183,ntmps183;go_wp2;exact iK rfl rfl rfl (aeV _ _ ag) ⟨_,rfl,⟨_,by rw[B.o];rfl,by rw[B.o];exact RI.zero _⟩,(Ext.new _ _).alloc _⟩
def RM.blk{w g n l}(hb:Blk w g 208 (mg l).toArray)(hd:Dig l)(hn:l.length=n)(j:n<=9223372036854775807):RM w (γ ⟨g,0,δ⟩) n n l:=by
 have:=hb.reads (n:=n) (size:=1) (by simp[ry,hn]);exact⟨by simpa using this,hd,κ _,j⟩
def Fv(u):val [u%4294967296,u/4294967296]=u:=by simp only[val];omega
def FB{u}(h:u<18446744073709551616):Dig [u%4294967296,u/4294967296]:=Dig.cons aa (Dig.one aa)
def jX(n):IntKind.u64.wrap n=n%18446744073709551616:=by simp[IntKind.wrap,IntKind.signed,IntKind.bits]
def u64_neg{m:Nat}(h:m<=9223372036854775808):IntKind.u64.wrap (-IntKind.u64.wrap (-(m:Int)))=(m:Int):=by
 rw[jX,jX];omega
def PZ(u:Nat): #[Value.int .u32 ((u:Int)%4294967296),Value.int .u32 ((u:Int)/4294967296)]=(mg [u%4294967296,u/4294967296]).toArray:=by
 simp[mg]
def Vd{u:Nat}(h:u<18446744073709551616): #[Value.int .u32 ((u:Int)%4294967296),Value.int .u32 ((u:Int)/4294967296%4294967296)]=(mg [u%4294967296,u/4294967296]).toArray:=by
 simp[mg];omega
def qM(u:Nat)(w)(B:u<18446744073709551616):
  CV 151 #[.int .u64 (u:Int)] w fun v w'=>SlM (dF u) v w':=by
 go_enter func151,ntmps151;go_wp2_with fail;rw[PZ];refine(ja _ 2 2 _ _ (RM.blk (Blk.new _ _ _) (FB B) rfl aa) aa).mono ?_;rintro e w1 ⟨v1,rfl,j,H⟩;rw[Fv] at j;go_wp2;go_ret;exact⟨_,rfl,j,(Ext.new _ _).trans H⟩
def AX(m):zOf ζ m=(m:Int):=rfl
def Gh(m):zOf ε m= -(m:Int):=rfl
def CO(n w)(M: -9223372036854775808<=n)(K:n<=9223372036854775807):
  CV 140 #[.int .i64 n] w fun v w'=>RI w' v n:=by
 by_cases L:n<0
 .obtain⟨m,rfl⟩:∃m:Nat,n= -(m:Int):=⟨n.natAbs,aa⟩;go_enter func140,ntmps140;go_wp2_with fail;rw[u64_neg aa,Vd aa];refine(kL _ 2 2 _ _ (RM.blk (aeV _ _ ag) (FB aa) rfl aa)).mono ?_;rintro e w1 ⟨v1,rfl,⟨A1,n1,c1,rfl,j⟩,H⟩;rw[Fv] at j;have hb:=((Blk.new w 40 _).alloc _).ext H;have hc:=hb.cell;have J:=hb.frozen;obtain⟨C,F,B⟩:=jO (((Ext.new w _).alloc _).trans H) (κ _) hb ε A1 n1 c1;have I:=aW C;have U:=aW F;have D:=aW (RX.made ε (B _ _ _ _ j));clear C F B;have G:0<n1:=by
   have:=j.len;rw[<-this];exact acA.2 fun e=>by have:=oz.1 e;omega
  rw[Λ G,abw,Gh] at D;go_wp2;exact fK rfl rfl rfl U.o ⟨_,rfl,D.o,I.o⟩
 .obtain⟨m,rfl⟩:∃m:Nat,n=(m:Int):=⟨n.natAbs,aa⟩;go_enter func140,ntmps140;go_wp2_with fail;rw[PZ];refine(kL _ 2 2 _ _ (RM.blk (aeV _ _ ag) (FB aa) rfl aa)).mono ?_;rintro e w1 ⟨v1,rfl,⟨A1,n1,c1,rfl,j⟩,H⟩;rw[Fv] at j;have hb:=((Blk.new w 40 _).alloc _).ext H;have hc:=hb.cell;have J:=hb.frozen;obtain⟨C,F,B⟩:=jO (((Ext.new w _).alloc _).trans H) (κ _) hb ζ A1 n1 c1;have I:=aW C;have U:=aW F;have D:=aW (RX.made ζ (B _ _ _ _ j));clear C F B;rw[ab2,AX] at D;go_wp2;exact fK rfl rfl rfl U.o ⟨_,rfl,D.o,I.o⟩
def Qq:(prog.info? 208).map (fun i=>(i.zero,i.size,i.bytes))=γ (γ (.int .u32 0),1,4):=ah
def jT(x:Int)(k:Nat)(J:x=k)(D:k<=10000000)(W:World):
  (Instr.makeSlice 38 (.int .i64 x) (.int .i64 x)).run prog W=.ok (.slice (γ (aM W.heap.size 0)) k k) (W.alloc (.cells (mg (List.replicate k 0)).toArray 208)):=by
 obtain⟨i0,O,B,C,j⟩:=abM Qq;have h:=ac7 (P:=prog) W 38 208 i0 (.int .u32 0) ab9 O B .i64 .i64 x x aa aa Abq aa;subst J;rw[h,FV];have e:madeCells (Value.int .u32 0).cells k=(List.replicate k (Value.int .u32 0)).toArray:=vQ _ _;simp only[C,aap,Hu,e]
def uA{o k N d}(j:o.length=k)(B:k<N):(o++List.replicate (N-k) 0).set k d=(o++[d])++List.replicate (N-(k+1)) 0:=by
 subst j;rw[show N-o.length=(N-(o.length+1))+1 by omega,aaJ];simp
def GD{l:List Nat}{k d:Nat}{z:Int}(h:z=(d:Int)):(mg l).set k (.int .u32 z)=mg (l.set k d):=by subst h;exact V4 l k d
def mh{w:World}{g k N d:Nat}{o:List Nat}{z:Int}(hb:Blk w g 208 (mg (o++List.replicate (N-k) 0)).toArray)(B:o.length=k)(j:k<N)(C:z=(d:Int)):
  Blk (w.setCell ⟨g,k,δ⟩ (.int .u32 z)) g 208 (mg ((o++[d])++List.replicate (N-(k+1)) 0)).toArray:=by
 have:=hb.QI (i:=k) (.int .u32 z);rwa[GD C,uA B j] at this
def rF{w g k N o}(hb:Blk w g 208 (mg (o++List.replicate (N-k) 0)).toArray)(j:o.length=k)(B:k<N):∃u,w.cell? (aM g k)=γ u:=by
 exact hb.Pt (by simp[ry,j];omega)
def xR{o a b:List Nat}{k I x y}(j:o.length=k)(h:val o+4294967296^k*I=val (a.take k)+val (b.take k))(J:a[k]? =γ x)(R:val (b.take (k+1))=val (b.take k)+4294967296^k*y):
  val (o++[(x+I+y)%4294967296])+4294967296^(k+1)*((x+I+y)/4294967296)=val (a.take (k+1))+val (b.take (k+1)):=by
 rw[kG,bX J,R,j,wN,φ];have e:4294967296^k*((x+I+y)%4294967296)+4294967296^k*(4294967296*((x+I+y)/4294967296))=4294967296^k*(x+I+y):=by
  exact AbA
 have B:4294967296^k*(x+I+y)=4294967296^k*x+4294967296^k*I+4294967296^k*y:=by rw[ω,ω]
 omega
def mf{b:List Nat}{m k}(h:b.length=m)(j:¬k<m):val (b.take (k+1))=val (b.take k)+4294967296^k*0:=by rw[vT aa];rfl
def Og(A B n m c d a b w)(W:RM w A n c a)(hB:RM w B m d b)(hn:n<=1000000)(hm:m<=1000000)(L:m<=n):
  CV 214 #[aO A n c,aO B m d] w fun v w'=>SlM (dF (val a+val b)) v w':=by
 have HA:=aW W.len;have V:=aW hB.len;have Q:=jT ((n:Int)+1) (n+1) aa aa;go_enter func214,ntmps214;go_wp2;clear Q;go_loopw [6,22] (fun cv i wr=>∃(k I:Nat) (o:List Nat),k<=n/\i=.int .i64 k/\cv=.int .u64 (I:Int)/\I<=1/\o.length=k/\Dig o/\val o+4294967296^k*I=val (a.take k)+val (b.take k)/\
   Blk wr w.heap.size 208 (mg (o++List.replicate (n+1-k) 0)).toArray/\Ext w wr) (fun _ i _=>n-(intOf i).toNat)
 case atStart=>exact⟨0,0,[],q9 _,rfl,rfl,aa,rfl,ae9,by simp[val],by simpa using Blk.new w _ _,Ext.new _ _⟩
 case round=>
  obtain⟨k,I,o,hk,rfl,rfl,Yy,M,hd,hv,hb,D⟩:=hrel;have S:=aW hv;clear hv;have T:=aW M;have U:=aW hd;clear hd;by_cases P:k<n
  .obtain⟨ad,x,rfl,_,J,G,YA⟩:=(W.ext D).at_ P;have HX:=aW J;clear J;obtain⟨old,Z⟩:=rF hb M aa;have f7:=hb.frozen k;clear M;have C:=aW hb;clear hb;by_cases F:k<m
   .obtain⟨bd,y,rfl,_,R,K,Y⟩:=(hB.ext D).at_ F;have HY:=aW R;clear R;go_wp2;go_roundw
    case rel=>
     refine⟨k+1,(x+I+y)/4294967296,o++[(x+I+y)%4294967296],aa,au,au,aa,by simp[T.o],U.append (Dig.one aa),xR T.o S.o HX.o (bX HY.o),mh C.o T.o aa aa,D.setCell (κ _) _⟩
    case measure=>simp[aT,intOf]<;>omega
   .go_wp2;go_roundw
    case rel=>
     refine⟨k+1,(x+I+0)/4294967296,o++[(x+I+0)%4294967296],aa,au,au,aa,by simp[T.o],U.append (Dig.one aa),xR T.o S.o HX.o (mf V.o F),mh C.o T.o aa aa,D.setCell (κ _) _⟩
    case measure=>simp[aT,intOf]<;>omega
  .obtain rfl:k=n:=aa;obtain⟨old,Z⟩:=rF hb M aa;have f7:=hb.frozen k;clear M;have C:=aW hb;clear hb;go_wp2_with fail;have O:=mh (d:=I) C.o T.o aa rfl;have j:=D.setCell (p:=aM w.heap.size k) (κ _) (.int .u32 (I:Int));simp only[aaW,aa1,Z6] at O;have N:val (o++[I])=val a+val b:=by
    exact AcF
   exact AaX
def Ol(A B n m c d a b w)(W:RM w A n c a)(hB:RM w B m d b)(hn:n<=1000000)(hm:m<=1000000)(L:n<m):
  CV 214 #[aO A n c,aO B m d] w fun v w'=>SlM (dF (val b+val a)) v w':=by
 have HA:=aW hB.len;have V:=aW W.len;have Q:=jT ((m:Int)+1) (m+1) aa aa;go_enter func214,ntmps214;go_wp2;clear Q;go_loopw [6,22] (fun cv i wr=>∃(k I:Nat) (o:List Nat),k<=m/\i=.int .i64 k/\cv=.int .u64 (I:Int)/\I<=1/\o.length=k/\Dig o/\val o+4294967296^k*I=val (b.take k)+val (a.take k)/\
   Blk wr w.heap.size 208 (mg (o++List.replicate (m+1-k) 0)).toArray/\Ext w wr) (fun _ i _=>m-(intOf i).toNat)
 case atStart=>exact⟨0,0,[],q9 _,rfl,rfl,aa,rfl,ae9,by simp[val],by simpa using Blk.new w _ _,Ext.new _ _⟩
 case round=>
  obtain⟨k,I,o,hk,rfl,rfl,Yy,M,hd,hv,hb,D⟩:=hrel;have S:=aW hv;clear hv;have T:=aW M;have U:=aW hd;clear hd;by_cases P:k<m
  .obtain⟨ad,x,rfl,_,J,G,YA⟩:=(hB.ext D).at_ P;have HX:=aW J;clear J;obtain⟨old,Z⟩:=rF hb M aa;have f7:=hb.frozen k;clear M;have C:=aW hb;clear hb;by_cases F:k<n
   .obtain⟨bd,y,rfl,_,R,K,Y⟩:=(W.ext D).at_ F;have HY:=aW R;clear R;go_wp2;go_roundw
    case rel=>
     refine⟨k+1,(x+I+y)/4294967296,o++[(x+I+y)%4294967296],aa,au,au,aa,by simp[T.o],U.append (Dig.one aa),xR T.o S.o HX.o (bX HY.o),mh C.o T.o aa aa,D.setCell (κ _) _⟩
    case measure=>simp[aT,intOf]<;>omega
   .go_wp2;go_roundw
    case rel=>
     refine⟨k+1,(x+I+0)/4294967296,o++[(x+I+0)%4294967296],aa,au,au,aa,by simp[T.o],U.append (Dig.one aa),xR T.o S.o HX.o (mf V.o F),mh C.o T.o aa aa,D.setCell (κ _) _⟩
    case measure=>simp[aT,intOf]<;>omega
  .obtain rfl:k=m:=aa;obtain⟨old,Z⟩:=rF hb M aa;have f7:=hb.frozen k;clear M;have C:=aW hb;clear hb;go_wp2_with fail;have O:=mh (d:=I) C.o T.o aa rfl;have j:=D.setCell (p:=aM w.heap.size k) (κ _) (.int .u32 (I:Int));simp only[aaW,aa1,Z6] at O;have N:val (o++[I])=val b+val a:=by
    exact AcF
   exact AaX
def BR(A B n m c d a b w)(D:RM w A n c a)(C:RM w B m d b)(hn:n<=1000000)(j:m<=1000000):
  CV 214 #[aO A n c,aO B m d] w fun v w'=>SlM (dF (val a+val b)) v w':=by
 rcases Nq n m with h|h
 .rw[aaX];exact Ol A B n m c d a b w D C hn j h
 .exact Og A B n m c d a b w D C hn j h

def qF (t:Int):Nat:=(t%4294967296).toNat
def oL (t:Int):Nat:=if t<0 then 1 else 0
theorem vE(t):qF t<4294967296:=by unfold qF;omega
theorem Qo{x j:Nat}(J:x<4294967296)(hb:j<=1):IntKind.u64.wrap ((x:Int)-j)%4294967296=(qF ((x:Int)-j-(0:Nat)):Int):=by
 rw[jX];unfold qF;omega
theorem SB{x j:Nat}(J:x<4294967296)(hb:j<=1):IntKind.u64.wrap ((x:Int)-j)/9223372036854775808=(oL ((x:Int)-j-(0:Nat)):Int):=by
 rw[jX];unfold oL;split<;>omega
theorem L6{x y j:Nat}(J:x<4294967296)(R:y<4294967296)(hb:j<=1):IntKind.u64.wrap (IntKind.u64.wrap ((x:Int)-j)-y)%4294967296=(qF ((x:Int)-j-y):Int):=by
 rw[jX,jX];unfold qF;omega
theorem Kh{x y j:Nat}(J:x<4294967296)(R:y<4294967296)(hb:j<=1):IntKind.u64.wrap (IntKind.u64.wrap ((x:Int)-j)-y)/9223372036854775808=(oL ((x:Int)-j-y):Int):=by
 rw[jX,jX];unfold oL;split<;>omega
theorem F6{x y j:Nat}(J:x<4294967296)(R:y<4294967296)(hb:j<=1):x+4294967296*oL ((x:Int)-j-y)=y+j+qF ((x:Int)-j-y):=by
 unfold qF oL;split<;>omega
def xI{o a b:List Nat}{k j x y}(B:o.length=k)(h:val (a.take k)+4294967296^k*j=val (b.take k)+val o)(J:a[k]? =γ x)(R:val (b.take (k+1))=val (b.take k)+4294967296^k*y)(G:x<4294967296)(K:y<4294967296)(hb:j<=1):
  val (a.take (k+1))+4294967296^(k+1)*oL ((x:Int)-j-y)=val (b.take (k+1))+val (o++[qF ((x:Int)-j-y)]):=by
 have C:=F6 G K hb;rw[kG,bX J,R,B,wN,φ];have e:4294967296^k*x+4294967296^k*(4294967296*oL ((x:Int)-j-y))=4294967296^k*y+4294967296^k*j+4294967296^k*qF ((x:Int)-j-y):=by
  rw[<-ω,C,ω,ω]
 omega
def NC{o a b k j}(C:o.length=k)(hd:Dig o)(ha:a.length=k)(hb:b.length<=k)(h:val (a.take k)+4294967296^k*j=val (b.take k)+val o)(G:val b<=val a):val o=val a-val b:=by
 rw[χ aa,χ hb] at h;have F:=mW hd;rw[C] at F;have D:j=0:=by
  rcases BB j with B|B
  .exact B
  .have:4294967296^k*1<=4294967296^k*j:=Ξ _ B;omega
 subst D;omega
theorem uS(t):oL t<=1:=by unfold oL;split<;>omega
def wm(A B n m c d a b w)(V:RM w A n c a)(hB:RM w B m d b)(hn:n<=1000000)(hm:m<=n)(O:val b<=val a):
  CV 215 #[aO A n c,aO B m d] w fun v w'=>SlM (dF (val a-val b)) v w':=by
 have HA:=aW V.len;have U:=aW hB.len;have Q:=jT (n:Int) n rfl aa;go_enter func215,ntmps215;go_wp2;clear Q;go_loopw [6,14] (fun cv i wr=>∃(k I:Nat) (o:List Nat),k<=n/\i=.int .i64 k/\cv=.int .u64 (I:Int)/\I<=1/\o.length=k/\Dig o/\val (a.take k)+4294967296^k*I=val (b.take k)+val o/\
   Blk wr w.heap.size 208 (mg (o++List.replicate (n-k) 0)).toArray/\Ext w wr) (fun _ i _=>n-(intOf i).toNat)
 case atStart=>exact⟨0,0,[],q9 _,rfl,rfl,aa,rfl,ae9,by simp[val],by simpa using Blk.new w _ _,Ext.new _ _⟩
 case round=>
  obtain⟨k,I,o,hk,rfl,rfl,j,P,hd,hv,hb,D⟩:=hrel;have S:=aW hv;clear hv;have T:=aW P;have L:=aW hd;clear hd;by_cases M:k<n
  .obtain⟨ad,x,rfl,_,J,G,YA⟩:=(V.ext D).at_ M;have HX:=aW J;clear J;obtain⟨old,Z⟩:=rF hb P aa;have f7:=hb.frozen k;clear P;have C:=aW hb;clear hb;by_cases F:k<m
   .obtain⟨bd,y,rfl,_,R,K,W⟩:=(hB.ext D).at_ F;have HY:=aW R;clear R;go_wp2;go_roundw
    case rel=>
     exact⟨k+1,oL ((x:Int)-I-y),o++[qF ((x:Int)-I-y)],aa,au,by rw[Kh G K j],uS _,by simp[T.o],L.append (Dig.one (vE _)),xI T.o S.o HX.o (bX HY.o) G K j,mh C.o T.o aa (L6 G K j),D.setCell (κ _) _⟩
    case measure=>simp[aT,intOf]<;>omega
   .go_wp2;go_roundw
    case rel=>
     exact⟨k+1,oL ((x:Int)-I-(0:Nat)),o++[qF ((x:Int)-I-(0:Nat))],aa,au,by rw[SB G j],uS _,by simp[T.o],L.append (Dig.one (vE _)),xI T.o S.o HX.o (mf U.o F) G aa j,mh C.o T.o aa (Qo G j),D.setCell (κ _) _⟩
    case measure=>simp[aT,intOf]<;>omega
  .obtain rfl:k=n:=aa;go_wp2_with fail;simp only[aaW,aa1,Z6] at hb;have N:=NC T.o L.o HA.o (by rw[U.o];exact hm) S.o O;refine(kL _ k k o _ (RM.blk hb L.o T.o aa)).mono ?_;rintro e w1 ⟨v1,rfl,Y,H⟩;rw[N] at Y;go_wp2;go_ret;exact⟨_,rfl,Y,D.trans H⟩
def yf{o a b:List Nat}{k I x y}(j:o.length=k)(h:val o+4294967296^k*I=val (a.take k)+val (b.take k))(J:val (a.take (k+1))=val (a.take k)+4294967296^k*x)(R:val (b.take (k+1))=val (b.take k)+4294967296^k*y):
  val (o++[(I+x+y)%4294967296])+4294967296^(k+1)*((I+x+y)/4294967296)=val (a.take (k+1))+val (b.take (k+1)):=by
 rw[kG,J,R,j,wN,φ];have e:4294967296^k*((I+x+y)%4294967296)+4294967296^k*(4294967296*((I+x+y)/4294967296))=4294967296^k*(I+x+y):=by
  exact AbA
 have B:4294967296^k*(I+x+y)=4294967296^k*x+4294967296^k*I+4294967296^k*y:=by rw[ω,ω];omega
 omega
def vG{o}{d:Nat}{z:Int}(h:z=(d:Int)):mg o++[.int .u32 z]=mg (o++[d]):=by subst h;simp[mg]
def SlV (k n:Nat) (v:Value) (w:World):Prop:=∃l,SlM l v w/\val l=n/\l.length<=k
def EM(A B n m c d a b w)(hA:RM w A n c a)(hB:RM w B m d b)(hn:n<=1000000)(hm:m<=1000000):
  CV 184 #[aO A n c,aO B m d] w fun v w'=>SlV (max n m+1) (val a+val b) v w':=by
 have HA:=aW hA.len;have Z:=aW hB.len;go_enter func184,ntmps184;go_wp2;go_loopw [5,6,7] (fun V cv i wr=>∃(k I:Nat) (o:List Nat),k<=max n m+1/\i=.int .i64 k/\cv=.int .u64 (I:Int)/\I<=1/\(max n m<k->I=0)/\o.length=k/\Dig o/\val o+4294967296^k*I=val (a.take k)+val (b.take k)/\
   wr.ownsRow w.heap.size 208 1 V k (mg o)/\Ext w wr) (fun _ _ i _=>n+m+2-(intOf i).toNat)
 case atStart=>exact⟨0,0,[],q9 _,rfl,rfl,aa,fun _=>rfl,rfl,ae9,by simp[val],RS _ _ _ _,Ext.refl _⟩
 case round=>
  obtain⟨k,I,o,hk,rfl,rfl,Yy,W,ho,hd,hv,M,D⟩:=hrel;have S:=aW hv;clear hv;have T:=aW ho;clear ho;have Y:=aW hd;clear hd;have P:=aW M;clear M;have Zn:k<=n+m+1:=aa;by_cases L:k<n
  .obtain⟨ad,x,rfl,_,J,G,YA⟩:=(hA.ext D).at_ L;have HX:=aW (bX J);clear J;clear W;by_cases F:k<m
   .obtain⟨bd,y,rfl,_,R,K,N⟩:=(hB.ext D).at_ F;have HY:=aW (bX R);clear R;(go_wp2_with (at_builtin;refine fu kN rfl (.tmp 46) (.tmp 49) rfl w.heap.size u5 k (mg o) rf (P.alloc _) wr.heap.size 1 1 [.int .u32 (((I:Int)+x+y)%4294967296)] rf (Blk.new _ _ _) rfl AaC aa aa aa Ab2 ?_));intro g1 C w1 O H _ _;have j:=gu H (D.alloc _) (fun g h=>(P.lt g h).1);have U:=aW O;clear O H;go_wp2;go_roundw
    case rel=>
     refine⟨k+1,(I+x+y)/4294967296,o++[(I+x+y)%4294967296],aa,au,au,aa,fun h=>aa,by simp[T.o],Y.append (Dig.one aa),yf T.o S.o HX.o HY.o,?_,j⟩;have:=U.o;rwa[vG (d:=(I+x+y)%4294967296) aa] at this
    case measure=>simp[aT,intOf]<;>omega
   ·(go_wp2_with (at_builtin;refine fu kN rfl (.tmp 46) (.tmp 49) rfl w.heap.size u5 k (mg o) rf (P.alloc _) wr.heap.size 1 1 [.int .u32 (((I:Int)+x)%4294967296)] rf (Blk.new _ _ _) rfl AaC aa aa aa Ab2 ?_));intro g1 C w1 O H _ _;have j:=gu H (D.alloc _) (fun g h=>(P.lt g h).1);have U:=aW O;clear O H;go_wp2;go_roundw
    case rel=>
     refine⟨k+1,(I+x+0)/4294967296,o++[(I+x+0)%4294967296],aa,au,au,aa,fun h=>aa,by simp[T.o],Y.append (Dig.one aa),yf T.o S.o HX.o (mf Z.o F),?_,j⟩;have:=U.o;rwa[vG (d:=(I+x+0)%4294967296) aa] at this
    case measure=>simp[aT,intOf]<;>omega
  .by_cases F:k<m
   .obtain⟨bd,y,rfl,_,R,K,N⟩:=(hB.ext D).at_ F;have HY:=aW (bX R);clear R;clear W;(go_wp2_with (at_builtin;refine fu kN rfl (.tmp 46) (.tmp 49) rfl w.heap.size u5 k (mg o) rf (P.alloc _) wr.heap.size 1 1 [.int .u32 (((I:Int)+y)%4294967296)] rf (Blk.new _ _ _) rfl AaC aa aa aa Ab2 ?_));intro g1 C w1 O H _ _;have j:=gu H (D.alloc _) (fun g h=>(P.lt g h).1);have U:=aW O;clear O H;go_wp2;go_roundw
    case rel=>
     refine⟨k+1,(I+0+y)/4294967296,o++[(I+0+y)%4294967296],aa,au,au,aa,fun h=>aa,by simp[T.o],Y.append (Dig.one aa),yf T.o S.o (mf HA.o L) HY.o,?_,j⟩;have:=U.o;rwa[vG (d:=(I+0+y)%4294967296) aa] at this
    case measure=>simp[aT,intOf]<;>omega
   .by_cases Q:0<I
    .obtain rfl:I=1:=aa;have Yz:k<=max n m:=by
      rcases Nq (max n m) k with h|h
      .exact absurd (W h) aa
      .exact h
     clear W;(go_wp2_with (at_builtin;refine fu kN rfl (.tmp 46) (.tmp 49) rfl w.heap.size u5 k (mg o) rf (P.alloc _) wr.heap.size 1 1 [.int .u32 (1)] rf (Blk.new _ _ _) rfl AaC aa aa aa Ab2 ?_));intro g1 C w1 O H _ _;have j:=gu H (D.alloc _) (fun g h=>(P.lt g h).1);have U:=aW O;clear O H;go_wp2;go_roundw
     case rel=>
      refine⟨k+1,(1+0+0)/4294967296,o++[(1+0+0)%4294967296],aa,au,au,aa,fun h=>aa,by simp[T.o],Y.append (Dig.one aa),yf T.o S.o (mf HA.o L) (mf Z.o F),?_,j⟩;have:=U.o;rwa[vG (d:=(1+0+0)%4294967296) aa] at this
     case measure=>simp[aT,intOf]<;>omega
    .obtain rfl:I=0:=aa;clear W;go_wp2;go_ret;refine⟨_,rfl,⟨o,aft P.o Y.o,?_,by rw[T.o];exact hk⟩,D⟩;have:=S.o;rw[χ (by rw[HA.o];omega),χ (by rw[Z.o];omega)] at this;simpa using this
def xz(A B n m c d a b w)(hA:RM w A n c a)(hB:RM w B m d b)(hn:n<=1000000)(hm:m<=n)(Yx:val b<=val a):
  Calls prog 185 #[aO A n c,aO B m d] w fun e w'=>∃v,e=.returned v/\(SlM (dF (val a-val b)) v w'/\∀g,v.ownBlock=γ g->w.heap.size<=g)/\Ext w w':=by
 have HA:=aW hA.len;have HB:=aW hB.len;go_enter func185,ntmps185;go_wp2;go_loopw [5,6,7] (fun V cv i wr=>∃(k Z:Nat) (o:List Nat),k<=n/\i=.int .i64 k/\cv=.int .u64 (Z:Int)/\Z<=1/\o.length=k/\Dig o/\val (a.take k)+4294967296^k*Z=val (b.take k)+val o/\
   wr.ownsRow w.heap.size 208 1 V k (mg o)/\Ext w wr) (fun _ _ i _=>n-(intOf i).toNat)
 case atStart=>exact⟨0,0,[],q9 _,rfl,rfl,aa,rfl,ae9,by simp[val],RS _ _ _ _,Ext.refl _⟩
 case round=>
  obtain⟨k,Z,o,hk,rfl,rfl,Q,ho,hd,hv,M,D⟩:=hrel;have HV:=aW hv;clear hv;have T:=aW ho;clear ho;have HD:=aW hd;clear hd;have P:=aW M;clear M;by_cases Yu:k<n
  .obtain⟨ad,x,rfl,_,J,G,YA⟩:=(hA.ext D).at_ Yu;have HX:=aW J;clear J;by_cases F:k<m
   .obtain⟨bd,y,rfl,_,R,K,YG⟩:=(hB.ext D).at_ F;have HY:=aW R;clear R;(go_wp2_with (at_builtin;refine fu kN rfl (.tmp 33) (.tmp 36) rfl w.heap.size u5 k (mg o) rf (P.alloc _) wr.heap.size 1 1 [.int .u32 (IntKind.u64.wrap (IntKind.u64.wrap ((x:Int)-Z)-y)%4294967296)] rf (Blk.new _ _ _) rfl AaC aa aa aa Ab2 ?_));intro g1 C w1 O W _ _;have j:=gu W (D.alloc _) (fun g h=>(P.lt g h).1);have U:=aW O;clear O W;go_wp2;go_roundw
    case rel=>
     refine⟨k+1,oL ((x:Int)-Z-y),o++[qF ((x:Int)-Z-y)],aa,au,by rw[Kh G K Q],uS _,by simp[T.o],HD.append (Dig.one (vE _)),xI T.o HV.o HX.o (bX HY.o) G K Q,?_,j⟩;have:=U.o;rwa[vG (L6 G K Q)] at this
    case measure=>simp[aT,intOf]<;>omega
   ·(go_wp2_with (at_builtin;refine fu kN rfl (.tmp 33) (.tmp 36) rfl w.heap.size u5 k (mg o) rf (P.alloc _) wr.heap.size 1 1 [.int .u32 (IntKind.u64.wrap ((x:Int)-Z)%4294967296)] rf (Blk.new _ _ _) rfl AaC aa aa aa Ab2 ?_));intro g1 C w1 O W _ _;have j:=gu W (D.alloc _) (fun g h=>(P.lt g h).1);have U:=aW O;clear O W;go_wp2;go_roundw
    case rel=>
     refine⟨k+1,oL ((x:Int)-Z-(0:Nat)),o++[qF ((x:Int)-Z-(0:Nat))],aa,au,by rw[SB G Q],uS _,by simp[T.o],HD.append (Dig.one (vE _)),xI T.o HV.o HX.o (mf HB.o F) G aa Q,?_,j⟩;have:=U.o;rwa[vG (Qo G Q)] at this
    case measure=>simp[aT,intOf]<;>omega
  .obtain rfl:k=n:=aa;obtain⟨A1,n1,c1,rfl,hR⟩:=aft P.o HD.o;have S:=hR.len;obtain rfl:n1=k:=by rw[<-S,T.o]
   have N:=NC T.o HD.o HA.o (by rw[HB.o];exact hm) HV.o Yx;have I:=aW N;clear N S;go_wp2_with fail;refine(zB A1 n1 c1 o _ hR hn).mono ?_;rintro e w1 ⟨v1,rfl,⟨hR,L⟩,H⟩;rw[I.o] at hR;have Y:=aW L;clear L;go_wp2;go_ret;exact⟨_,rfl,⟨hR,fun g hg=>Θ D.size (Y.o g hg)⟩,D.trans H⟩
def xu(A B n m c d a b w)(F:RM w A n c a)(I:RM w B m d b)(hn:n<=1000000)(H:m<=n)(j:val b<=val a):
  CV 185 #[aO A n c,aO B m d] w fun v w'=>SlM (dF (val a-val b)) v w':=
 (xz A B n m c d a b w F I hn H j).mono fun _ _ ⟨v,D,C,G⟩=>⟨v,D,C.1,G⟩
def iQ (p:List Nat) (k:Nat):Prop:=∀t z,k<=t->p[t]? =γ z->z=0
def iQ.mono{p k j}(h:iQ p k)(C:k<=j):iQ p j:=fun t z D B=>h t z aa B
def iQ.set{p k t d}(h:iQ p k)(B:t<k):iQ (p.set t d) k:=by
 intro s z hs j;rw[aaj aa] at j;exact h s z hs j
def afC(n k):iQ (List.replicate n 0) k:=by
 intro t z _ j;have:=wo j;exact abZ this
def iQ.at_{p k}(h:iQ p k)(B:k<p.length):p[k]? =γ 0:=by
 have j:p[k]? =γ p[k]:=ν B;rw[h k _ (κ _) j] at j;exact j
def vw{x y}(J:x<4294967296)(R:y<4294967296):x*y<=18446744065119617025:=by
 have:=aaa (show x<=4294967295 by omega) (show y<=4294967295 by omega);omega
def Ic{p b:List Nat}{i j x y z I s M}(B:p[i+j]? =γ z)(R:b[j]? =γ y)(hs:s=x*y+z+I)(h:val p+4294967296^(i+j)*I=M+4294967296^i*(x*val (b.take j))):
  val (p.set (i+j) (s%4294967296))+4294967296^(i+(j+1))*(s/4294967296)=M+4294967296^i*(x*val (b.take (j+1))):=by
 have D:=qH (y:=s%4294967296) B;rw[bX R,show i+(j+1)=(i+j)+1 by omega,wN,φ];have e:4294967296^(i+j)*(s%4294967296)+4294967296^(i+j)*(4294967296*(s/4294967296))=4294967296^(i+j)*s:=by
  exact AbA
 have F:4294967296^(i+j)*s=4294967296^(i+j)*(x*y)+4294967296^(i+j)*z+4294967296^(i+j)*I:=by rw[hs,ω,ω]
 have C:4294967296^i*(x*(val (b.take j)+4294967296^j*y))=4294967296^i*(x*val (b.take j))+4294967296^(i+j)*(x*y):=by
  rw[ω,ω,aao];congr 1;rw[abf x,φ]
 omega
def Nn{p a b:List Nat}{i m x I}(j:p[i+m]? =γ 0)(J:a[i]? =γ x)(hb:b.length=m)(h:val p+4294967296^(i+m)*I=val (a.take i)*val b+4294967296^i*(x*val (b.take m))):val (p.set (i+m) I)=val (a.take (i+1))*val b:=by
 have B:=qH (y:=I) j;have e0:b.take m=b:=χ aa;rw[e0] at h;rw[bX J,Z4];have e:4294967296^i*(x*val b)=4294967296^i*x*val b:=by rw[φ]
 omega
def iy (w:World) (g:Nat) (p:List Nat):Prop:=Blk w g 208 (mg p).toArray/\Dig p
def iy.at_{w g k p}(h:iy w g p)(B:k<p.length):∃z,p[k]? =γ z/\z<4294967296/\w.cell? (aM g k)=γ (.int .u32 (z:Int))/\w.frozen? ⟨g,k,δ⟩=ζ:=by
 have j:p[k]? =γ p[k]:=ν B;refine⟨p[k],j,h.2.at_ j,?_,h.1.frozen k⟩;rw[h.1.cell];have:=pY j;simpa using this
def iy.set{w:World}{g k d:Nat}{p:List Nat}{z:Int}(h:iy w g p)(j:z=(d:Int))(hd:d<4294967296):iy (w.setCell ⟨g,k,δ⟩ (.int .u32 z)) g (p.set k d):=by
 have:=h.1.QI (i:=k) (.int .u32 z);rw[GD j] at this;exact⟨this,h.2.set k hd⟩
def iy.drewN{w g p}(h:iy w g p)(n):iy (w.drewN n) g p:=⟨h.1.drewN n,h.2⟩
def iy.far{w w' g p}(h:iy w g p)(e:Ext w w'):iy w' g p:=⟨h.1.ext e,h.2⟩
def iy.rm{w g n p}(h:iy w g p)(hn:p.length=n)(j:n<=9223372036854775807):RM w (γ ⟨g,0,δ⟩) n n p:=RM.blk h.1 h.2 hn j
def yM (n m:Nat):Prop:=0<n/\0<m
def zf (n m:Nat):Prop:=True
def KC{n m}(h:yM n m):((n:Int)==0)=ζ:=by have:=h.1;simp;omega
def Lj{n m}(h:yM n m):((m:Int)==0)=ζ:=by have:=h.2;simp;omega
def LC{n m}(h:zf n m):True:=trivial
def KJ{n m}(h:zf n m):True:=trivial
def LG(A B n m c d a b w)(hA:RM w A n c a)(hB:RM w B m d b)(hn:n<=100000)(hm:m<=100000)(L:yM n m):
  CV 217 #[aO A n c,aO B m d] w fun v w'=>SlM (dF (val a*val b)) v w':=by
 have YK:=KC L;have Yz:=Lj L;clear L;have HA:=aW hA.len;have HB:=aW hB.len;have Zj:=jT ((n:Int)+m) (n+m) aa aa;go_enter func217,ntmps217;go_wp2;clear Zj;go_loopw [26] (fun i wr=>∃(k:Nat) (p:List Nat),k<=n/\i=.int .i64 k/\p.length=n+m/\iQ p (k+m)/\val p=val (a.take k)*val b/\iy wr w.heap.size p/\Ext w wr) (aT n)
 case atStart=>exact⟨0,List.replicate (n+m) 0,q9 _,rfl,ag,afC _ _,by simp[val,rz],⟨Blk.new w _ _,Dig.replicate _⟩,Ext.new _ _⟩
 case round=>
  obtain⟨k,p,hk,rfl,Z,U,hv,F,D⟩:=hrel;have V:=aW Z;clear Z;have Y:=aW U;clear U;have HV:=aW hv;clear hv;have Q:=aW F;clear F;by_cases Yu:k<n
  .obtain⟨ad,x,rfl,_,J,G,YA⟩:=(hA.ext D).at_ Yu;have HX:=aW J;clear J YA;obtain⟨P,rfl⟩:∃P:World,P=wr:=⟨_,rfl⟩;go_wp2;go_loopw [31,7] (fun iv cv wr=>∃(j I:Nat) (p:List Nat),j<=m/\iv=.int .i64 j/\cv=.int .u64 (I:Int)/\I<4294967296/\p.length=n+m/\iQ p (k+m)/\val p+4294967296^(k+j)*I=val (a.take k)*val b+4294967296^k*(x*val (b.take j))/\iy wr w.heap.size p/\Ext w wr) (fun iv _ _=>m-(intOf iv).toNat)
   case atStart=>exact⟨0,0,p,q9 _,rfl,rfl,aa,V.o,Y.o,by have:=HV.o;simp[val,this],Q.o,D⟩
   case round=>
    clear Q HV Y V D;obtain⟨j,I,p,hj,rfl,rfl,Yy,Z,U,hv,F,D⟩:=hrel;have V:=aW Z;clear Z;have Y:=aW U;clear U;have HV:=aW hv;clear hv;by_cases M:j<m
    .obtain⟨bd,y,rfl,_,R,K,YG⟩:=(hB.ext D).at_ M;obtain⟨O,x',e1,_,S,_,YA⟩:=(hA.ext D).at_ Yu;cases e1
     obtain rfl:x'=x:=by have:=HX.o;rw[S] at this;injection this
     have HY:=aW R;clear R S;obtain⟨z,U,C,W,YB⟩:=F.at_ (k:=k+j) Ab0;have Zc:=aW U;clear U;have Q:=aW F;clear F;obtain⟨t,ht⟩:∃t,t=x'*y:=⟨_,rfl⟩;have ZM:t<=18446744065119617025:=by rw[ht];exact vw G K
     have q1:(0:Int)<=k:=aa;have q2:(k:Int)<n:=aa;have q3:(0:Int)<=j:=aa;have q4:(j:Int)<m:=aa;have q5:(0:Int)<=(k:Int)+(j:Int):=aa;have q6:(k:Int)+(j:Int)<(n:Int)+(m:Int):=aa;have T:(k:Int)+(j:Int)<((n+m:Nat):Int):=aa;have e1:IntKind.u64.wrap ((x':Int)*(y:Int))=(t:Int):=by rw[aaG _ AcT,ht];simp
     have e2:IntKind.u64.wrap ((t:Int)+(z:Int))=(t:Int)+z:=aaG _ aa;have e3:IntKind.u64.wrap ((t:Int)+(z:Int)+(I:Int))=(t:Int)+z+I:=aaG _ aa;have e4:IntKind.i64.wrap ((k:Int)+(j:Int))=(k:Int)+j:=aa3 _ aa;have e5:((k:Int)+(j:Int)).toNat=k+j:=aa;have HT:=aW ht;clear ht;go_wp2;go_quiet (fail);clear e1 e2 e3 e4 e5;go_wp2;go_roundw
     case rel=>exact⟨j+1,(t+z+I)/4294967296,p.set (k+j) ((t+z+I)%4294967296),aa,au,au,aa,by simp[V.o],Y.set aa,Ic Zc.o HY.o (by rw[HT.o]) HV.o,(Q.drewN _).set aa aa,(D.drewN _).setCell (κ _) _⟩
     case measure=>simp[aT,intOf]<;>omega
    .obtain rfl:j=m:=aa;obtain⟨z,U,C,W,YB⟩:=F.at_ (k:=k+j) Ab0;have YP:=Y.at_ Ab0;have YS:=aW YP;clear YP U;have Q:=aW F;clear F;go_wp2;go_roundw
     case rel=>exact⟨k+1,p.set (k+j) I,aa,au,by simp[V.o],(Y.mono aa).set aa,Nn YS.o HX.o HB.o HV.o,Q.set rfl Yy,D.setCell (κ _) _⟩
     case measure=>simp[aT,intOf]<;>omega
  .obtain rfl:k=n:=aa;have F:=Q.o;have Z:=V.o;go_wp2_with fail;refine(kL _ _ _ p _ (F.rm Z aa)).mono ?_;exact Aa0
def Ls(A B n m c d a b w)(hA:RM w A n c a)(hB:RM w B m d b)(hn:n<=100000)(hm:m<=100000)(L:zf n m):
  CV 186 #[aO A n c,aO B m d] w fun v w'=>SlM (dF (val a*val b)) v w':=by
 have YK:=LC L;have Yz:=KJ L;clear L;have HA:=aW hA.len;have HB:=aW hB.len;have Zj:=jT ((n:Int)+m) (n+m) aa aa;go_enter func186,ntmps186;go_wp2;clear Zj;go_loopw [6] (fun i wr=>∃(k:Nat) (p:List Nat),k<=n/\i=.int .i64 k/\p.length=n+m/\iQ p (k+m)/\val p=val (a.take k)*val b/\iy wr w.heap.size p/\Ext w wr) (aT n)
 case atStart=>exact⟨0,List.replicate (n+m) 0,q9 _,rfl,ag,afC _ _,by simp[val,rz],⟨Blk.new w _ _,Dig.replicate _⟩,Ext.new _ _⟩
 case round=>
  obtain⟨k,p,hk,rfl,Z,U,hv,F,D⟩:=hrel;have V:=aW Z;clear Z;have Y:=aW U;clear U;have HV:=aW hv;clear hv;have Q:=aW F;clear F;by_cases Yu:k<n
  .obtain⟨ad,x,rfl,_,J,G,YA⟩:=(hA.ext D).at_ Yu;have HX:=aW J;clear J YA;obtain⟨P,rfl⟩:∃P:World,P=wr:=⟨_,rfl⟩;go_wp2;go_loopw [8,7] (fun iv cv wr=>∃(j I:Nat) (p:List Nat),j<=m/\iv=.int .i64 j/\cv=.int .u64 (I:Int)/\I<4294967296/\p.length=n+m/\iQ p (k+m)/\val p+4294967296^(k+j)*I=val (a.take k)*val b+4294967296^k*(x*val (b.take j))/\iy wr w.heap.size p/\Ext w wr) (fun iv _ _=>m-(intOf iv).toNat)
   case atStart=>exact⟨0,0,p,q9 _,rfl,rfl,aa,V.o,Y.o,by have:=HV.o;simp[val,this],Q.o,D⟩
   case round=>
    clear Q HV Y V D;obtain⟨j,I,p,hj,rfl,rfl,Yy,Z,U,hv,F,D⟩:=hrel;have V:=aW Z;clear Z;have Y:=aW U;clear U;have HV:=aW hv;clear hv;by_cases M:j<m
    .obtain⟨bd,y,rfl,_,R,K,YG⟩:=(hB.ext D).at_ M;obtain⟨O,x',e1,_,S,_,YA⟩:=(hA.ext D).at_ Yu;cases e1
     obtain rfl:x'=x:=by have:=HX.o;rw[S] at this;injection this
     have HY:=aW R;clear R S;obtain⟨z,U,C,W,YB⟩:=F.at_ (k:=k+j) Ab0;have Zc:=aW U;clear U;have Q:=aW F;clear F;obtain⟨t,ht⟩:∃t,t=x'*y:=⟨_,rfl⟩;have ZM:t<=18446744065119617025:=by rw[ht];exact vw G K
     have q1:(0:Int)<=k:=aa;have q2:(k:Int)<n:=aa;have q3:(0:Int)<=j:=aa;have q4:(j:Int)<m:=aa;have q5:(0:Int)<=(k:Int)+(j:Int):=aa;have q6:(k:Int)+(j:Int)<(n:Int)+(m:Int):=aa;have T:(k:Int)+(j:Int)<((n+m:Nat):Int):=aa;have e1:IntKind.u64.wrap ((x':Int)*(y:Int))=(t:Int):=by rw[aaG _ AcT,ht];simp
     have e2:IntKind.u64.wrap ((t:Int)+(z:Int))=(t:Int)+z:=aaG _ aa;have e3:IntKind.u64.wrap ((t:Int)+(z:Int)+(I:Int))=(t:Int)+z+I:=aaG _ aa;have e4:IntKind.i64.wrap ((k:Int)+(j:Int))=(k:Int)+j:=aa3 _ aa;have e5:((k:Int)+(j:Int)).toNat=k+j:=aa;have HT:=aW ht;clear ht;go_wp2;go_quiet (fail);clear e1 e2 e3 e4 e5;go_wp2;go_roundw
     case rel=>exact⟨j+1,(t+z+I)/4294967296,p.set (k+j) ((t+z+I)%4294967296),aa,au,au,aa,by simp[V.o],Y.set aa,Ic Zc.o HY.o (by rw[HT.o]) HV.o,(Q.drewN _).set aa aa,(D.drewN _).setCell (κ _) _⟩
     case measure=>simp[aT,intOf]<;>omega
    .obtain rfl:j=m:=aa;obtain⟨z,U,C,W,YB⟩:=F.at_ (k:=k+j) Ab0;have YP:=Y.at_ Ab0;have YS:=aW YP;clear YP U;have Q:=aW F;clear F;go_wp2;go_roundw
     case rel=>exact⟨k+1,p.set (k+j) I,aa,au,by simp[V.o],(Y.mono aa).set aa,Nn YS.o HX.o HB.o HV.o,Q.set rfl Yy,D.setCell (κ _) _⟩
     case measure=>simp[aT,intOf]<;>omega
  .obtain rfl:k=n:=aa;have F:=Q.o;have Z:=V.o;go_wp2_with fail;refine(ja _ _ _ p _ (F.rm Z aa) aa).mono ?_;exact Aa0
def Ka(A B n m c d a b w)(j:RM w A n c a)(C:RM w B m d b)(hn:n<=100000)(H:m<=100000):
  CV 217 #[aO A n c,aO B m d] w fun v w'=>SlM (dF (val a*val b)) v w':=by
 by_cases G:n=0
 .subst G;obtain rfl:=j.empty;exact Aa9
 .have F:((n:Int)==0)=ζ:=ae;by_cases D:m=0
  .subst D;obtain rfl:=C.empty;exact Aa9
  .exact LG A B n m c d a b w j C hn H ⟨aa,aa⟩
def xy(A B n m c d a b w)(D:RM w A n c a)(C:RM w B m d b)(hn:n<=100000)(j:m<=100000):
  CV 186 #[aO A n c,aO B m d] w fun v w'=>SlM (dF (val a*val b)) v w':=Ls A B n m c d a b w D C hn j trivial
end Go.Proofs.YtbfnfkppkmpieaaGreat
