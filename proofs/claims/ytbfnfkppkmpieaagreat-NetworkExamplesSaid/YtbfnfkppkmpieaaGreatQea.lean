import Derived.WalkKit
import Derived.WalkSpells
import Derived.WalkLawsBesides
import Derived.Lib.Hide
import Derived.Deep.QuietTactic
import Derived.BigQuiet
import Derived.Deep.AppendLies
import Derived.Deep.Draws
import Derived.Laws.OwnMore
import Derived.Laws.Rows
import Derived.KernelRfl
import Derived.Laws.BytesArg
import Derived.StillTailTactics
import Derived.OrdersHeld
import Derived.Test.YtbfnfkppkmpieaaGreatProg
import Derived.Lib.EndianBits
import Derived.Deep.CutBlock
import Derived.Deep.DeepCutAuto
import Derived.Deep.LoopGhost
import Derived.Shelf.Small.Bits
import Derived.Lib.ItoaNum
import Derived.Deep.WholeRow
import Derived.WalkMore
import Derived.Laws.CopyRow
import Derived.Deep.MidRow
import Derived.Deep.AppendSrc
import Derived.Lib.Strings
import Derived.Maps.OwnOps
import Derived.Maps.Views
import Derived.StringKeys
import Derived.RegionTactic
import Derived.Test.YtbfnfkppkmpieaaGreatChecked
import GoSem.Claim
import GoSem.ClaimJoined
import GoSem.ClaimMapViews
import Derived.JoinedTies
import Derived.Test.YtbfnfkppkmpieaaGreatRows
import Derived.ProofKit
import Derived.Lib.SmallJoins
import Derived.Deep.Slices
import Derived.Deep.Fields
import Derived.ChangeSame
import Derived.Deep.Strs
import Derived.Deep.Grids
set_option linter.unusedVariables false
set_option linter.unusedSimpArgs false
set_option maxHeartbeats 25600000
set_option maxRecDepth 200000
set_option linter.defProp false
namespace Go.Proofs
open Go.Shelf
def Tryz.lays128_ren : Go.Shelf.Ren := ⟨fun | 128 => 227 | n => n, fun | 51 => 208 | 3 => 3 | 4 => 4 | 46 => 236 | 5 => 5 | 9 => 9 | n => n, fun | n => n⟩
theorem Tryz.lays128 : Go.Proofs.Lays.n128 Tryz.prog Tryz.lays128_ren := {
 mixed := by kernel_rfl
 f128 := Tryz.func227.trans (congrArg some (by kernel_rfl))
 t3 := Tryz.underlying3
 a3 := Tryz.isAgg3
 z3 := Tryz.sizeOf3
 v3 := Tryz.zeroValue3
 t4 := Tryz.underlying4
 a4 := Tryz.isAgg4
 z4 := Tryz.sizeOf4
 v4 := Tryz.zeroValue4
 t5 := Tryz.underlying5
 a5 := Tryz.isAgg5
 z5 := Tryz.sizeOf5
 v5 := Tryz.zeroValue5
 t9 := Tryz.underlying9
 a9 := Tryz.isAgg9
 z9 := Tryz.sizeOf9
 v9 := Tryz.zeroValue9
 t46 := Tryz.underlying236
 a46 := Tryz.isAgg236
 z46 := Tryz.sizeOf236
 v46 := Tryz.zeroValue236
 t51 := Tryz.underlying208
 a51 := Tryz.isAgg208
 z51 := Tryz.sizeOf208
 v51 := Tryz.zeroValue208 }
theorem Tryz.bits_Len32 (x : Int) (w : World) (h0 : 0 ≤ x) (h1 : x ≤ 4294967295) :
   Calls Tryz.prog 227 #[.int .u32 x] w fun e w' => e = .returned (.int .i64 (Lib.bitLen x.toNat)) ∧ w' = w := Any.bits_Len32 Tryz.lays128 x w h0 h1
def Tryz.lays133_ren : Go.Shelf.Ren := ⟨fun | 133 => 219 | 128 => 227 | n => n, fun | 51 => 208 | 3 => 3 | 4 => 4 | 46 => 236 | 5 => 5 | 9 => 9 | n => n, fun | n => n⟩
theorem Tryz.lays133 : Go.Proofs.Lays.n133 Tryz.prog Tryz.lays133_ren := {
 mixed := by kernel_rfl
 f128 := Tryz.func227.trans (congrArg some (by kernel_rfl))
 f133 := Tryz.func219.trans (congrArg some (by kernel_rfl))
 t3 := Tryz.underlying3
 a3 := Tryz.isAgg3
 z3 := Tryz.sizeOf3
 v3 := Tryz.zeroValue3
 t4 := Tryz.underlying4
 a4 := Tryz.isAgg4
 z4 := Tryz.sizeOf4
 v4 := Tryz.zeroValue4
 t5 := Tryz.underlying5
 a5 := Tryz.isAgg5
 z5 := Tryz.sizeOf5
 v5 := Tryz.zeroValue5
 t9 := Tryz.underlying9
 a9 := Tryz.isAgg9
 z9 := Tryz.sizeOf9
 v9 := Tryz.zeroValue9
 t46 := Tryz.underlying236
 a46 := Tryz.isAgg236
 z46 := Tryz.sizeOf236
 v46 := Tryz.zeroValue236
 t51 := Tryz.underlying208
 a51 := Tryz.isAgg208
 z51 := Tryz.sizeOf208
 v51 := Tryz.zeroValue208 }
theorem Tryz.bits_LeadingZeros32 (x : Int) (w : World) (h0 : 0 ≤ x) (h1 : x ≤ 4294967295) :
   Calls Tryz.prog 219 #[.int .u32 x] w fun e w' => e = .returned (.int .i64 (32 - (Lib.bitLen x.toNat : Int))) ∧ w' = w := Any.bits_LeadingZeros32 Tryz.lays133 x w h0 h1
end Go.Proofs
namespace Go.Proofs.YtbfnfkppkmpieaaGreat
open Go.RowKit
open Go.Proofs.Tryz
open Option renaming some->γ,none->δ
open Bool renaming true->ε,false->ζ
open Inhabited renaming default->η
def θ:=@if_neg
def ι:=@if_pos
def κ:=@Nat.le_refl
def μ:=@List.cons_append
def ν:=@List.getElem?_eq_some_iff
def ξ:=@List.nil_append
def ο:=@List.getElem?_eq_getElem
def π:=@Nat.lt_of_lt_of_le
def ρ:=@List.drop_succ_cons
def σ:=@wpQuiet_nil
def τ:=@Bool.and_eq_true
def υ:=@decide_eq_false
def φ:=@List.drop_zero
def χ:=@Nat.mul_assoc
def ψ:=@List.getD_eq_getElem?_getD
def ω:=@List.take_of_length_le
def Γ:=@Nat.lt_of_le_of_lt
def Δ:=@Nat.mul_add
def Θ:=@wpList_load_mid
def Λ:=@decide_eq_true_eq
def Ξ:=@decide_eq_true
def Ω:=@List.getElem?_toArray
def ib:=@Nat.mul_le_mul_left
def kC:=@List.getElem?_append_left
def lh:=@Nat.le_trans
def nk:=@List.setIfInBounds_toArray
def nC:=@List.length_cons
def nG:=@List.mem_cons_of_mem
def nH:=@List.all_eq_true
def nV:=@List.getElem?_append_right
def pq:=@List.mem_cons
def pz:=@Nat.mul_comm
def qa:=@Int.mul_ne_zero
def q8:=@Nat.mod_lt
def q9:=@Nat.mul_le_mul_right
def wo:=@List.getElem?_eq_none
def wN:=@List.mem_cons_self
def y5:=@Nat.zero_le
def y7:=@List.mem_of_getElem?
def y8:=@Nat.pow_succ
def y9:=@List.length_append
def Aa:=@if_true
def Ab:=@Nat.pow_le_pow_right
def Ad:=@List.size_toArray
def A8:=@List.length_take
def Be:=@Nat.eq_zero_or_pos
def Bn:=@Nat.add_zero
def BB:=@List.getElem?_take_of_lt
def De:=@Int.natAbs_mul
def D5:=@Nat.gcd_dvd_left
def Ej:=@List.set_cons_succ
def Ex:=@List.set_cons_zero
def Ha:=@Nat.lt_or_ge
def I4:=@List.eq_nil_of_length_eq_zero
def I5:=@World.ownsRow_nil
def Nq:=@List.getElem?_map
def NK:=@Nat.pow_pos
def PI:=@Bool.false_eq_true
def RS:=@List.getElem?_drop
def Zb:=@Nat.add_mul
def Z4:=@decide_eq_false_iff_not
def Z5:=@List.not_mem_nil
def Z6:=@Nat.mul_le_mul
def aaa:=@List.mem_range
def aab:=@List.append_assoc
def aac:=@Proofs.Tryz.underlying102
def aad:=@Int.ofNat_dvd_left
def aae:=@Nat.dvd_trans
def aaf:=@List.mem_map
def aag:=@bodyPost_ret
def aah:=@Int.toNat_natCast
def aai:=@Proofs.Tryz.underlying44
def aaj:=@List.append_nil
def aak:=@Proofs.Tryz.underlying42
def aal:=@Nat.gcd_dvd_right
def aam:=@IntWalk.wrap64_in
def aan:=@Nat.le_of_lt
def aao:=@List.getElem?_set_ne
def aap:=@List.drop_eq_nil_of_le
def aaq:=@List.take_succ_cons
def aar:=@List.ext_getElem?
def aas:=@Proofs.Tryz.underlying45
def aat:=@Nat.min_eq_left
def aau:=@Rat.intCast_mul
def aav:=@Nat.mul_one
def aaw:=@List.map_append
def aax:=@Ne.symm
def aay:=@RowKit.Below.heap_alloc
def aaz:=@Region.noSelect_spec
def aaA:=@Nat.zero_add
def aaB:=@results_none
def aaC:=@Array.getElem?_eq_none
def aaD:=@Nat.pow_add
def aaE:=@Nat.one_mul
def aaF:=@Result.andThen_ok
def aaG:=@Option.some.injEq
def aaH:=@List.drop_eq_getElem_cons
def aaI:=@List.length_map
def aaJ:=@Nat.gcd_comm
def aaK:=@Sem.run_bind
def aaL:=@Nat.lt_succ_self
def aaM:=@getD_replicate_false
def aaN:=@IntWalk.u64_in
def aaO:=@mem_ready
def aaP:=@List.replicate_succ
def aaQ:=@List.getElem?_range
def aaR:=@Int.mul_assoc
def aaS:=@List.take_succ_eq_append_getElem
def aaT:=@Region.free_spec
def aaU:=@Nat.mod_eq_of_lt
def aaV:=@Nat.div_lt_iff_lt_mul
def aaW:=@Rat.mul_nonneg
def aaX:=@Lib.run_eql_slice_nil
def aaY:=@Nat.sub_self
def aaZ:=@Nat.add_comm
def aa0:=@List.replicate_zero
def aa1:=@World.ownsRow.alloc
def aa2:=@or_false
def aa3:=@IntWalk.i64_in
def aa4:=@Proofs.Tryz.underlying4
def aa5:=@Nat.zero_mul
def aa6:=@Nat.mul_lt_mul_of_pos_right
def aa7:=@Sem.run_pure
def aa8:=@bodyPost_end
def aa9:=@Rat.intCast_add
def aba:=@List.mem_append
def abb:=@Bool.or_eq_true
def abd:=@List.length_set
def abe:=@Array.getElem?_eq_some_iff
def abf:=@Int.tmod_eq_emod_of_nonneg
def abg:=@World.ownsRow_lit
def abh:=@Nat.mul_left_comm
def abj:=@of_decide_eq_true
def abk:=@Nat.eq_of_mul_eq_mul_left
def abl:=@run_underlying
def abm:=@List.take_zero
def abn:=@Nat.lt_trans
def abo:=@Nat.div_eq_of_lt
def abp:=@Int.natCast_ediv
def abq:=@Int.mul_ediv_cancel_left
def abr:=@List.getElem_mem
def abt:=@Calls.quiet_of_same
def abu:=@List.take_set_of_le
def abv:=@List.mem_map_of_mem
def abw:=@Nat.gcd_pos_of_pos_left
def abx:=@List.range_succ
def aby:=@Rat.mul_eq_zero
def abz:=@ready_mono
def abA:=@Nat.div_add_mod
def abB:=@run_loadVar_row
def abC:=@Proofs.Tryz.underlying183
def abD:=@Nat.le_mul_of_pos_left
def abE:=@Option.map_eq_some_iff
def abF:=@List.getElem?_set_self
def abG:=@Int.mul_left_comm
def abH:=@Int.natAbs_sub_le
def abI:=@Proofs.Tryz.underlying99
def abJ:=@Int.ediv_eq_iff_eq_mul_right
def abK:=@List.set_append_right
def abL:=@if_false
def abM:=@List.length_drop
def abN:=@Nat.gcd_mul_left
def abO:=@seqB_ready
def abP:=@info_parts
def abQ:=@List.getElem?_of_mem
def abR:=@wpList_mapUpdate_own
def abS:=@Nat.add_assoc
def abT:=@List.all_cons
def abU:=@Bool.true_and
def abV:=@Int.tdiv_eq_ediv_of_nonneg
def abW:=@getD_set_ne
def abX:=@Nat.mul_two
def abY:=@Rat.intCast_sub
def abZ:=@List.getLast?_eq_getElem?
def ab0:=@Nat.lt_of_mul_lt_mul_left
def ab1:=@Array.getElem?_eq_getElem
def ab2:=@List.mem_filter
def ab3:=@RowKit.Below.heap_setCell
def ab4:=@Array.setIfInBounds_comm
def ab5:=@wpAny_of_seq
def ab6:=@List.eq_of_mem_replicate
def ab7:=@Int.sub_eq_add_neg
def ab8:=@Proofs.Tryz.underlying167
def ab9:=@Bool.false_and
def aca:=@Int.mul_nonneg
def acb:=@Int.mul_le_mul
def acd:=@plainElem_bool
def ace:=@List.getElem?_cons_succ
def acf:=@Nat.lt_trichotomy
def acg:=@Int.natAbs_add_le
def ach:=@Proofs.Tryz.underlying38
def aci:=@Nat.lt_succ_of_lt
def acj:=@Nat.le_succ
def ack:=@Int.neg_dvd
def acl:=@rounds_succ
def acm:=@wp_region_any
def acn:=@Nat.gcd_assoc
def aco:=@Addr.mk.injEq
def acp:=@List.take_length
def acr:=@List.take_append_drop
def acs:=@Int.mul_eq_zero
def acu:=@RowKit.Below.refl
def acv:=@Nat.mul_add_div
def acw:=@Int.ediv_nonneg
def acx:=@Nat.div_le_self
def acy:=@Nat.not_lt_zero
def acz:=@Array.eq_empty_of_size_eq_zero
def acA:=@Proofs.Tryz.ntmps77
def acB:=@Proofs.Tryz.ntmps79
def acC:=@World.news_of_block
def acD:=@List.length_pos_iff
def acE:=@List.map_congr_left
def acF:=@List.getElem_of_mem
def acG:=@Nat.dvd_gcd
def acH:=@Proofs.Tryz.func77
def acI:=@Proofs.Tryz.func79
def acJ:=@wpOp_mono
def acK:=@Nat.gcd_zero_right
def acL:=@Proofs.Tryz.underlying174
def acM:=@List.filter_append
def acN:=@Proofs.Tryz.underlying187
def acO:=@World.size_setCell
def acP:=@Int.eq_of_mul_eq_mul_right
def acQ:=@List.map_cons
def acR:=@Bool.true_bne
def acS:=@Proofs.Tryz.ntmps134
def acT:=@Bool.eq_false_iff
def acU:=@Int.lt_trichotomy
def acV:=@Nat.gcd_mul_right
def acW:=@Bool.not_eq_true'
def acX:=@List.take_add_one
def acY:=@List.foldl_append
def acZ:=@Proofs.Tryz.underlying92
def ac0:=@Proofs.Tryz.underlying28
def ac1:=@Proofs.Tryz.underlying96
def ac2:=@Proofs.Tryz.underlying57
def ac3:=@Int.mul_neg_of_pos_of_neg
def ac4:=@Int.eq_of_mul_eq_mul_left
def ac5:=@Nat.dvd_mul_left
def ac6:=@Int.mul_comm
def ac7:=@run_make
def ac8:=@Nat.ne_of_lt
def ac9:=@List.mem_flatMap
def ada:=@Proofs.Tryz.func134
def adb:=@and_true
def adc:=@Proofs.Tryz.ntmps68
def ade:=@Proofs.Tryz.ntmps75
def adf:=@List.getLast?_cons_cons
def adg:=@List.getElem?_cons_zero
def adh:=@Nat.mul_add_mod
def adi:=@decide_true
def adj:=@Nat.div_div_eq_div_mul
def adk:=@List.drop_of_length_le
def adl:=@Proofs.Tryz.func68
def adm:=@Proofs.Tryz.func75
def adn:=@List.filter_eq_nil_iff
def ado:=@Int.natAbs_dvd_natAbs
def adp:=@getD_in
def adq:=@List.singleton_append
def adr:=@Nat.mul_div_mul_right
def ads:=@Nat.Coprime.mul_right
def adt:=@Nat.le_of_ble_eq_true
def adu:=@wp_loop_rounds
def adv:=@List.mem_of_mem_take
def adw:=@execOp_put
def adx:=@wanted_put
def ady:=@List.set_append_left
def adz:=@Nat.add_mul_div_left
def adA:=@Int.ediv_emod_unique
def adB:=@List.forall_mem_cons
def adC:=@ite_self
def adD:=@Proofs.Tryz.ntmps144
def adE:=@Proofs.Tryz.ntmps113
def adF:=@Proofs.Tryz.ntmps216
def adG:=@Proofs.Tryz.ntmps152
def adH:=@bits_join_low
def adI:=@Proofs.Tryz.ntmps180
def adJ:=@Bool.and_true
def adK:=@Proofs.Tryz.ntmps204
def adL:=@Proofs.Tryz.ntmps136
def adM:=@Proofs.Tryz.ntmps132
def adN:=@Proofs.Tryz.ntmps189
def adO:=@List.flatMap_append
def adP:=@Nat.lt_mul_div_succ
def adQ:=@all_oneCell_toArray
def adS:=@Proofs.Tryz.func144
def adT:=@Proofs.Tryz.ntmps31
def adW:=@Rat.le_total
def adZ:=@wpList_plain
def ad1:=@List.map_set
def ad3:=@Proofs.Tryz.ntmps97
def ad4:=@Proofs.Tryz.func113
def ad5:=@Proofs.Tryz.func216
def ad6:=@decide_false
def ad7:=@Proofs.Tryz.func152
def ad8:=@wraps_u32
def ad9:=@Proofs.Tryz.func180
def aea:=@Proofs.Tryz.func204
def aed:=@Int.zero_sub
def aeh:=@Proofs.Tryz.func136
def aei:=@Proofs.Tryz.func132
def aej:=@Proofs.Tryz.func189
def aem:=@Classical.em
def aen:=@Proofs.Tryz.ntmps63
def aeo:=@Proofs.Tryz.ntmps70
def aep:=@Proofs.Tryz.ntmps67
def aez:=@Proofs.Tryz.func31
def aeA:=@Int.one_mul
def aeB:=@Proofs.Tryz.func97
def aeC:=@Nat.gcd_rec
def aeD:=@setRow_heap
def aeE:=@Rat.mul_pos
def aeF:=@Proofs.Tryz.func63
def aeG:=@Proofs.Tryz.func70
def aeH:=@Proofs.Tryz.func67
def aJ{p:Prop}(h:p):Hid p:=Lib.hid h
def _root_.Go.RowKit.Hid.o{p:Prop}(h:Hid p):p:=h.out
def AbL{p:Prop}(t:p:=by have:=lY (hd.take n);rwa[A8,aat aa] at this):p:=t
def Abi{p:Prop}(t:p:=by rw[De,Int.natAbs_natCast] at this;exact this):p:=t
def AaJ{p:Prop}(t:p:=by simp only[aau,aa9];grind):p:=t
def Acr{p:Prop}(t:p:=by rw[GQ.aZ,J.re,R.re,J.im,R.im];simp only[aau,abY];grind):p:=t
def Abw{p:Prop}(t:p:=by
 rcases Ha j B.size with I|I
 .exact I
 .simp[aaC I] at T):p:=t
def AaE{p:Prop}(t:p:=by
 rcases Ha j n with h|h
 .exact h
 .exact absurd hj (tail_waits hs hc hn inv _ i rfl Q T j h)):p:=t
def AbW{p:Prop}(t:p:=by
 have Xd:x≠j:=by
  rintro rfl;have WE:x<B.size:=by
   rcases Ha x B.size with I|I
   .exact I
   .simp[aaC I] at Y
  simp[WE] at J
 rw[abW ε (aax Xd)] at J;rcases WK with rfl|⟨e,rfl⟩
 .exact hF x J
 .rw[Book.dK _ _ Xd];exact hF x J):p:=t
def AcK{p:Prop}(t:p:=by
 refine Z k ok hk WO ?_ WL;by_cases WN:j=k
 .subst WN;exact Y
 .rw[abW ε WN] at WJ;exact WJ):p:=t
def Ac7{p:Prop}(t:p:=by have h1:=K e O hb;rw[WH,getD_both T] at h1;cases h1):p:=t
def Adn{p:Prop}(t:p:=by rw[h] at hr;cases hr):p:=t
def Abb{p:Prop}(t:p:=by
 rw[abW ε (aax Y)] at J;rcases M with rfl|⟨e,rfl⟩
 .exact hF x J
 .rw[Book.dK _ _ Y];exact hF x J):p:=t
def Acm{p:Prop}(t:p:=by
 have:k=n:=by simpa using hk
 subst this;exact⟨by simpa[Region.lexHead] using hB,h⟩):p:=t
def AcR{p:Prop}(t:p:=by
 rcases Ha x B.size with I|I
 .exact I
 .simp[aaC I] at T):p:=t
def AaP{p:Prop}(t:p:=by rw[aaM] at Z;cases Z):p:=t
def Ach{p:Prop}(t:p:=by cases h):p:=t
def Abe{p:Prop}(t:p:=by rw[nH];intro x J;have:=K (x+1) (by simp at J⊢;omega);rwa[show k+(x+1)=k+1+x by omega] at this):p:=t
def Acj{p:Prop}(t:p:=by simpa using h):p:=t
def Abk{p:Prop}(t:p:=by
 rcases Ha j n with h|h
 .exact h
 .exact absurd M (tail_waits hs hc hn inv _ i rfl Q T j h)):p:=t
def Ab8{p:Prop}(t:p:=by
 rw[T] at J;have e:n+(l.toArray.size-n)=l.toArray.size:=by simp at hn⊢;omega
 rw[e] at J;refine acm O ?_;simpa using J):p:=t
def Aam{p:Prop}(t:p:=by
 go_wp2;go_loopw [5] (fun i wr=>∃k:Nat,k<=n/\i=.int .i64 ((k:Int)-1)/\a.drop k=b.drop k/\Ext w wr) (fun i _=>(intOf i+1).toNat)
 case atStart=>exact⟨n,κ _,rfl,by rw[aap (by rw[Q.o];omega),aap (by rw[P.o];omega)],Ext.refl _⟩
 case round=>
  obtain⟨k,Z,rfl,hd,D⟩:=hrel;have M:=aJ hd;clear hd;by_cases U:k=0
  .subst U;go_wp2;go_ret;exact⟨aM (Lc (by have:=M.o;simp at this;rw[this])),D⟩
  .obtain⟨j,rfl⟩:∃j,k=j+1:=⟨k-1,aa⟩;obtain⟨ad,x,rfl,hb,J,H,K⟩:=(G.ext D).at_ (k:=j) aa;obtain⟨bd,y,rfl,Y,R,I,V⟩:=(L.ext D).at_ (k:=j) aa;have T:=aJ J;clear J;have S:=aJ R;clear R;have q1:(0:Int)<=(j:Int):=aa;have q2:(j:Int)<(n:Int):=aa;rcases acf x y with F|F|F
   .go_wp2;go_quiet (fail);go_wp2;go_ret;exact⟨aM (zm (ut G.dg T.o S.o M.o F)),D.drewN _⟩
   .subst F;go_wp2;go_quiet (fail);go_wp2;go_quiet (fail);go_wp2;go_roundw
    case rel=>exact⟨j,aa,au,DN T.o S.o M.o,by first|exact(D.drewN _).drewN _|exact D.drewN _⟩
    case measure=>simp[intOf]<;>omega
   .go_wp2;go_quiet (fail);go_wp2;go_quiet (fail);go_wp2;go_ret;exact⟨aM (zB (ut L.dg S.o T.o M.symm F)),by first|exact(D.drewN _).drewN _|exact D.drewN _⟩):p:=t
def Acp{p:Prop}(t:p:=by go_wp2;go_ret;exact⟨aM (zm (ze G.dg W (by rw[Q.o,P.o];exact N))),Ext.refl _⟩):p:=t
def AcT{p:Prop}(t:p:=by go_wp2;go_ret;exact⟨aM (zB (ze L.dg C (by rw[Q.o,P.o];exact l))),Ext.refl _⟩):p:=t
def Aa5{p:Prop}(t:p:=by intro v1 w1 F D;go_wp2;go_ret;exact⟨_,rfl,⟨afm F (pE _),fun g D=>(F.lt g D).1⟩,fw D (Ext.new _ _) (by simp[Value.ownBlock])⟩):p:=t
def AaO{p:Prop}(t:p:=by go_wp2;go_ret;exact⟨aS (by rw[F.o]),Ext.new _ _⟩):p:=t
def Acs{p:Prop}(t:p:=by go_enter func96,ntmps96;exact AaO):p:=t
def Acn{p:Prop}(t:p:=by go_enter func178,ntmps178;exact AaO):p:=t
def Abs{p:Prop}(t:p:=by rw[j];omega):p:=t
def AbD{p:Prop}(t:p:=by rw[<-Δ];congr 1;omega):p:=t
def AaY{p:Prop}(t:p:=by refine(jL _ (k+1) (k+1) (o++[G]) _ (RM.blk P (U.append (Dig.one aa)) (by simp[L.o]) aa)).mono ?_;rintro e w1 ⟨v1,rfl,Z,M⟩;rw[N] at Z;go_wp2;go_ret;exact⟨_,rfl,Z,j.trans M⟩):p:=t
def Ab9{p:Prop}(t:p:=by have:=T.o;rw[ω (by rw[HA.o];omega),ω (by rw[V.o];omega)] at this;rw[jI,L.o];exact this):p:=t
def Aa4{p:Prop}(t:p:=by have:=D.size;simp;omega):p:=t
def AbS{p:Prop}(t:p:=by simp[Value.oneCell']):p:=t
def AaZ{p:Prop}(t:p:=by
 rintro e w1 ⟨v1,rfl,hR,M⟩;have N:val p=val a*val b:=by rw[V.o,ω (by rw[HA.o];omega)]
 rw[N] at hR;go_wp2;go_ret;exact⟨_,rfl,hR,D.trans M⟩):p:=t
def Ack{p:Prop}(t:p:=by rw[T.o];omega):p:=t
def AcS{p:Prop}(t:p:=by rw[show((x':Int)*(y:Int))=((x'*y:Nat):Int) by simp,<-W];omega):p:=t
def Aa7{p:Prop}(t:p:=by go_enter func217,ntmps217;go_wp2;go_ret;exact⟨_,rfl,⟨_,_,_,rfl,by simpa[val,iw] using afe⟩,Ext.refl _⟩):p:=t
def AaS{p:Prop}(t:p:=by intro v1 w1 F D;go_wp2;go_ret;exact⟨_,rfl,by simpa using F,fw D (Ext.new _ _) (by simp[Value.ownBlock])⟩):p:=t
def Acc{p:Prop}(t:p:=by go_ret;exact⟨_,rfl,I5 _ _ _ _,Ext.refl _⟩):p:=t
def Aaw{p:Prop}(t:p:=by rintro e w2 ⟨v2,rfl,⟨u,rfl,A2,n2,c2,rfl,R⟩,P⟩;rw[aL,aL,aL] at R;rw[aL,aL,aL];have P:=M.trans P;go_wp2;refine I _ _ ⟨⟨w2,P⟩,rfl⟩ ?_;clear I K;refine aT [8,9] [] _ ah ?_;simp only[bP,aU,μ,ξ];(repeat (go_big_quiet_step (fail)));refine σ ?_;have P:=C.trans P;simp only[bQ,ρ,φ];have b4:=lV P;have c4:=b4.cell;have f4:=b4.frozen;obtain⟨N,V,O⟩:=jq (fG P) aa b4 _ A2 n2 c2;have T:=aJ N;have U:=aJ V;have W:=aJ (O _ _ _ _ R);clear N V O;go_wp2;exact ik rfl rfl rfl U.o ⟨_,rfl,⟨_,rfl,_,_,_,rfl,W.o⟩,T.o⟩):p:=t
def AaG{p:Prop}(t:p:=by have j:=P.trans j;have b4:=lV j;have c4:=b4.cell;have W:=b4.frozen;obtain⟨D,V,F⟩:=jq (fG j) aa b4 _ A2 n2 c2;have I:=aJ D;have U:=aJ V;have K:=aJ (F _ _ _ _ G);clear D V F;go_wp2;exact ik rfl rfl rfl U.o ⟨_,rfl,⟨_,rfl,_,_,_,rfl,K.o⟩,I.o⟩):p:=t
def AbH{p:Prop}(t:p:=by go_wp2;exact ik rfl rfl rfl U.o ⟨_,rfl,⟨_,rfl,_,_,_,rfl,Y.o⟩,W.o⟩):p:=t
def Aas{p:Prop}(t:p:=by refine aR 8 [(ε,9),(ε,10)] ah ?_;intro K I;simp only[aU];(go_wp2_with fail);refine(kQ v4 _ _ Y).mono ?_;rintro e w5 ⟨v5,rfl,⟨u,rfl,A2,n2,c2,rfl,hI⟩,j⟩;have j:=G.trans j;go_wp2;refine I _ _ ⟨⟨w5,j⟩,rfl⟩ ?_;clear I K;refine aT [9,10] [] _ ah ?_;simp only[bP,aU,μ,ξ];(repeat (go_big_quiet_step (fail)));refine σ ?_;have T:=P.trans j;simp only[bQ,ρ,φ];have b4:=lV T;have c4:=b4.cell;have f4:=b4.frozen;obtain⟨k1,V,k3⟩:=jq (fG T) aa b4 _ A2 n2 c2;have K1:=aJ k1;have U:=aJ V;have K3:=aJ (k3 _ _ _ _ hI);clear k1 V k3;go_wp2;exact ik rfl rfl rfl U.o ⟨_,rfl,⟨_,rfl,_,_,_,rfl,K3.o⟩,K1.o⟩):p:=t
def Abj{p:Prop}(t:p:=by rintro e I ⟨rfl,j⟩;go_wp2;go_ret;exact⟨aM (by rw[aL,aL,Lu (x:=x) (y:=y) aa aa]),(oo P).trans j⟩):p:=t
def Acg{p:Prop}(t:p:=by rintro e I ⟨rfl,j⟩;go_wp2;go_ret;exact⟨aM (by rw[aL,aL,KV (x:=x) (y:=y) aa aa]),(oo P).trans j⟩):p:=t
def AcO{p:Prop}(t:p:=by have D:decide (y<0)=ζ:=υ C;go_wp2;go_ret;exact⟨aM (LY aa aa),oo P⟩):p:=t
def Ac9{p:Prop}(t:p:=by have D:decide (y<0)=ε:=Ξ C;go_wp2;go_ret;exact⟨aM (Mt aa aa),oo P⟩):p:=t
def AbF{p:Prop}(t:p:=by rintro e w1 ⟨rfl,M⟩;go_wp2;go_ret;exact⟨rfl,(Ext.new w _).trans M⟩):p:=t
def AaB{p:Prop}(t:p:=by have j:=M.trans j;have b4:=(Blk.new w 40 _).ext j;have c4:=b4.cell;have O:=b4.frozen;obtain⟨C,V,D⟩:=jq ((Ext.new w _).trans j) aa b4 (decide (z<0)) A2 n2 c2;have H:=aJ C;have U:=aJ V;have I:=aJ (D _ _ _ _ F);clear C V D;go_wp2;exact fC rfl rfl rfl U.o ⟨_,rfl,l.subst (motive:=fun t=>RI _ (iv (decide (z<0)) A2 n2 c2) t) (show RI _ (iv (decide (z<0)) A2 n2 c2) z from ⟨_,_,_,rfl,I.o⟩),H.o⟩):p:=t
def AaC{p:Prop}(t:p:=by refine⟨k+1,x*2^s/4294967296,o++[z+x*2^s%4294967296],aa,au,by simp[j.o],oH H,KX j.o W.o S.o,?_,(D.setCell (κ _) _).setCell (κ _) _⟩;have T:=(Q.set (k:=k) (Ui H hs M) (BG (aan hs) M)).set (k:=k+1) (TT H hs) (π (oH H) (by rw[<-wO (show s<=32 by omega)];exact Nat.le_mul_of_pos_right _ (NK aa)));rwa[FJ j.o I] at T):p:=t
def Acf{p:Prop}(t:p:=by rw[nV (by rw[j.o];exact κ _),j.o,aaY] at O;simpa using O.symm):p:=t
def Abx{p:Prop}(t:p:=by rw[show((g:Int)*(v0:Int))=((g*v0:Nat):Int) by simp,<-l];omega):p:=t
def AbA{p:Prop}(t:p:=by
 rcases Be b with h|h
 .subst h;rw[iw] at Z;simp at Z
 .exact h):p:=t
def AaM{p:Prop}(t:p:=by
 refine⟨j,U',qd::qs,aa,au,by rw[Xx.o,l.o],by have:=X5.o;simp;omega,XJ.o,?_,?_,?_,XP.setCell WL.size _⟩
 .exact⟨XF.o.1.far ae _,XF.o.2⟩
 .exact⟨XL.o.1.far ae _,XL.o.2⟩
 .have h1:=Yj.set (k:=j) (d:=qd) rfl XB;rwa[Fy] at h1):p:=t
def Ab2{p:Prop}(t:p:=by rw[l.o];omega):p:=t
def AcE{p:Prop}(t:p:=by have h1:=XE.o.2;rw[XD.o,Bb] at h1;rw[Fp hU.2 Ab2,h1,Nat.mul_div_cancel _ (NK aa)];have h2:=WP.o.2;rw[φ] at h2;omega):p:=t
def Ac4{p:Prop}(t:p:=by refine afL WU ?_;rw[WV];exact Ij WU (dS (by rw[Xq.o];exact κ _)) (by have:=zN T.o aa;simpa using this) aa aa):p:=t
def Adk{p:Prop}(t:p:=by have h1:=HN.ge;have h2:0<4294967296^(n+1):=NK aa;have h3:0<2147483648*4294967296^(n+1):=Nat.mul_pos aa h2;omega):p:=t
def Adw{p:Prop}(t:p:=by
 have h1:gu wr w3.heap.size qs:=by simpa using hq
 exact h1.rm (by have:=X5.o;omega) aa):p:=t
def AdE{p:Prop}(t:p:=by have h1:=eG (n:=b) (k:=la) (Γ WG (dS (by have:=Xq.o;omega)));omega):p:=t
def Aai{p:Prop}(t:p:=by
 obtain⟨u6,rfl,A6,n6,c6,rfl,WO⟩:=j;have e6:=K1.trans Q;have G:=U.ext Q;have I:=WG.ext Q;have D:=W.ext Q;have XG:=G.cell;have Xc:=G.frozen;have XD:=I.cell;have Xd:=I.frozen;clear WH f4;(go_wp2_with fail);obtain⟨m1,m2,m3⟩:=jq e6 aa I (decide (zr<0)) A6 n6 c6;have m4:=(G.far (p:=⟨w.heap.size+3,0,δ⟩) ag (.bool (decide (zr<0)))).far (p:=⟨w.heap.size+3,1,δ⟩) ag (.slice A6 n6 c6);have m5:=m3 _ _ _ _ D;have m6:=m3 _ _ _ _ WO;clear m3 XG Xc XD Xd G I D WO W Xx WG K1 U e6;rw[show w.heap.size+1+1+1=w.heap.size+3 from rfl];generalize (w6.setCell ⟨w.heap.size+3,0,δ⟩ (.bool (decide (zr<0)))).setCell ⟨w.heap.size+3,1,δ⟩ (.slice A6 n6 c6)=w7 at*
 have p4:w7.cell? ⟨w.heap.size+1+1,0,δ⟩=γ (.bool (decide (zq<0))):=by have:=m4.cell 0;simpa using this
 have Xg:w7.cell? ⟨w.heap.size+1+1,1,δ⟩=γ (.slice A4 n4 c4):=by have:=m4.cell 1;simpa using this
 have p5:w7.cell? ⟨w.heap.size+3,0,δ⟩=γ (.bool (decide (zr<0))):=by have:=m2.cell 0;simpa using this
 have Xl:w7.cell? ⟨w.heap.size+3,1,δ⟩=γ (.slice A6 n6 c6):=by have:=m2.cell 1;simpa using this
 have g4:w7.frozen? ⟨w.heap.size+1+1,0,δ⟩=ζ:=m4.frozen 0;have Xj:w7.frozen? ⟨w.heap.size+1+1,1,δ⟩=ζ:=m4.frozen 1;have g5:w7.frozen? ⟨w.heap.size+3,0,δ⟩=ζ:=m2.frozen 0;have Xi:w7.frozen? ⟨w.heap.size+3,1,δ⟩=ζ:=m2.frozen 1;go_region;go_wp2;obtain⟨n1,n2,n3⟩:=jq m1 aa m4 (decide (zq<0)) A4 n4 c4;have WP:=(m2.far (p:=⟨w.heap.size+2,0,δ⟩) ag (.bool (decide (zq<0)))).far (p:=⟨w.heap.size+2,1,δ⟩) ag (.slice A4 n4 c4);obtain⟨o1,o2,o3⟩:=jq n1 aa WP (decide (zr<0)) A6 n6 c6;have o4:=(n2.far (p:=⟨w.heap.size+3,0,δ⟩) ag (.bool (decide (zr<0)))).far (p:=⟨w.heap.size+3,1,δ⟩) ag (.slice A6 n6 c6);have r4:=o3 _ _ _ _ (n3 _ _ _ _ m5);have r5:=o3 _ _ _ _ (n3 _ _ _ _ m6);rw[<-F.o,<-Z.o];exact xz rfl rfl rfl (o4.ext (Ext.refl _).drew) rfl (o2.ext (Ext.refl _).drew) ⟨_,rfl,⟨_,_,rfl,⟨_,_,_,rfl,r4.ext (Ext.refl _).drew⟩,⟨_,_,_,rfl,r5.ext (Ext.refl _).drew⟩⟩,o1.drew⟩):p:=t
def Acb{p:Prop}(t:p:=by have h1:=hR.len;have h2:=eG (n:=x.natAbs%y.natAbs) (k:=m) (abn WK (dS (by rw[R.len];exact κ _)));omega):p:=t
def Aag{p:Prop}(t:p:=by
 have Q:zr=zOf ζ _:=Z.trans Xa.o.2;(go_wp2_with fail);refine(iA _ Aq nq cq _ _ hQ aa).mono ?_;rintro e w4 ⟨v4,rfl,Y,N⟩;rw[aL] at Y;rw[<-WZ] at Y;have WG:=aJ Q;clear Q WZ;have U:zq.natAbs<lim:=WH.o zq F.o;have WM:=hR.ext N;have N:=WF.trans N;clear c0 c1 hQ hR;(go_wp2_with fail);refine(kQ _ zq _ Y).mono ?_;rintro e w5 ⟨v5,rfl,j,WI⟩;rw[lK U] at j;obtain⟨u5,rfl,A5,n5,c5,rfl,D⟩:=j;have WN:=WM.ext WI;have WI:=N.trans WI;clear Y WM;(go_wp2_with fail);have Y9:=aK.blk (Blk.new w5 40 #[.bool (decide (zq<0)),.slice A5 n5 c5]);have WS:=WI.trans (Ext.new w5 (.cells #[.bool (decide (zq<0)),.slice A5 n5 c5] 40));have Xe:=WN.ext (Ext.new w5 (.cells #[.bool (decide (zq<0)),.slice A5 n5 c5] 40));have WO:=D.ext (Ext.new w5 (.cells #[.bool (decide (zq<0)),.slice A5 n5 c5] 40));generalize w5.alloc (.cells #[.bool (decide (zq<0)),.slice A5 n5 c5] 40)=w6 at*
 refine bz 3 [(ε,0),(ε,1),(ζ,2)] ah ah ?_;refine aT [0,1] [(ζ,2)] _ ah ?_;simp only[bP,aU,μ,ξ];(repeat (go_big_quiet_step (fail)));refine σ ?_;refine aR 2 [] ah ?_;intro K I;simp only[aU];(go_wp2_with fail);refine(iA ζ Ar nr cr _ _ (Xe.ext (Ext.refl w6).drew) aa).mono ?_;rintro e w7 ⟨v7,rfl,⟨A7,n7,c7,rfl,V⟩,W⟩;have W:=W.ji;go_wp2;refine I _ _ ⟨⟨w7,W⟩,rfl⟩ ?_;clear I K;simp only[bQ,ρ,φ];have G:=WS.trans W;have b4:=Gj G;have b5:=GH G;have c4:=b4.cell;have f4:=b4.frozen;have Xj:=b5.cell;have f5:=b5.frozen;obtain⟨n1,n2,n3⟩:=jq (xH G) aa b4 (decide (zq<0)) A5 n5 c5;have WP:=(b5.far (p:=⟨w.heap.size+2,0,δ⟩) ag (.bool (decide (zq<0)))).far (p:=⟨w.heap.size+2,1,δ⟩) ag (.slice A5 n5 c5);rw[aL,<-WG.o] at V;rw[aL,<-WG.o];obtain⟨o1,o2,o3⟩:=jq n1 aa WP (decide (zr<0)) A7 n7 c7;have o4:=(n2.far (p:=⟨w.heap.size+3,0,δ⟩) ag (.bool (decide (zr<0)))).far (p:=⟨w.heap.size+3,1,δ⟩) ag (.slice A7 n7 c7);have r4:=o3 _ _ _ _ (n3 _ _ _ _ (WO.ext W));have r5:=o3 _ _ _ _ (n3 _ _ _ _ V);have O1:=aJ o1;have O2:=aJ o2;have O4:=aJ o4;have R4:=aJ r4;have R5:=aJ r5;clear n1 n2 n3 WP o1 o2 o3 o4 r4 r5;go_wp2;rw[<-F.o,<-Z.o];exact xz rfl rfl rfl O4.o rfl O2.o ⟨_,rfl,⟨_,_,rfl,⟨_,_,_,rfl,R4.o⟩,⟨_,_,_,rfl,R5.o⟩⟩,O1.o⟩):p:=t
def AaD{p:Prop}(t:p:=by have K1:=aJ k1;have U:=aJ V;have K3:=aJ (k3 _ _ _ _ hI);clear k1 V k3;go_wp2;rw[<-WS.o,<-HZ.o];exact ik rfl rfl rfl U.o ⟨_,rfl,⟨_,rfl,_,_,_,rfl,K3.o⟩,K1.o⟩):p:=t
def Aca{p:Prop}(t:p:=by have b4:=lV WF;have c4:=b4.cell;have f4:=b4.frozen;obtain⟨k1,V,k3⟩:=jq (fG WF) aa b4 (decide (Z<0)) A2 n2 c2;exact AaD):p:=t
def AcY{p:Prop}(t:p:=by
 rcases Be gk with h|h
 .exact h
 .exact absurd (Xr.2 h) h0):p:=t
def Abh{p:Prop}(t:p:=by simp[World.setCell]):p:=t
def Aa9{p:Prop}(t:p:=by have G:=aJ F;clear F hs T;go_enter adS,adD;go_wp2;go_ret;exact⟨aS (by simpa using G.o),Ext.new _ _⟩):p:=t
def AaA{p:Prop}(t:p:=by rintro e w1 ⟨v1,rfl,j,M⟩;rw[Q.o] at j;obtain⟨u1,rfl,S⟩:=j;(go_wp2_with fail);refine(uB g u1 z _ ((hc.ext D).ext M) S).mono ?_;rintro e w2 ⟨T,rfl,G,P⟩;obtain⟨s2,A2,n2,c2,rfl,G⟩:=G.opn;have F:=M.trans P;have b4:=lV F;have c4:=b4.cell;have W:=b4.frozen;obtain⟨I,V,J⟩:=qQ (fG F) aa b4 s2 A2 n2 c2;have N:=aJ I;have U:=aJ V;have R:=aJ (J _ _ G);clear I V J;go_wp2;exact fC rfl rfl rfl U.o ⟨_,rfl,R.o,N.o⟩):p:=t
def Aaz{p:Prop}(t:p:=by obtain⟨s2,A2,n2,c2,rfl,G⟩:=G.opn;have J:=M.trans P;have b4:=lV J;have c4:=b4.cell;have f4:=b4.frozen;obtain⟨R,V,S⟩:=qQ (fG J) aa b4 s2 A2 n2 c2;have Y:=aJ R;have U:=aJ V;have Z:=aJ (S _ _ G);clear R V S;go_wp2;exact fC rfl rfl rfl U.o ⟨_,rfl,Z.o,Y.o⟩):p:=t
def AaQ{p:Prop}(t:p:=by exact fC rfl rfl rfl (hS.aH 0) ⟨_,rfl,(hS.aF 0),hS.ext⟩):p:=t
def AaV{p:Prop}(t:p:=by go_wp2;replace hS:=hS.pt 2 0 [.bool Xx,.slice Xk Xy Xw,.bool XB,.slice Xq Xu XD,.bool XP,.slice WX XR XO] o8;exact cO rfl rfl rfl (hS.aH 2) ⟨_,rfl,RG.mk (hS.aF 2) (hS.aF 1) (hS.aF 0),hS.ext⟩):p:=t
def Abc{p:Prop}(t:p:=by
 rcases F with h|h
 .left;intro e;rw[e] at Z;simp at Z;exact h Z
 .right;intro e;rw[e] at eq;simp at eq;exact h eq):p:=t
def Ace{p:Prop}(t:p:=by
 rcases R with h|h
 .left;intro e;rw[e] at C;simp at C;exact h C
 .right;intro e;rw[e] at B;simp at B;exact h B):p:=t
def AcU{p:Prop}(t:p:=by
 have:=e6.symm;rcases acs.1 this with h|h
 .exact absurd h WN
 .exact h):p:=t
def AaI{p:Prop}(t:p:=by replace hS:=hS.mv F;clear F;go_wp2;go_ret;exact⟨aS (rfl),hS.ext⟩):p:=t
def Aav{p:Prop}(t:p:=by rintro e w2 ⟨v_,rfl,H,F⟩;replace hS:=hS.mv F;clear F;obtain⟨_,rfl,j⟩:=H;obtain⟨L,I,P,Z,rfl,B⟩:=RI.opn j;clear j;replace hS:=hS.aV B;clear B;have o5:Own w w2.heap.size:=aeT hS.ext ag;have R:=(St.al hS 40 #[.bool ζ,.slice δ 0 0] (g:=w2.heap.size) ag);have WY:=(R.aH 0).cell;have W9:=(R.aH 0).frozen;have O:=(St.al hS 40 #[.bool L,.slice I P Z] (g:=w2.heap.size) ag);have Xd:=(O.aH 0).cell;have Xp:=(O.aH 1).cell;have Xr:=(O.aH 1).frozen;go_wp2;replace hS:=(St.al hS 40 #[.bool L,.slice I P Z] (g:=w2.heap.size) ag).pt 1 0 [.bool L,.slice I P Z] o4;exact fC rfl rfl rfl (hS.aH 1) ⟨_,rfl,(hS.aF 0),hS.ext⟩):p:=t
def AaW{p:Prop}(t:p:=by go_wp2;replace hS:=hS.pt 1 0 [.bool Xm,.slice Xb Xf Xl,.bool XL,.slice Xg XR X7,.bool Xw,.slice Xj Xu Xx] o6;exact cO rfl rfl rfl (hS.aH 1) ⟨_,rfl,RG.mk (hS.aF 2) (hS.aF 1) (hS.aF 0),hS.ext⟩):p:=t
def Aak{p:Prop}(t:p:=by rintro e w4 ⟨v_,rfl,H,F⟩;replace hS:=hS.mv F;clear F;obtain⟨XG,XA,XH,XE,XC,Xy,XD,XF,XJ,Xz,XI,XB,rfl,R,K,B⟩:=H;replace hS:=hS.aV R;clear R;replace hS:=hS.aV K;clear K;replace hS:=hS.aV B;clear B;(go_wp2_with fail);refine(oF g6 _ T Xc Xe _ (hS.aH 0) (RG.mk (hS.aF 2) (hS.aF 1) (hS.aF 0))).mono ?_;rintro e w5 ⟨v_,rfl,H,F⟩;replace hS:=hS.mv F;clear F;obtain⟨_,rfl,Xl,Xf,Xn,Xk,Xr,Xi,Xv,Xw,Xo,Xh,Xj,Xm,rfl,j,N,I⟩:=H;replace hS:=hS.aV j;clear j;replace hS:=hS.aV N;clear N;replace hS:=hS.aV I;clear I;have Xd:=(hS.aH 2).cell;have Xp:=(hS.aH 2).frozen;go_wp2;replace hS:=hS.pt 2 0 [.bool Xl,.slice Xf Xn Xk,.bool Xr,.slice Xi Xv Xw,.bool Xo,.slice Xh Xj Xm] o4;exact mF rfl rfl rfl (hS.aH 2) ⟨_,rfl,⟨_,rfl,⟨_,_,_,RG.mk (hS.aF 2) (hS.aF 1) (hS.aF 0),Xg,Xx⟩⟩,hS.ext⟩):p:=t
def AbK{p:Prop}(t:p:=by rw[acT];intro e;exact h (L.zero.1 e)):p:=t
def Aap{p:Prop}(t:p:=by rintro e w5 ⟨v_,rfl,H,F⟩;replace hS:=hS.mv F;clear F;obtain⟨XE,Xz,XJ,XG,XD,XB,XC,XK,XH,XA,XF,XI,rfl,K,B,j⟩:=H;replace hS:=hS.aV K;clear K;replace hS:=hS.aV B;clear B;replace hS:=hS.aV j;clear j;(go_wp2_with fail);refine(oF g6 _ Xf T Xc _ (hS.aH 0) (RG.mk (hS.aF 2) (hS.aF 1) (hS.aF 0))).mono ?_;rintro e w6 ⟨v_,rfl,H,F⟩;replace hS:=hS.mv F;clear F;obtain⟨_,rfl,Xm,Xh,Xn,Xw,Xx,Xi,Xk,Xj,Xo,Xg,Xl,Xv,rfl,I,N,R⟩:=H;replace hS:=hS.aV I;clear I;replace hS:=hS.aV N;clear N;replace hS:=hS.aV R;clear R;have Xp:=(hS.aH 2).cell;have Xr:=(hS.aH 2).frozen;go_wp2;replace hS:=hS.pt 2 0 [.bool Xm,.slice Xh Xn Xw,.bool Xx,.slice Xi Xk Xj,.bool Xo,.slice Xg Xl Xv] o4;exact mF rfl rfl rfl (hS.aH 2) ⟨_,rfl,⟨_,rfl,⟨_,_,_,RG.mk (hS.aF 2) (hS.aF 1) (hS.aF 0),Xy,XL⟩⟩,hS.ext⟩):p:=t
theorem Aa0{p:Prop}(t:p:=by refine⟨_,rfl,π B m.size,fun j u H=> ?_⟩;rw[add_plain];have F:=hc j u H;unfold World.cell? at F⊢;have G:=m.block b B C;simp only[G];exact F):p:=t
def Aby{p:Prop}(t:p:=by rw[abx,adO];simp):p:=t
def Ab7{p:Prop}(t:p:=by rw[aX];omega):p:=t
def Ade{p:Prop}(t:p:=by rw[B];omega):p:=t
def Aco{p:Prop}(t:p:=by rw[Zb,Δ,Δ];omega):p:=t
def Aaj{p:Prop}(t:p:=by
 intro Xb WS Xv XJ Xy WM XB Xa XE WT Xw XF XO XN;refine dJ rf rf rf ?_ ?_
 .intro R I;have hW:=I.1;have X3:RI R (iv XH WN Xx Xz) WE:=RG.at1 (I.2 3 ((gv XH WN Xx Xz XK WU XA XG XI WZ XD XC),XM,XL) rf ah);have X4:RI R (iv XK WU XA XG) WJ:=RG.at2 (I.2 3 ((gv XH WN Xx Xz XK WU XA XG XI WZ XD XC),XM,XL) rf ah);have X7:RI R (iv XI WZ XD XC) WG:=RG.at3 (I.2 3 ((gv XH WN Xx Xz XK WU XA XG XI WZ XD XC),XM,XL) rf ah);have X6:RI R (iv Xb WS Xv XJ) WH:=RG.at1 (I.2 7 ((gv Xb WS Xv XJ Xy WM XB Xa XE WT Xw XF),XO,XN) rf ah);have X5:RI R (iv Xy WM XB Xa) WL:=RG.at2 (I.2 7 ((gv Xb WS Xv XJ Xy WM XB Xa XE WT Xw XF),XO,XN) rf ah);have X8:RI R (iv XE WT Xw XF) WI:=RG.at3 (I.2 7 ((gv Xb WS Xv XJ Xy WM XB Xa XE WT Xw XF),XO,XN) rf ah);clear I;go_simp;exact⟨rfl,(xZ g6 _ WE WJ WG _ WH WL WI _ (Blk.ext (hS.aH 2) hW) (RG.mk X3 X4 X7) (RG.mk X6 X5 X8)).mono fun e w' ⟨v,O,hR,J⟩=>⟨v,O,J,hR⟩⟩
 intro v_ Yu YF WO;obtain⟨R,WK⟩:=WO;have H:Fc.holds (.retp (WE) (WJ) (WG) (WH) (WL) (WI) 0) Yu YF v_ R:=WK.get;clear WK;obtain⟨_,rfl,Yt,Yk,Yz,Yp,Yv,Yi,Yy,YB,Ym,Yg,YI,YD,Yr,Yf,YJ,Yo,YE,Ye,Yq,YH,YG,Yl,YA,YC,rfl,-,-,-,-,-,-⟩:=H;clear R;refine Qp ?_;refine Qs ?_;refine bD ?_;intro w7 I;have j:=hS.lt;replace hS:=hS.mv I.ext;replace hS:=hS.aG I 3;replace hS:=hS.aG I 7;replace hS:=hS.aP I 8;clear I j B Y8 Y7;have XU:=(hS.aH 4).cell;have XV:=(hS.aH 4).frozen;go_wp2;replace hS:=hS.pt 4 0 [.bool Yt,.slice Yk Yz Yp,.bool Yv,.slice Yi Yy YB,.bool Ym,.slice Yg YI YD,.bool Yr,.slice Yf YJ Yo,.bool YE,.slice Ye Yq YH,.bool YG,.slice Yl YA YC] o4;exact rW rfl rfl rfl (hS.aH 4) ⟨_,rfl,⟨_,rfl,⟨_,_,_,_,_,_,RP.mk (hS.aF 5) (hS.aF 4) (hS.aF 3) (hS.aF 2) (hS.aF 1) (hS.aF 0),Yj,Zo,Yh,Zn⟩⟩,hS.ext⟩):p:=t
def Abt{p:Prop}(t:p:=by rw[De,De] at this;omega):p:=t
def Aad{p:Prop}(t:p:=by obtain⟨WY,WT,WX,WR,WU,WQ,WS,WZ,WN,WW,WO,WV,rfl⟩:=hv.opn;have k6:=j.cell;have f6:=j.frozen;obtain⟨p1,p2,p3⟩:=eX D aa j hv;have P1:=aJ p1;have P2:=aJ p2;have P3:=aJ p3;clear p1 p2 p3 D j hv;(go_wp2_with fail);exact cO rfl rfl rfl P2.o ⟨_,rfl,P3.o,P1.o⟩):p:=t
def AbR{p:Prop}(t:p:=by rintro e w2 ⟨v,rfl,⟨u,rfl,hu⟩,J⟩;clear k0;replace D:=D.trans J;replace j:=j.ext J;replace O:=O.ext J;clear J F T;(go_wp2_with fail);refine(tu g u _ _ _ O hu).mono ?_;rintro e w3 ⟨v,rfl,hv,J⟩;replace D:=D.trans J;replace j:=j.ext J;clear J hu O;exact Aad):p:=t
def AaK{p:Prop}(t:p:=by go_enter func190,ntmps190;(go_wp2_with fail);go_ret;exact⟨rfl,Ext.refl _⟩):p:=t
def Adz{p:Prop}(t:p:=by exact fun e=>WG e.symm):p:=t
theorem Aba{p:Prop}(t:p:=by unfold oh;rw[θ aa,θ aa];simp only[nU];exact WN.o.2 aa _ _ (S.o C aa W).1 (S.o C aa W).2 K.o.1 K.o.2 Xk.o):p:=t
def Acd{p:Prop}(t:p:=by
 go_roundw
 case rel=>
  refine⟨C+1,aa,aa,au,?_,Xn.o⟩;rw[<-CU _ aa];exact B.o
 case measure=>simp[intOf];omega):p:=t
theorem AcP{p:Prop}(t:p:=by intro j hj;unfold oh;rw[θ aa];exact WN.o.1 aa _ _ (S.o C aa W).1 (S.o C aa W).2 hj):p:=t
theorem Adb{p:Prop}(t:p:=by intro j hj;unfold oh;rw[θ aa];simp only[nU];exact WN.o.1 aa _ _ K.o.1 K.o.2 hj):p:=t
theorem Adp{p:Prop}(t:p:=by intro j hj;unfold oh;rw[θ aa];simp only[nU];exact HZ.o _ _ K.o.1 K.o.2 hj):p:=t
def Abr{p:Prop}(t:p:=by exact⟨_,hp.1.1,hp.1.2,(aeW B).trans hp.2⟩):p:=t
def Acl{p:Prop}(t:p:=by subst e;rw[upd_same];exact⟨rfl,⟨f,Xc.o,WZ.o⟩,by have:=Xn.o;show w.heap.size<=g;omega⟩):p:=t
def AcN{p:Prop}(t:p:=by
 by_cases e:C=i
 .subst e;rw[upd_same];exact⟨rfl,rfl⟩
 .rw[upd_ne e];exact HD.o.len C aa):p:=t
def Abu{p:Prop}(t:p:=by rintro g ⟨i,hi,rfl⟩ ⟨j,hj,e⟩;have h1:=XU.o i hi;have h2:=(Xt.o j hj).1;omega):p:=t
def Abn{p:Prop}(t:p:=by assumption):p:=t
def AbP{p:Prop}(t:p:=by rintro e w2 ⟨v,rfl,⟨u,rfl,hu⟩,J⟩;clear k0 k4 k5;replace D:=D.trans J;replace j:=j.ext J;replace O:=O.ext J;have Xh:=J.size;clear J F T;obtain⟨Xj,Xk,Xi,Xd,Xb,Xa,W9,Xl,Xm,Xg,Xc,Xf,rfl⟩:=hu.opn;obtain⟨B,WP⟩:=an1 w2 42 #[.bool Xj,.slice Xk Xi Xd,.bool Xb,.slice Xa W9 Xl,.bool Xm,.slice Xg Xc Xf];have HU:=aJ (hu.ext B);clear hu;replace D:=D.trans B;replace j:=j.ext B;replace O:=O.ext B;have k7:=WP.cell;(go_wp2_with fail);refine(qX g _ _ _ _ O HU.o).mono ?_;rintro e w3 ⟨v,rfl,hv,J⟩;replace D:=D.trans J;replace j:=j.ext J;clear J;exact Aad):p:=t
def Acx{p:Prop}(t:p:=by rintro e w3 ⟨v,rfl,hv,J⟩;replace D:=D.trans J;replace j:=j.ext J;clear J;exact Aad):p:=t
def Abl{p:Prop}(t:p:=by have e:bU b.u (part r0 bs b L)=fun _=>GQ.i 0 0:=funext fun l=>x9 r0 bs b L l;rw[e];exact mE _ cs):p:=t
def AbB{p:Prop}(t:p:=by rw[nC];omega):p:=t
def Abv{p:Prop}(t:p:=by rw[aa5,aaA] at this;rw[hb.cell,Ω,this];exact j):p:=t
def AbG{p:Prop}(t:p:=by rw[l];exact WL.o):p:=t
def AbM{p:Prop}(t:p:=by exact⟨0,0,by ext<;>simp only[GQ.dO,GQ.dQ,GQ.dE,GQ.dD]<;>grind,aj⟩):p:=t
def AbN{p:Prop}(t:p:=by have:=(hb b h).a;omega):p:=t
def Aaa{p:Prop}(t:p:=by
 obtain⟨k,hk,rfl,ht⟩:=hrel;have HT:=aJ ht;clear ht;by_cases WE:k<s.size
 .have Y:=Mg WE;obtain⟨l,WF⟩:∃n,vE s k=n:=⟨_,rfl⟩;have WL:l<256:=by rw[<-WF];exact Dl s k
  have S:=aJ (LK WF);rw[WF] at Y;clear WF;by_cases WP:k=0
  .subst WP;by_cases WG:l<=47
   .skip;obtain⟨T,L,W,C,N,D,G,B,P,H,U,J,M,K,R,F,O,V,I⟩:=nc0 l aa aa;have HG:Hid (iL s 0=ζ):=aJ (by rw[S.o];simp[dF,eu];omega);go_wp2;go_ret;exact⟨aS (dC WE HG.o).symm,rfl⟩
   have g0:47<l:=aa;clear WG;by_cases WI:l<=57
   .skip;obtain⟨T,L,W,C,N,D,G,B,P,H,U,J,M,K,R,F,O,V,I⟩:=nc1 l aa aa;have HG:Hid (iL s 0=ζ):=aJ (by rw[S.o];simp[dF,eu];omega);go_wp2;go_ret;exact⟨aS (dC WE HG.o).symm,rfl⟩
   have g1:57<l:=aa;clear WI;by_cases Xu:l<=64
   .skip;obtain⟨T,L,W,C,N,D,G,B,P,H,U,J,M,K,R,F,O,V,I⟩:=nc2 l aa aa;have HG:Hid (iL s 0=ζ):=aJ (by rw[S.o];simp[dF,eu];omega);go_wp2;go_ret;exact⟨aS (dC WE HG.o).symm,rfl⟩
   have g2:64<l:=aa;clear Xu;by_cases Xa:l<=90
   .skip;obtain⟨T,L,W,C,N,D,G,B,P,H,U,J,M,K,R,F,O,V,I⟩:=nc3 l aa aa;have HG:Hid (iL s 0=ε):=aJ (by rw[S.o];simp[dF,eu];omega);go_wp2_with fail
    go_round
    case rel=>exact⟨1,aa,au,jl HT.o HG.o⟩
    case measure=>simp[intOf]<;>omega
   have g3:90<l:=aa;clear Xa;by_cases WH:l<=94
   .skip;have T:decide ((97:Int)<=(l:Int))=ζ:=ae;have L:¬(97:Int)<=(l:Int):=aa;have W:decide ((65:Int)<=(l:Int))=ε:=ae;have C:(65:Int)<=(l:Int):=aa;have N:decide ((48:Int)<=(l:Int))=ε:=ae;have D:(48:Int)<=(l:Int):=aa;have G:decide ((l:Int)<=122)=ε:=ae;have B:(l:Int)<=122:=aa;have P:decide ((l:Int)<=90)=ζ:=ae;have H:¬(l:Int)<=90:=aa;have U:decide ((l:Int)<=57)=ζ:=ae;have J:¬(l:Int)<=57:=aa;have M:decide ((l:Int)<48)=ζ:=ae;have K:¬(l:Int)<48:=aa;have R:decide ((57:Int)<(l:Int))=ε:=ae;have F:(57:Int)<(l:Int):=aa;have O:((l:Int)==95)=ζ:=ae;have V:((l:Int) !=95)=ε:=ae;have I:¬(l:Int)=95:=aa;have HG:Hid (iL s 0=ζ):=aJ (by rw[S.o];simp[dF,eu];omega);go_wp2;go_ret;exact⟨aS (dC WE HG.o).symm,rfl⟩
   have g4:94<l:=aa;clear WH;by_cases Z:l<=95
   .skip;obtain⟨T,L,W,C,N,D,G,B,P,H,U,J,M,K,R,F,O,V,I⟩:=nc4 l aa aa;have HG:Hid (iL s 0=ζ):=aJ (by rw[S.o];simp[dF,eu];omega);go_wp2;go_ret;exact⟨aS (dC WE HG.o).symm,rfl⟩
   have g5:95<l:=aa;clear Z;by_cases WJ:l<=96
   .skip;have T:decide ((97:Int)<=(l:Int))=ζ:=ae;have L:¬(97:Int)<=(l:Int):=aa;have W:decide ((65:Int)<=(l:Int))=ε:=ae;have C:(65:Int)<=(l:Int):=aa;have N:decide ((48:Int)<=(l:Int))=ε:=ae;have D:(48:Int)<=(l:Int):=aa;have G:decide ((l:Int)<=122)=ε:=ae;have B:(l:Int)<=122:=aa;have P:decide ((l:Int)<=90)=ζ:=ae;have H:¬(l:Int)<=90:=aa;have U:decide ((l:Int)<=57)=ζ:=ae;have J:¬(l:Int)<=57:=aa;have M:decide ((l:Int)<48)=ζ:=ae;have K:¬(l:Int)<48:=aa;have R:decide ((57:Int)<(l:Int))=ε:=ae;have F:(57:Int)<(l:Int):=aa;have O:((l:Int)==95)=ζ:=ae;have V:((l:Int) !=95)=ε:=ae;have I:¬(l:Int)=95:=aa;have HG:Hid (iL s 0=ζ):=aJ (by rw[S.o];simp[dF,eu];omega);go_wp2;go_ret;exact⟨aS (dC WE HG.o).symm,rfl⟩
   have g6:96<l:=aa;clear WJ;by_cases WW:l<=122
   .skip;obtain⟨T,L,W,C,N,D,G,B,P,H,U,J,M,K,R,F,O,V,I⟩:=nc5 l aa aa;have HG:Hid (iL s 0=ε):=aJ (by rw[S.o];simp[dF,eu];omega);go_wp2_with fail
    go_round
    case rel=>exact⟨1,aa,au,jl HT.o HG.o⟩
    case measure=>simp[intOf]<;>omega
   have g7:122<l:=aa;clear WW;obtain⟨T,L,W,C,N,D,G,B,P,H,U,J,M,K,R,F,O,V,I⟩:=nc6 l aa aa;have HG:Hid (iL s 0=ζ):=aJ (by rw[S.o];simp[dF,eu];omega);go_wp2;go_ret;exact⟨aS (dC WE HG.o).symm,rfl⟩
  .have z1:((k:Int)==0)=ζ:=ae;have z2:¬(k:Int)=0:=aa;by_cases WG:l<=47
   .skip;obtain⟨T,L,W,C,N,D,G,B,P,H,U,J,M,K,R,F,O,V,I⟩:=nc0 l aa aa;have HG:Hid (iL s k=ζ):=aJ (by rw[S.o];simp[dF,eu];omega);go_wp2;go_ret;exact⟨aS (dC WE HG.o).symm,rfl⟩
   have g0:47<l:=aa;clear WG;by_cases WI:l<=57
   .skip;obtain⟨T,L,W,C,N,D,G,B,P,H,U,J,M,K,R,F,O,V,I⟩:=nc1 l aa aa;have HG:Hid (iL s k=ε):=aJ (by rw[S.o];simp[dF,eu];omega);go_wp2_with fail
    go_round
    case rel=>exact⟨k+1,aa,au,jl HT.o HG.o⟩
    case measure=>simp[intOf]<;>omega
   have g1:57<l:=aa;clear WI;by_cases Xu:l<=64
   .skip;obtain⟨T,L,W,C,N,D,G,B,P,H,U,J,M,K,R,F,O,V,I⟩:=nc2 l aa aa;have HG:Hid (iL s k=ζ):=aJ (by rw[S.o];simp[dF,eu];omega);go_wp2;go_ret;exact⟨aS (dC WE HG.o).symm,rfl⟩
   have g2:64<l:=aa;clear Xu;by_cases Xa:l<=90
   .skip;obtain⟨T,L,W,C,N,D,G,B,P,H,U,J,M,K,R,F,O,V,I⟩:=nc3 l aa aa;have HG:Hid (iL s k=ε):=aJ (by rw[S.o];simp[dF,eu];omega);go_wp2_with fail
    go_round
    case rel=>exact⟨k+1,aa,au,jl HT.o HG.o⟩
    case measure=>simp[intOf]<;>omega
   have g3:90<l:=aa;clear Xa;by_cases WH:l<=94
   .skip;have T:decide ((97:Int)<=(l:Int))=ζ:=ae;have L:¬(97:Int)<=(l:Int):=aa;have W:decide ((65:Int)<=(l:Int))=ε:=ae;have C:(65:Int)<=(l:Int):=aa;have N:decide ((48:Int)<=(l:Int))=ε:=ae;have D:(48:Int)<=(l:Int):=aa;have G:decide ((l:Int)<=122)=ε:=ae;have B:(l:Int)<=122:=aa;have P:decide ((l:Int)<=90)=ζ:=ae;have H:¬(l:Int)<=90:=aa;have U:decide ((l:Int)<=57)=ζ:=ae;have J:¬(l:Int)<=57:=aa;have M:decide ((l:Int)<48)=ζ:=ae;have K:¬(l:Int)<48:=aa;have R:decide ((57:Int)<(l:Int))=ε:=ae;have F:(57:Int)<(l:Int):=aa;have O:((l:Int)==95)=ζ:=ae;have V:((l:Int) !=95)=ε:=ae;have I:¬(l:Int)=95:=aa;have HG:Hid (iL s k=ζ):=aJ (by rw[S.o];simp[dF,eu];omega);go_wp2;go_ret;exact⟨aS (dC WE HG.o).symm,rfl⟩
   have g4:94<l:=aa;clear WH;by_cases Z:l<=95
   .skip;obtain⟨T,L,W,C,N,D,G,B,P,H,U,J,M,K,R,F,O,V,I⟩:=nc4 l aa aa;have HG:Hid (iL s k=ε):=aJ (by rw[S.o];simp[dF,eu];omega);go_wp2_with fail
    go_round
    case rel=>exact⟨k+1,aa,au,jl HT.o HG.o⟩
    case measure=>simp[intOf]<;>omega
   have g5:95<l:=aa;clear Z;by_cases WJ:l<=96
   .skip;have T:decide ((97:Int)<=(l:Int))=ζ:=ae;have L:¬(97:Int)<=(l:Int):=aa;have W:decide ((65:Int)<=(l:Int))=ε:=ae;have C:(65:Int)<=(l:Int):=aa;have N:decide ((48:Int)<=(l:Int))=ε:=ae;have D:(48:Int)<=(l:Int):=aa;have G:decide ((l:Int)<=122)=ε:=ae;have B:(l:Int)<=122:=aa;have P:decide ((l:Int)<=90)=ζ:=ae;have H:¬(l:Int)<=90:=aa;have U:decide ((l:Int)<=57)=ζ:=ae;have J:¬(l:Int)<=57:=aa;have M:decide ((l:Int)<48)=ζ:=ae;have K:¬(l:Int)<48:=aa;have R:decide ((57:Int)<(l:Int))=ε:=ae;have F:(57:Int)<(l:Int):=aa;have O:((l:Int)==95)=ζ:=ae;have V:((l:Int) !=95)=ε:=ae;have I:¬(l:Int)=95:=aa;have HG:Hid (iL s k=ζ):=aJ (by rw[S.o];simp[dF,eu];omega);go_wp2;go_ret;exact⟨aS (dC WE HG.o).symm,rfl⟩
   have g6:96<l:=aa;clear WJ;by_cases WW:l<=122
   .skip;obtain⟨T,L,W,C,N,D,G,B,P,H,U,J,M,K,R,F,O,V,I⟩:=nc5 l aa aa;have HG:Hid (iL s k=ε):=aJ (by rw[S.o];simp[dF,eu];omega);go_wp2_with fail
    go_round
    case rel=>exact⟨k+1,aa,au,jl HT.o HG.o⟩
    case measure=>simp[intOf]<;>omega
   have g7:122<l:=aa;clear WW;obtain⟨T,L,W,C,N,D,G,B,P,H,U,J,M,K,R,F,O,V,I⟩:=nc6 l aa aa;have HG:Hid (iL s k=ζ):=aJ (by rw[S.o];simp[dF,eu];omega);go_wp2;go_ret;exact⟨aS (dC WE HG.o).symm,rfl⟩
 .have WK:k=s.size:=aa;subst WK;go_wp2;go_ret;exact⟨aS (CS hp hm HT.o).symm,rfl⟩):p:=t
def Aci{p:Prop}(t:p:=by go_wp2;go_ret;exact⟨aS Q.symm,rfl⟩):p:=t
def Aa3{p:Prop}(t:p:=by go_enter func66,ntmps66;(go_wp2_with (go_at_call 109;refine(bf _ _ _ _).mono ?_;rintro e w1 ⟨rfl,rfl⟩));go_ret;exact⟨aS T.symm,rfl⟩):p:=t
def Aa1{p:Prop}(t:p:=by go_enter func115,ntmps115;(go_wp2_with (go_at_call 116;refine(dh _ _ _ _).mono ?_;rintro e w1 ⟨rfl,rfl⟩));go_ret;exact⟨aS T.symm,rfl⟩):p:=t
def Aaf{p:Prop}(t:p:=by go_enter func117,ntmps117;(go_wp2_with (first|(go_at_call 116;refine(dh _ _ _ _).mono ?_;rintro e w1 ⟨rfl,rfl⟩)|(go_at_call 115;refine(bM ⟨_,_⟩ _).mono ?_;rintro e w1 ⟨rfl,rfl⟩)));go_ret;exact⟨aS T.symm,Ext.new _ _⟩):p:=t
def AbQ{p:Prop}(t:p:=by go_enter func117,ntmps117;(go_wp2_with (first|(go_at_call 116;refine(dh _ _ _ _).mono ?_;rintro e w1 ⟨rfl,rfl⟩)|(go_at_call 115;refine(bM ⟨_,_⟩ _).mono ?_;rintro e w1 ⟨rfl,rfl⟩)));go_ret;exact⟨aS T.symm,(Ext.new _ _).trans (Ext.new _ _)⟩):p:=t
def AcX{p:Prop}(t:p:=by simp[bT,h,C,D,G]):p:=t
def Aac{p:Prop}(t:p:=by go_enter func111,ntmps111;(go_wp2_with (first|(go_at_call 109;refine(bf _ _ _ _).mono ?_;rintro e w1 ⟨rfl,rfl⟩)|(go_at_call 66;refine(bF ⟨_,_⟩ _).mono ?_;rintro e w1 ⟨rfl,rfl⟩)));go_quiet (fail);(go_wp2_with (first|(go_at_call 109;refine(bf _ _ _ _).mono ?_;rintro e w1 ⟨rfl,rfl⟩)|(go_at_call 66;refine(bF ⟨_,_⟩ _).mono ?_;rintro e w1 ⟨rfl,rfl⟩)));go_ret;exact⟨aS T.symm,(Ext.new _ _).drewN _⟩):p:=t
def AbO{p:Prop}(t:p:=by go_enter func111,ntmps111;(go_wp2_with (first|(go_at_call 109;refine(bf _ _ _ _).mono ?_;rintro e w1 ⟨rfl,rfl⟩)|(go_at_call 66;refine(bF ⟨_,_⟩ _).mono ?_;rintro e w1 ⟨rfl,rfl⟩)));go_quiet (fail);(go_wp2_with (first|(go_at_call 109;refine(bf _ _ _ _).mono ?_;rintro e w1 ⟨rfl,rfl⟩)|(go_at_call 66;refine(bF ⟨_,_⟩ _).mono ?_;rintro e w1 ⟨rfl,rfl⟩)));go_ret;exact⟨aS T.symm,((Ext.new _ _).drewN _).trans (Ext.new _ _)⟩):p:=t
def Adu{p:Prop}(t:p:=by have:=H.o;omega):p:=t
def AaL{p:Prop}(t:p:=by clear hc;go_enter func64,ntmps64;(go_wp2_with (first|(go_at_call 63;refine(F _).mono ?_;rintro e w1 ⟨rfl,rfl⟩)|(go_at_call 108;refine(Cn _ _ _ _ _ _ h B).mono ?_;rintro e w1 ⟨rfl,rfl⟩)));go_ret;exact⟨aM Q.symm,rfl⟩):p:=t
def Aar{p:Prop}(t:p:=by go_enter func110,ntmps110;go_wp2;go_ret;exact⟨aM T.symm,(Ext.new _ _).trans (Ext.new _ _)⟩):p:=t
def Ab6{p:Prop}(t:p:=by simp[ja,btw]<;>omega):p:=t
def AcQ{p:Prop}(t:p:=by have T:Hid (ja n1 n2 ⟨C,1,obj,en,⟨r,x⟩,B,l,ct,vt,sat,j⟩=9):=aJ Ab6;exact Aar):p:=t
def Ada{p:Prop}(t:p:=by have T:Hid (ja n1 n2 ⟨C,2,obj,en,⟨r,x⟩,B,l,ct,vt,sat,j⟩=9):=aJ Ab6;exact Aar):p:=t
def AaN{p:Prop}(t:p:=by
 generalize (b.links.getD 0 η).bus=b0 at f0 D;have q5:((bus:Int)==b0)=ζ:=ae;clear D;go_wp2;go_quiet (fail);go_wp2;go_roundw
 case rel=>exact⟨2,aa,rfl,fP O.o B.o,(L.alloc _).drewN _⟩
 case measure=>simp[intOf];omega):p:=t
def Ab0{p:Prop}(t:p:=by go_enter func112,ntmps112;go_wp2;go_ret;exact⟨aM T.symm,(Ext.new _ _).trans (Ext.new _ _)⟩):p:=t
def AcB{p:Prop}(t:p:=by rw[T.o];exact cZ O.o B.o aj I):p:=t
def Ac2{p:Prop}(t:p:=by rw[D] at f0;clear D;have q5:((bus:Int)==bus)=ε:=ag;go_wp2;go_quiet (fail);go_wp2;go_ret;exact⟨aM AcB,((Y.trans L.o).alloc _).drewN _⟩):p:=t
def Adh{p:Prop}(t:p:=by rw[fo];omega):p:=t
def AdB{p:Prop}(t:p:=by
 go_wp2;go_quiet (fail);go_wp2;go_roundw
 case rel=>exact⟨1,aa,rfl,fP O.o B.o,(L.alloc _).drewN _⟩
 case measure=>simp[intOf];omega):p:=t
def AdF{p:Prop}(t:p:=by have:=hc 0 _ rfl;rwa[aa5] at this):p:=t
def AdJ{p:Prop}(t:p:=by have B:Hid (iq n0 b k=9):=aJ (by rw[F.o,θ Adh]);go_wp2;go_ret;exact⟨aM AcB,(Y.trans L.o).alloc _⟩):p:=t
def AcA{p:Prop}(t:p:=by rw[Ad,aX];omega):p:=t
def Abz{p:Prop}(t:p:=by rw[iy _ _ (by rw[aX,aX])] at this;exact this):p:=t
def Aa6{p:Prop}(t:p:=by exact Bd.mono (m:=1) (D6 aj aj (κ 1)) aa):p:=t
def Abp{p:Prop}(t:p:=by rw[rQ];omega):p:=t
def AbV{p:Prop}(t:p:=by rw[Ad,aX,aX];omega):p:=t
def Abm{p:Prop}(t:p:=by intro u j;obtain⟨x,_,rfl⟩:=aaf.1 j;rfl):p:=t
def Aa2{p:Prop}(t:p:=by
 go_roundw
 case rel=>exact⟨k+1,aa,au,P.o,W.o⟩
 case measure=>simp[intOf];omega):p:=t
def AcL{p:Prop}(t:p:=by rw[Q.o,<-abS];simpa using I):p:=t
def Adt{p:Prop}(t:p:=by simp<;>omega):p:=t
theorem AdH{p:Prop}(t:p:=by unfold maxLen;omega):p:=t
def AaT{p:Prop}(t:p:=by (go_wp2_with fail);refine(vG nm A0 n0 c0 A1 n1 c1 A2 n2 c2 _ n3 c3 b h.A h.n h.c _ (O.ext (Y.trans H.o))).mono ?_;rintro e w3 ⟨rfl,J⟩;(go_wp2_with fail);go_ret;exact⟨aM B.symm,(Y.trans H.o).trans J⟩):p:=t
def Ac5{p:Prop}(t:p:=by have:=Z.o;omega):p:=t
def Aaq{p:Prop}(t:p:=by go_enter aez,adT;(go_wp2_with (first|(go_at_call 63;refine(F _).mono ?_;rintro e w1 ⟨rfl,rfl⟩)));go_quiet (fail);(go_wp2_with fail);go_ret;exact⟨aM T.symm,(Ext.new _ _).drewN _⟩):p:=t
def Ab4{p:Prop}(t:p:=by rw[<-h];exact HV.o):p:=t
def AcJ{p:Prop}(t:p:=by rw[WM.o];rfl):p:=t
theorem Ac8{p:Prop}(t:p:=by
 intro h;have:su s=ε:=by
  unfold su;rw[N,WH,l,WP];simp;omega
 rw[hc] at this;cases this):p:=t
def Ado{p:Prop}(t:p:=by have d4:decide ((16:Int)<(n3:Int))=ζ:=ae;exact absurd ⟨aa,aa,aa,aa,aa⟩ HC.o):p:=t
def Ac0{p:Prop}(t:p:=by intro e;injection e with e;omega):p:=t
def Aay{p:Prop}(t:p:=by clear I K Y1 Y2;simp only[bQ,ρ,φ];go_wp2;go_ret;have hm:=step_mod (B:=B) (i:=2) (u:=.slice (γ ⟨g,0,δ⟩) (m1+1) G) G2.o G3.o;refine⟨aM HV.symm,Xq.trans (kH R1.o Y Xn hm),fun _=>⟨Y,?_,_,_,_,_,V.nL 2 _,⟨_,iT R0.o R1.o aj Y hm⟩,⟨_,jh Xf.o (Mod.only (S:=fun k=>k=B) (Only.set _ _ _ _) rfl) (fun g' WL=>by have:=(Xf.lt g' WL).1;omega)⟩,⟨_,iT R2.o R1.o aj Y hm⟩,iT R3.o R1.o aj Y hm⟩⟩;have hn:=pF (B:=B) (i:=2) (u:=.slice (γ ⟨g,0,δ⟩) (m1+1) G) (Nam.put D1.o D2.o D3.o W9.o) RR.o Y G3.o;simpa using hn):p:=t
def AcD{p:Prop}(t:p:=by simp at hb;rcases hb with rfl|rfl<;>first|exact WP|exact R):p:=t
def Adg{p:Prop}(t:p:=by (go_wp2_with fail);refine(bM x.z0 _).mono ?_;rintro e w1 ⟨rfl,rfl⟩;rw[WY.o];go_wp2;go_ret;exact⟨aM HV.symm,Xo.trans (((Ext.new _ _).alloc _).mono ae),fun e=>absurd (HV.symm.trans e) aj⟩):p:=t
def AdA{p:Prop}(t:p:=by (go_wp2_with fail);refine(iO HB.o x.name).mono ?_;rintro e w1 ⟨rfl,rfl⟩;rw[WR.o];go_wp2;go_ret;exact⟨aM T.symm,Xo.o,fun e=>absurd (T.symm.trans e) HN.o⟩):p:=t
def AdK{p:Prop}(t:p:=by go_wp2;go_ret;exact⟨aM HV.symm,Xo.trans ((Ext.new _ _).mono ae),fun e=>absurd (HV.symm.trans e) aj⟩):p:=t
def AdN{p:Prop}(t:p:=by rw[<-HE.o,ι rfl]):p:=t
def Aax{p:Prop}(t:p:=by clear I K Y1 Y2;simp only[bQ,ρ,φ];go_wp2;go_ret;have hm:=step_mod (B:=B) (i:=3) (u:=.slice (γ ⟨g,0,δ⟩) (m2+1) G) G2.o G3.o;refine⟨aM HV.symm,Xq.trans (kH R2.o Y Xn hm),fun _=>⟨Y,?_,_,_,_,_,WM.nL 3 _,⟨_,iT R0.o R2.o aj Y hm⟩,⟨_,iT R1.o R2.o aj Y hm⟩,⟨_,jh Xf.o (Mod.only (S:=fun k=>k=B) (Only.set _ _ _ _) rfl) (fun g' WL=>by have:=(Xf.lt g' WL).1;omega)⟩,iT R3.o R2.o aj Y hm⟩⟩;have hn:=pF (B:=B) (i:=3) (u:=.slice (γ ⟨g,0,δ⟩) (m2+1) G) (Nam.put D1.o D2.o D3.o W9.o) RR.o Y G3.o;simpa using hn):p:=t
def Acu{p:Prop}(t:p:=by simp at hb;rcases hb with rfl|rfl<;>first|exact WP|exact Xp):p:=t
def Aan{p:Prop}(t:p:=by
 by_cases WP:k=0
 · subst WP;rw[aa5,Bn] at e0 e1;(go_wp2_with fail);go_quiet ((go_at_call 116;exact abt (HW.o _)));clear I;(go_wp2_with fail);go_ret;exact⟨aM (by rw[T.o];exact cZ HZ.o W.o aj WE),((Y.trans HX.o).alloc _).drewN _⟩
 · obtain rfl:k=1:=aa;rw[show lo+1*2=lo+2 from rfl] at e0 e1;(go_wp2_with fail);go_quiet ((go_at_call 116;exact abt (HW.o _)));clear I;(go_wp2_with fail);go_ret;exact⟨aM (by rw[T.o];exact cZ HZ.o W.o aj WE),((Y.trans HX.o).alloc _).drewN _⟩):p:=t
def AbU{p:Prop}(t:p:=by
 generalize (b.links.getD 0 η).bus=b0 at f0 D;have q5:((b0:Int)==bus)=ζ:=ae;clear D;(go_wp2_with fail);go_quiet ((go_at_call 116;exact abt (HW.o _)));clear I;(go_wp2_with fail);go_quiet (fail);go_wp2;go_roundw
 case rel=>exact⟨2,aa,rfl,fP HZ.o W.o,(HX.alloc _).drewN _⟩
 case measure=>simp[intOf];omega):p:=t
def Acv{p:Prop}(t:p:=by rw[D] at f0;clear D;have q5:((bus:Int)==bus)=ε:=ag;(go_wp2_with fail);go_quiet ((go_at_call 116;exact abt (HW.o _)));clear I;(go_wp2_with fail);go_quiet (fail);go_wp2;go_ret;exact⟨aM (by rw[T.o];exact cZ HZ.o W.o aj WE),(((Y.trans HX.o).alloc _).drewN _).drewN _⟩):p:=t
def AcZ{p:Prop}(t:p:=by
 (go_wp2_with fail);go_quiet ((go_at_call 116;exact abt (HW.o _)));clear I;(go_wp2_with fail);go_quiet (fail);go_wp2;go_roundw
 case rel=>exact⟨1,aa,rfl,fP HZ.o W.o,(HX.alloc _).drewN _⟩
 case measure=>simp[intOf];omega):p:=t
def Adi{p:Prop}(t:p:=by go_enter func118,ntmps118;go_wp2;go_ret;exact⟨aM T.symm,Ext.new _ _⟩):p:=t
def Aat{p:Prop}(t:p:=by
 clear I K Y1 Y2;simp only[bQ,ρ,φ];go_wp2;go_ret;have WY:=step_mod (B:=B) (i:=4) (u:=.slice (γ ⟨g,0,δ⟩) (bs.length+1) G) G2.o G3.o;have F:=jh Xf.o (Mod.only (S:=fun k=>k=B) (Only.set _ B 4 (.slice (γ ⟨g,0,δ⟩) (bs.length+1) G)) rfl) (fun g' WL=>by have:=(Xf.lt g' WL).1;omega);refine⟨rfl,Xq.trans (kH Xv.o Y Xn WY),⟨Y,?_,_,_,_,_,WM.nL 4 _,⟨_,iT R0.o Xv.o aj Y WY⟩,⟨_,iT R1.o Xv.o aj Y WY⟩,⟨_,iT R2.o Xv.o aj Y WY⟩,?_⟩⟩
 · have hn:=pF (B:=B) (i:=4) (u:=.slice (γ ⟨g,0,δ⟩) (bs.length+1) G) (Nam.put D1.o D2.o D3.o W9.o) RR.o Y G3.o;simpa using hn
 · rw[adO,y9];exact F):p:=t
def AdD{p:Prop}(t:p:=by rintro e w1 ⟨rfl,rfl⟩;go_wp2;go_ret;exact⟨aM HV.symm,Xo.o,fun e=>absurd (HV.symm.trans e) aj⟩):p:=t
def AdM{p:Prop}(t:p:=by simpa using q3):p:=t
def AaF{p:Prop}(t:p:=by
 go_roundw
 case rel=>exact⟨k+1,aa,au,fP HZ.o K.o,W9.o,W.o⟩
 case measure=>simp[intOf];omega):p:=t
def AbZ{p:Prop}(t:p:=by (go_wp2_with fail);go_ret;exact⟨aM S.o,W.o,fun e=>absurd (S.trans e) HE.o⟩):p:=t
def Acz{p:Prop}(t:p:=by (go_wp2_with fail);go_ret;exact⟨aM (cK HZ.o).symm,HX.o,fun _=>HB.o⟩):p:=t
def Adm{p:Prop}(t:p:=by have:=R.o;omega):p:=t
def Aau{p:Prop}(t:p:=by go_enter func40,ntmps40;(go_wp2_with fail);refine(NM.o _).mono ?_;rintro e w1 ⟨rfl,rfl⟩;go_wp2;go_ret;exact⟨aM T.symm,Y.o⟩):p:=t
def Ab3{p:Prop}(t:p:=by clear Z;go_wp2;go_ret;exact⟨aM HV.symm,Y.trans (R.mono (by rw[<-HM.o];exact κ _))⟩):p:=t
def AcG{p:Prop}(t:p:=by rw[HM.o];exact κ _):p:=t
def Aah{p:Prop}(t:p:=by go_enter func41,ntmps41;go_wp2;go_ret;exact⟨aM G.symm,(Ext.new _ _).trans (Ext.new _ _)⟩):p:=t
def AbT{p:Prop}(t:p:=by
 by_cases g1:f.r<0
 .have W:decide (f.r<0)=ε:=ae;have G:Hid (ic n0 n1 f=2):=aJ (by rw[Q.o,ι (.inl g1)]);exact Aah
 have W:decide (f.r<0)=ζ:=ae;by_cases g2:1000<f.r
 .have D:decide (1000<f.r)=ε:=ae;have G:Hid (ic n0 n1 f=2):=aJ (by rw[Q.o,ι (.inr g2)]);exact Aah
 have D:decide (1000<f.r)=ζ:=ae;have G:Hid (ic n0 n1 f=0):=aJ (by rw[Q.o,θ aa]);exact Aah):p:=t
def Acw{p:Prop}(t:p:=by have G:Hid (ic n0 n1 f=10):=aJ (uT H (by have:=R.o;omega));exact Aah):p:=t
def Abf{p:Prop}(t:p:=by ext<;>simp only[aeU,GQ.bR,GQ.bN]<;>grind):p:=t
def Aao{p:Prop}(t:p:=by have XE:=aJ (WL ▸ Q.s);clear WL;(go_wp2_with (refine Θ rfl 102 _ rfl g7 (0) rf (aO 3 fr) _ WS.o aac rfl (kK _) (Hid.o ?_)));refine aJ ?_;refine Qp ?_;refine aN rfl 102 (.tmp 6) (.tmp 46) rfl g6 (0) (aO 3 fr) rf rf N.o (kK _) (dH 3 _) (fun we G=> ?_);refine Qp ?_;replace G:=Hid.o G;have S:=aJ (XE.fin G);clear G;(go_wp2_with fail);exact jQ rfl rfl rf S.o.1 aac rfl (rO _) ⟨_,rfl,fun k hk=>S.o.2.2 _ _ _ (Xj.o k hk),S.o.2.1⟩):p:=t
def AbX{p:Prop}(t:p:=by
 go_roundw
 case rel=>exact⟨n+1,aa,au,_,WI.o⟩
 case measure=>simp[intOf];omega):p:=t
def Adj{p:Prop}(t:p:=by rw[Xo];rfl):p:=t
def Adv{p:Prop}(t:p:=by rw[Xn];rfl):p:=t
def AdC{p:Prop}(t:p:=by intro R I;go_simp;exact⟨Ext.refl _,by show _=_;simp[XR]⟩):p:=t
def AdI{p:Prop}(t:p:=by rw[G];exact Blk.new _ _ _):p:=t
def AbI{p:Prop}(t:p:=by go_enter func80,ntmps80;go_wp2;go_ret;exact⟨aM HV.symm,Y.o⟩):p:=t
def AcV{p:Prop}(t:p:=by
 rcases Be n with j|j
 .exact j
 .obtain⟨_,_,e,_⟩:=h j;cases e):p:=t
def Abd{p:Prop}(t:p:=by have:=WJ.o;omega):p:=t
def AcH{p:Prop}(t:p:=by
 go_roundw
 case rel=>exact⟨j+1,_,aa,au,WG.o,by rw[HJ.o];exact XF.o,Xh.o⟩
 case measure=>simp[intOf];omega):p:=t
def Aab{p:Prop}(t:p:=by
 (go_wp2_with fail);go_quiet (fail);generalize U:we.drewN nq=wq;have WV:Ext we wq:=by rw[<-U];exact(Ext.refl _).drewN _
 replace WI:=WI.aA WV;replace J:=J.aA WV;clear WV U Xl Xj Xd Xm;have Xl:wq.cell? ⟨Xg,0,δ⟩=γ (.int .i64 (b.a:Int)):=(J.cell 0).trans (by rw[<-Xb.o.1];rfl);have Xj:wq.cell? ⟨Xg,1,δ⟩=γ (.int .i64 (b.b:Int)):=(J.cell 1).trans (by rw[<-Xb.o.2];rfl);clear hq J;(go_wp2_with fail);clear Xl Xj;go_loopw [2,44] (fun cv jv wx=>∃(j:Nat) (F:Bool),j<=2/\jv=.int .i64 j/\cv=.bool F/\Rv w wx gx C E bs (stp b G j)/\cnt L 18<=cnt (stp b G j) 18/\(F=ζ->ch=ζ/\stp b G j=G)/\(F=ε->cnt L 18<cnt (stp b G j) 18)) (fun _ jv _=>2-(intOf jv).toNat)
 case atStart=>exact⟨0,ch,aa,rfl,rfl,WI.o,R.le,fun h=>⟨h,rfl⟩,R.yes⟩
 case round=>
  rename World=>wx;obtain⟨j,F,hj,rfl,rfl,WO,D,WL,WS⟩:=hrel;have Y:=aJ WO;have WJ:=aJ D;have W:=aJ WL;have WF:=aJ WS;clear WO D WL WS WI;by_cases WK:j<2
  .have Xc:decide ((j:Int)<2)=ε:=ae;have WY:=Sk (a:=b.a) (b:=b.b) WK wx;obtain⟨n,hn⟩:∃n,(if j=0 then b.a else b.b)=n:=⟨_,rfl⟩;rw[hn] at WY;have Xo:n<=17:=by rw[<-hn];split<;>omega
   have I:=xg b G WK;rw[hn,T.o] at I;have l:=aJ I;have Xk:=aJ hn;clear I hn;have V:n≠17->JoinD bs n:=fun B=>by
    rw[<-Xk.o] at B⊢;split
    .exact JR HM.o WM.sub N.o T.o
    .rename_i h0;rw[θ h0] at B;exact Ku HM.o WM.sub N.o T.o B
   have Xi:=aJ V;clear V;have Xa:=Y.g.cell_ (k:=15+n) aa ((dM aa).trans (mY aa));have r1:(0:Int)<=(n:Int):=aa;have r2:(n:Int)<18:=aa;by_cases H:n=17
   .have Xp:((n:Int)==17)=ε:=by rw[H];rfl
    have S:=aJ (pJ (lb:=ε) (n:=n) (L:=stp b G j) (Or.inr (Or.inl H)));go_wp2_with fail
    go_roundw
    case rel=>exact⟨j+1,F,aa,au,rfl,by rw[l.o,S.o];exact Y.o,by rw[l.o,S.o];exact WJ.o,fun h=>by rw[l.o,S.o];exact W.o h,fun h=>by rw[l.o,S.o];exact WF.o h⟩
    case measure=>simp[intOf];omega
   .have Xp:((n:Int) !=17)=ε:=ae;have XA:¬((n:Int)=17):=aa;cases WP:stp b G j n with
    |true=>
     rw[WP] at Xa;have Z:=aJ WP;clear WP;have S:=aJ (pJ (lb:=ε) (n:=n) (L:=stp b G j) (Or.inr (Or.inr Z.o)));go_wp2_with fail
     go_roundw
     case rel=>exact⟨j+1,F,aa,au,rfl,by rw[l.o,S.o];exact Y.o,by rw[l.o,S.o];exact WJ.o,fun h=>by rw[l.o,S.o];exact W.o h,fun h=>by rw[l.o,S.o];exact WF.o h⟩
     case measure=>simp[intOf];omega
    |false=>
     rw[WP] at Xa;have Z:=aJ WP;clear WP;have XD:=Y.g.frozen (15+n);have WX:=aJ (Y.set (n:=n) aa (Xi.o H));have WT:=yZ Z.o 18;rw[ι aa] at WT;have WZ:=aJ WT;clear WT;have O:=aJ H;clear H;go_wp2_with fail
     go_roundw
     case rel=>exact⟨j+1,ε,aa,au,rfl,by rw[l.o,jX rfl O.o Z.o];exact WX.o,by rw[l.o,jX rfl O.o Z.o,WZ.o];have:=WJ.o;omega,(fun h=>by cases h),fun _=>by rw[l.o,jX rfl O.o Z.o,WZ.o];have:=WJ.o;omega⟩
     case measure=>simp[intOf];omega
  .obtain rfl:j=2:=aa;have Xc:decide ((2:Int)<2)=ζ:=aj
   go_wp2_with fail
   go_roundw
   case rel=>exact⟨i+1,stp b G 2,F,aa,by rw[K.o];rfl,rfl,Y.o,EF N.o 2,R.next Xr.o WJ.o (W.o) (WF.o)⟩
   case measure=>rw[K.o];simp[intOf];omega):p:=t
def AcF{p:Prop}(t:p:=by rw[Xn];exact(Blk.new wz 167 zBr).there (show 0+(Bv i).cs.length<=zBr.size from κ 20)):p:=t
theorem AbC{p:Prop}(t:p:=by
 unfold oP at hp;split at hp
 .rename_i x J;exact(hn ⟨x,J⟩).elim
 .exact hp):p:=t
theorem Aae{p:Prop}(t:p:=by
 clear Z;rename World=>wr;obtain⟨i3,Xa,rfl,hR⟩:=hrel;have Q:=aJ hR;clear hR;by_cases Xd:i3<18
 .have XH:decide ((i3:Int)<18)=ε:=ae;have WL:=Md (L:=lv brs) Xd wr;have q1:(0:Int)<=(i3:Int):=aa;have q2:(i3:Int)<18:=aa;cases hL:lv brs i3 with
  |false=>
   rw[hL] at WL;have HL:=aJ hL;go_wp2_with fail
   go_roundw
   case rel=>exact⟨i3+1,aa,au,Q.skip HL.o⟩
   case measure=>simp[intOf];omega
  |true=>
   rw[hL] at WL;have HL:=aJ hL;have WT:∃r,rwx (lv brs) i3=r:=⟨_,rfl⟩;obtain⟨r3,Xc⟩:=WT;have Xz:r3<n:=by rw[<-Xc,<-Xq.o];exact(ae7 (fun k hk=>sO HN.ok hk)).lt _ HL.o
   have XF:wr.cell? ⟨g10,i3,δ⟩=γ (.int .i64 (r3:Int)):=Q.b10.cell_ (k:=i3) aa (by simp only[ι Xd,Xc]);have Y:=aJ Xc;clear Xc;have kh:=Q.hd Xz;obtain⟨e3,XU,XD⟩:=Q.en Xz;have XM:wr.rangeAt (RX r3).b 0 e3.cells:=fun t v hv=>(by rw[aaA];exact XD t v hv);have Xo:=aJ XU;have D:=aJ XM;clear XU XD XM;have N:=aJ (Q.there Xd);have q3:(0:Int)<=(r3:Int):=aa;have q4:(r3:Int)<(n:Int):=aa;(go_wp2_with (refine Θ rfl 42 _ rfl (RX r3).b 0 rf e3.cells _ D.o aak rfl bC (Hid.o ?_)));refine aJ ?_;refine Qp ?_;(go_wp2_with (refine aQ rfl 42 (.tmp 143) (.tmp 142) rfl g9 (i3*6) e3.cells rf rf N.o bC (dP e3) (fun wb l=>Hid.o ?_)));refine aJ ?_;refine Qp ?_;have WI:=aJ (Q.put Xd HL.o (by rw[Y.o];exact Xo.o) (wr':=puts wr g9 (i3*6) e3.cells) rfl);clear Q Xo D N XF kh WL;go_wp2_with fail
   go_roundw
   case rel=>exact⟨i3+1,aa,au,WI.o⟩
   case measure=>simp[intOf];omega
 .obtain rfl:i3=18:=aa;have XH:decide ((18:Int)<18)=ζ:=aj;obtain⟨f9,XA,Xm⟩:=Q.b9;have XW:wr.rangeAt g9 0 (aO 18 f9):=fun t v hv=>(by rw[aaA];exact(XA.cell t).trans (by rw[Ω];exact hv));have XV:wr.there g8 0 (aO 18 f9).length:=Q.b8.there (by rw[Ad,aX,aX];omega);have WK:=aJ XA;have Xv:=aJ Xm;have XP:=aJ XW;have N:=aJ XV;clear XA Xm XW XV;(go_wp2_with (refine Θ rfl 100 _ rfl g9 0 rf (aO 18 f9) _ XP.o underlying100 rfl (lD f9) (Hid.o ?_)));refine aJ ?_;refine Qp ?_;refine aQ rfl 100 (.tmp 8) (.tmp 145) rfl g8 0 (aO 18 f9) rf rf N.o (lD f9) (dH 18 f9) ?_;intro wb l;refine Qp ?_;have Xe:=aJ (Q.fin WK.o Xv.o l);clear Q WK Xv XP N l;(go_wp2_with fail);refine jQ rfl rfl rf Xe.o.1 underlying100 rfl (CG f9) ⟨f9,rfl,fun k hk=> ?_,Xe.o.2.1⟩;have h1:=Xe.o.2.2 k hk;unfold qy;rw[Xq.o];(try simp only[PI,abL,Aa]);exact h1.to (Lg HN.ok HN.l23 XO.o Xq.o (k:=k) hk)):p:=t
def Ab1{p:Prop}(t:p:=by
 go_roundw
 case rel=>exact⟨i+1,aa,by rw[K.o];rfl,by rw[Ev (by have:=Xy.o;omega) XI.o,E8 (by have:=Xy.o;omega) XI.o];exact Q.ext ((Ext.refl _).drewN _)⟩
 case measure=>rw[K.o];simp[intOf];omega):p:=t
def Ac1{p:Prop}(t:p:=by have:=WU.o;omega):p:=t
def Adq{p:Prop}(t:p:=by rw[l];exact Blk.new _ _ _):p:=t
def AaX{p:Prop}(t:p:=by rw[y9,B,C];omega):p:=t
def AcM{p:Prop}(t:p:=by simp only[y9,A8,abM,F,C];omega):p:=t
theorem Abg{p:Prop}(t:p:=by unfold xJ at this;rw[ι ⟨j,B⟩] at this;exact this):p:=t
theorem AbJ{p:Prop}(t:p:=by unfold chunk;rw[ι aa,show(j*6+t)%6=t by omega];exact(O t B).mod l hS):p:=t
def Abq{p:Prop}(t:p:=by have:=M.o;omega):p:=t
def AaU{p:Prop}(t:p:=by
 go_roundw
 case rel=>exact⟨i+1,aa,by rw[XU.o];rfl,_,_,_,WI.o⟩
 case measure=>rw[XU.o];simp[intOf];omega):p:=t
def Adr{p:Prop}(t:p:=by have:=Yk.o;omega):p:=t
def Adx{p:Prop}(t:p:=by have:=WZ.o;omega):p:=t
def AaH{p:Prop}(t:p:=by intro R hW I;clear I;go_simp;exact⟨Ext.new _ _,fun _=>⟨ag,Blk.new _ _ _⟩,rfl,ag⟩):p:=t
theorem AbY{p:Prop}(t:p:=by have G:=(W9.o _ _ _ W.o).up (show 64<=4400 by omega);unfold sV;rw[θ (show ¬f.kind<=3 by have:=Y.o;omega),θ (show ¬f.kind<=6 by have:=Y.o;omega),θ (show ¬f.kind<=9 by have:=Y.o;omega),θ aj];exact G):p:=t
theorem AcC{p:Prop}(t:p:=by have G:=(W9.o _ _ _ WJ.o).up (show 2600<=4400 by omega);unfold sV;rw[ι Y.o];exact G):p:=t
def Ac3{p:Prop}(t:p:=by intro R hW I;clear I;go_simp;exact⟨Ext.refl _,fun h=>absurd h aj,rfl⟩):p:=t
def Adl{p:Prop}(t:p:=by have:=Y.o;omega):p:=t
def AaR{p:Prop}(t:p:=by have h:=(Q.ext WJ.o).g.there (e:=18+i) aa;rw[show 33+(18+i)*6=141+i*6 by omega] at h;exact h):p:=t
def Acy{p:Prop}(t:p:=by have h:=(Q.ext WJ.o).g.there (e:=36+i) aa;rw[show 33+(36+i)*6=249+i*6 by omega] at h;exact h):p:=t
def Adf{p:Prop}(t:p:=by
 go_roundw
 case rel=>exact⟨i+1,aa,au,_,Q.to (fun e O hd=>xK WE O hd)⟩
 case measure=>simp[intOf];omega):p:=t
def Ads{p:Prop}(t:p:=by have h:=(Q.ext WJ.o).g.there (e:=i) aa;rw[show 33+(i)*6=33+i*6 by omega] at h;exact h):p:=t
def AdG{p:Prop}(t:p:=by
 go_roundw
 case rel=>exact⟨i+1,aa,au,_,Q.to (fun e O _=>⟨O,Gy O⟩)⟩
 case measure=>simp[intOf];omega):p:=t
def AdL{p:Prop}(t:p:=by rw[l];exact(Blk.new w2 100 _).there AbV):p:=t
def AcW{p:Prop}(t:p:=by rw[G];exact((((Ext.new _ _).alloc _).alloc _).alloc _)):p:=t
def Adc{p:Prop}(t:p:=by rw[G];exact(((Blk.new _ _ _).alloc _).alloc _).alloc _):p:=t
def Ady{p:Prop}(t:p:=by rw[G];exact((aeS _ _ (eU _ _)).alloc _).alloc _):p:=t
def Abo{p:Prop}(t:p:=by intro R I;go_simp;rw[KN _ (by have:=Yk.o;omega)];exact⟨Ext.new _ _,rfl,ag,Blk.new _ _ _⟩):p:=t
def Ab5{p:Prop}(t:p:=by rw[Ad,eZ,eZ];omega):p:=t
def AbE{p:Prop}(t:p:=by rw[D];rfl):p:=t
def Aal{p:Prop}(t:p:=by refine I _ _ ⟨⟨_,P⟩,rfl⟩ ?_;clear I K;refine aR 4 [(ε,5),(ε,6),(ε,7),(ζ,9)] ah ?_;intro K I;simp only[aU];(go_wp2_with fail);have l:=HP.o;rw[mQ] at l;refine(oQ Hq (aJ (mX aj rfl)) _ (HS.ext P) l j5 one_pos EU).mono ?_;clear l;rintro _ wS ⟨GC,GV_,ec,ev,ef,rfl,Q,F⟩;replace P:=P.trans F;replace U:=U.aA F;replace HP:=HP.aA F;have V:=aJ Q;clear Q F;(go_wp2_with fail);refine I _ _ ⟨⟨_,P⟩,rfl⟩ ?_;clear I K;refine aT [5,6,7] [(ζ,9)] _ ah ?_;simp only[bP,aU,μ,ξ];(repeat (go_big_quiet_step (fail)));refine σ ?_;refine aR 9 [] ah ?_;intro K I;simp only[aU];have N:Hid (World.there wS gb 0 (gF (.slice (γ ⟨GC,0,δ⟩) dA.bays.length dA.bays.length) (.slice (γ ⟨GV_,0,δ⟩) dA.bays.length dA.bays.length) ef).length):=aJ (U.there (by rw[Ad,eZ,eZ];omega));refine aN rfl 47 (.tmp 2) (.tmp 11) rfl gb 0 (gF (.slice (γ ⟨GC,0,δ⟩) dA.bays.length dA.bays.length) (.slice (γ ⟨GV_,0,δ⟩) dA.bays.length dA.bays.length) ef) rf rf N.o (lG _ _ _) (rG _ _ _ rfl rfl) (fun wT G=> ?_);refine Qp ?_;replace G:=Hid.o G;have j:=wY P Xh.o U.o V.o G;clear G N;simp only[wpList];refine⟨trivial,?_⟩;refine I _ _ ⟨⟨_,j.2.2⟩,rfl⟩ ?_;clear I K;exact⟨gb,mO PA 1 pc PB 1 qc,GC,GV_,ec,ev,ef,by simp only[Act.put,nk,Ej,Ex],j.1,j.2.1,j.2.2⟩):p:=t
def AcI{p:Prop}(t:p:=by refine bD ?_;intro wE I;have WJ:=aJ (HX.trans I.ext);clear I;(go_wp2_with fail);go_ret;exact⟨rfl,WJ.o⟩):p:=t
def Ac6{p:Prop}(t:p:=by clear I;go_simp;exact⟨rfl,(uD 0 (-10) _ aj aj aj aj).mono fun e w' ⟨v,O,hv,J⟩=>⟨_,O,J,hv⟩⟩):p:=t
def Aa8{p:Prop}(t:p:=by intro R I;have hW:=I.1;clear I;go_simp;exact⟨rfl,(uD 100 0 _ aj aj aj aj).mono fun e w' ⟨v,O,hv,J⟩=>⟨_,O,J,hv⟩⟩):p:=t
def aa{p:Prop}(h:p:=by omega):p:=h
def ae{p:Prop}(h:p:=by simp;omega):p:=h
def ag{p:Prop}(h:p:=by simp):p:=h
def rf{p:Prop}(h:p:=by rfl):p:=h
def ah{p:Prop}(h:p:=by kernel_rfl):p:=h
def aj{p:Prop}(h:p:=by decide):p:=h
def ak{p:Prop}(h:p:=by grind):p:=h
def au{p:Prop}(h:p:=by go_num):p:=h
def Gw{p q : Prop}(h : q)(t : Hid q -> p := by intro h;go_wp2_with fail;exact h.o): p := t h
def Gm{p : Prop}{P : Program}{f : FuncId}{a : Array Value}{w : World}{G q : Ending -> World -> Prop}(c : Calls P f a w G)(h : ∀ e w', G e w' -> q e w')(t : Hid (Calls P f a w G) -> Hid (∀ e w', G e w' -> q e w') -> p := by intro c h;go_wp2_with fail;exact c.o.mono h.o): p := t c h
def val:List Nat->Nat
 |[]=>0
 |d::l=>d+4294967296*val l
def Dig (l:List Nat):Prop:=∀d∈l,d<4294967296
def ae4:Dig []:=by intro d h;cases h
def Dig.cons{d l}(hd:d<4294967296)(Z:Dig l):Dig (d::l):=by
 intro x J;cases J with
 |head=>exact hd
 |tail _ h=>exact Z x h
def Dig.head{d l}(h:Dig (d::l)):d<4294967296:=h d ag
def Dig.tail{d l}(h:Dig (d::l)):Dig l:=fun x J=>h x (by simp[J])
def Dig.append{a b}(ha:Dig a)(hb:Dig b):Dig (a++b):=by
 intro x J;rcases aba.1 J with h|h
 .exact ha x h
 .exact hb x h
def Dig.one{d}(h:d<4294967296):Dig [d]:=Dig.cons h ae4
def Dig.take{l}(h:Dig l)(k):Dig (l.take k):=fun x J=>h x (adv J)
def Dig.drop{l}(h:Dig l)(k):Dig (l.drop k):=fun x J=>h x (List.mem_of_mem_drop J)
def Dig.at_{l}(h:Dig l){k x:Nat}(J:l[k]? =γ x):x<4294967296:=h x (y7 J)
def Dig.replicate(k):Dig (List.replicate k 0):=by
 intro x J;rw[List.mem_replicate] at J;omega
def Dig.set{l}(h:Dig l)(k){x}(J:x<4294967296):Dig (l.set k x):=by
 intro y R;rcases List.mem_or_eq_of_mem_set R with j|j
 .exact h y j
 .omega
def val_append(a b):val (a++b)=val a+4294967296^a.length*val b:=by
 induction a with
 |nil=>simp[val]
 |cons d l ih=>simp only[μ,val,ih,nC,y8,Δ];rw[pz (4294967296^l.length) 4294967296,χ];omega
def qx(k):val (List.replicate k 0)=0:=by
 induction k with
 |zero=>rfl
 |succ k ih=>simp[aaP,val,ih]
def jI(a x):val (a++[x])=val a+4294967296^a.length*x:=by rw[val_append];simp[val]
def bG{l:List Nat}{k x}(J:l[k]? =γ x):val (l.take (k+1))=val (l.take k)+4294967296^k*x:=by
 obtain⟨j,rfl⟩:=ν.1 J;rw[aaS j,jI];simp[aat (aan j)]
def jY{l k}(h:l.length<=k):val (l.take k)=val l:=by rw[ω h]
def uM{l:List Nat}{k}(h:l.length<=k):val (l.take (k+1))=val (l.take k):=by rw[jY h,jY aa]
def gJ(l k)(j:k<=l.length):val l=val (l.take k)+4294967296^k*val (l.drop k):=by
 have:=val_append (l.take k) (l.drop k);rw[acr] at this;rw[this];simp[aat j]
def lY{l}(h:Dig l):val l<4294967296^l.length:=by
 induction l with
 |nil=>simp[val]
 |cons d l ih=>
  have j:=ih h.tail;have B:=h.head;simp only[val,nC,y8];omega
def pU{l k x y}(J:l[k]? =γ x):val (l.set k y)+4294967296^k*x=val l+4294967296^k*y:=by
 induction l generalizing k with
 |nil=>simp at J
 |cons d l ih=>
  cases k with
  |zero=>simp at J;subst J;simp[val];omega
  |succ k=>
   have:=ih (k:=k) (by simpa using J);simp only[Ej,val,y8];have e:∀z,4294967296^k*4294967296*z=4294967296*(4294967296^k*z):=fun z=>by rw[pz (4294967296^k) 4294967296,χ]
   rw[e,e];omega
def Canon (l:List Nat):Prop:=∀x,l.getLast? =γ x->x≠0
def afE:Canon []:=by intro x h;simp at h
def rU{d l}(h:Canon (d::l)):Canon l:=by
 intro x J;cases l with
 |nil=>simp at J
 |cons e m=>exact h x (by rw[adf];exact J)
def Mw{l}(h:Canon l)(Z:l≠[]):0<val l:=by
 induction l with
 |nil=>exact absurd rfl Z
 |cons d l ih=>
  cases l with
  |nil=>have:=h d ag;simp[val];omega
  |cons e m=>
   have:=ih (rU h) ag;simp only[val] at this⊢;omega
def Jf{l}(h:Canon l)(Z:l≠[]):4294967296^(l.length-1)<=val l:=by
 induction l with
 |nil=>exact absurd rfl Z
 |cons d l ih=>
  cases l with
  |nil=>have:=h d ag;simp[val];omega
  |cons e m=>
   have:=ih (rU h) ag;simp only[val,nC,Nat.add_sub_cancel] at this⊢;rw[y8];omega
def Q7{a b}(ha:Dig a)(hb:Dig b)(C:Canon a)(j:Canon b)(h:val a=val b):a=b:=by
 induction a generalizing b with
 |nil=>
  cases b with
  |nil=>rfl
  |cons d l=>have:=Mw j ag;rw[<-h] at this;simp[val] at this
 |cons d l ih=>
  cases b with
  |nil=>have:=Mw C ag;rw[h] at this;simp[val] at this
  |cons e m=>
   simp only[val] at h;have G:=ha.head;have F:=hb.head;have D:d=e:=aa;have B:val l=val m:=aa;rw[D,ih ha.tail hb.tail (rU C) (rU j) B]
def cu (n:Nat):List Nat:=if h:n=0 then [] else n%4294967296::cu (n/4294967296)
termination_by n
decreasing_by omega
def iw:cu 0=[]:=by rw[cu];simp
def wW{n}(h:n≠0):cu n=n%4294967296::cu (n/4294967296):=by rw[cu];simp[h]
def aL(n):val (cu n)=n:=by
 induction n using Nat.strongRecOn with
 |_ n ih=>
  by_cases h:n=0
  .subst h;rw[iw];rfl
  .rw[wW h];have:=ih (n/4294967296) aa;simp only[val,this];omega
def pE(n):Dig (cu n):=by
 induction n using Nat.strongRecOn with
 |_ n ih=>
  by_cases h:n=0
  .subst h;rw[iw];exact ae4
  .rw[wW h];exact Dig.cons aa (ih (n/4294967296) aa)
def KA{d l}(h:Canon l)(hd:l=[]->d≠0):Canon (d::l):=by
 intro x J;cases l with
 |nil=>simp at J;subst J;exact hd rfl
 |cons e m=>rw[adf] at J;exact h x J
def nu{n}:cu n=[]↔n=0:=by
 constructor
 .intro h;by_cases j:n=0
  .exact j
  .rw[wW j] at h;cases h
 .rintro rfl;exact iw
def bL(n):Canon (cu n):=by
 induction n using Nat.strongRecOn with
 |_ n ih=>
  by_cases h:n=0
  .subst h;rw[iw];exact afE
  .rw[wW h];refine KA (ih (n/4294967296) aa) fun j=> ?_;have:=nu.1 j;omega
def FQ{l}(h:Dig l)(c:Canon l):cu (val l)=l:=Q7 (pE _) h (bL _) c (aL _)
def iR (l:List Nat):Nat->Nat
 |0=>0
 |k+1=>if l.getD k 0=0 then iR l k else k+1
theorem OG(l k):iR l k<=k:=by
 induction k with
 |zero=>simp[iR]
 |succ k ih=>unfold iR;split<;>omega
theorem H8(l k):∀j,iR l k<=j->j<k->l.getD j 0=0:=by
 induction k with
 |zero=>intro j _ h;omega
 |succ k ih=>
  intro j B F;unfold iR at B;split at B
  .rename_i D
   by_cases C:j=k
   .subst C;exact D
   .exact ih j B aa
  .omega
theorem Kl(l k)(h:0<iR l k):l.getD (iR l k-1) 0≠0:=by
 induction k with
 |zero=>simp[iR] at h
 |succ k ih=>
  unfold iR at h⊢;split
  .rename_i j
   rw[ι j] at h;exact ih h
  .rename_i j
   simpa using j
def Ox{l}(h:∀j,j<l.length->l.getD j 0=0):l=List.replicate l.length 0:=by
 apply aar;intro i;by_cases hi:i<l.length
 .have:=h i hi;simp[hi] at this⊢;exact this
 .simp[Nat.not_lt.1 hi]
def Lx{l}(h:Dig l):l.take (iR l l.length)=cu (val l):=by
 have D:=OG l l.length;have F:l.drop (iR l l.length)=List.replicate (l.length-iR l l.length) 0:=by
  have:=Ox (l:=l.drop (iR l l.length)) (fun j B=>by
   have:=H8 l l.length (iR l l.length+j) aa (by simp at B;omega);simpa using this)
  simpa using this
 have hv:val l=val (l.take (iR l l.length)):=by
  have:=gJ l _ D;rw[this,F,qx];simp
 rw[hv];refine(FQ (h.take _) fun x J=> ?_).symm;by_cases C:iR l l.length=0
 .rw[C] at J;simp at J
 .have:=Kl l l.length aa;rw[abZ,A8,aat D] at J;rw[BB aa] at J;simpa[List.getD,J] using this
def eG{n k}(h:n<4294967296^k):(cu n).length<=k:=by
 by_cases l:cu n=[]
 .simp[l]
 .have:=Jf (bL n) l;rw[aL] at this;rcases Ha ((cu n).length-1) k with j|j
  .omega
  .have:=Ab (n:=4294967296) aa j;omega
def dS{n k}(h:(cu n).length<=k):n<4294967296^k:=by
 have:=lY (pE n);rw[aL] at this;exact π this (Ab aa h)
def Ww{l n a b c}(hd:Dig l)(B:val l<4294967296^(n+3))(ha:l[n+2]? =γ a)(hb:l[n+1]? =γ b)(hc:l[n]? =γ c):
  ∃r,r<4294967296^n/\val l=(a*(4294967296*4294967296)+b*4294967296+c)*4294967296^n+r:=by
 have hn:n+2<l.length:=(ν.1 ha).1;have j:=gJ l (n+3) aa;have F:val (l.drop (n+3))=0:=by
  rcases Be (val (l.drop (n+3))) with h|h
  .exact h
  .have:4294967296^(n+3)*1<=4294967296^(n+3)*val (l.drop (n+3)):=ib _ h;omega
 rw[F,Nat.mul_zero,Bn,bG ha,bG hb,bG hc] at j;refine⟨val (l.take n),?_,?_⟩
 .exact AbL
 .rw[j];have C:4294967296^(n+2)=4294967296^n*(4294967296*4294967296):=by rw[aaD]
  have D:4294967296^(n+1)=4294967296^n*4294967296:=by rw[y8]
  rw[C,D,Zb,Zb,pz (a*(4294967296*4294967296)),pz (b*4294967296),pz c,χ,χ,pz a,pz b];omega
def WA{l n b c}(hd:Dig l)(Z:l.length=n+2)(hb:l[n+1]? =γ b)(hc:l[n]? =γ c):
  ∃r,r<4294967296^n/\val l=(b*4294967296+c)*4294967296^n+r:=by
 have j:=jY (l:=l) (k:=n+2) aa;rw[bG hb,bG hc] at j;refine⟨val (l.take n),?_,?_⟩
 .exact AbL
 .rw[<-j,y8,Zb,pz (b*4294967296),pz c,χ,pz b];omega
section
variable {S V P u2 u1 u0 v1 v0 r s g rest:Nat}
structure rz (S V P u2 u1 u0 v1 v0:Nat):Prop where
 pos:0<P
 hS:∃r,r<P/\S=(u2*(4294967296*4294967296)+u1*4294967296+u0)*P+r
 hV:∃s,s<P/\V=(v1*4294967296+v0)*P+s
 top:2147483648<=v1
 l1:v1<4294967296
 l0:v0<4294967296
 m2:u2<4294967296
 m1:u1<4294967296
 m0:u0<4294967296
 fits:S<4294967296*V
def rz.RY(t:rz S V P u2 u1 u0 v1 v0):0<V:=by
 rcases Be V with h|h
 .have:=t.fits;rw[h] at this;omega
 .exact h
def rz.UZ(t:rz S V P u2 u1 u0 v1 v0):S/V<4294967296:=by
 rw[aaV t.RY];exact t.fits
def rz.LF(t:rz S V P u2 u1 u0 v1 v0):u2*4294967296+u1<4294967296*(v1+1):=by
 obtain⟨r,F,hS⟩:=t.hS;obtain⟨s,hs,hV⟩:=t.hV;have C:=t.fits;have H:=t.l0;rcases Ha (u2*4294967296+u1) (4294967296*(v1+1)) with h|h
 .exact h
 .exfalso;have G:4294967296*(v1+1)*(4294967296*P)<=(u2*4294967296+u1)*(4294967296*P):=q9 _ h;have D:(u2*4294967296+u1)*(4294967296*P)<=S:=by
   rw[hS];have:(u2*4294967296+u1)*(4294967296*P)=(u2*(4294967296*4294967296)+u1*4294967296)*P:=by rw[<-χ,Zb (u2*4294967296) u1 4294967296,χ u2]
   rw[this];have:(u2*(4294967296*4294967296)+u1*4294967296)*P<=(u2*(4294967296*4294967296)+u1*4294967296+u0)*P:=q9 _ aa;omega
  have l:V<=(v1+1)*(4294967296*P):=by
   rw[hV];have e:(v1+1)*(4294967296*P)=(v1*4294967296+4294967296)*P:=by rw[<-χ,Zb v1 1,aaE]
   rw[e];have:(v1*4294967296+v0+1)*P<=(v1*4294967296+4294967296)*P:=q9 _ aa;rw[Zb _ 1,aaE] at this;omega
  have j:4294967296*V<=4294967296*((v1+1)*(4294967296*P)):=ib _ l;rw[<-χ] at j;omega
def rz.above(t:rz S V P u2 u1 u0 v1 v0)(h:u2*(4294967296*4294967296)+u1*4294967296+u0<g*(v1*4294967296+v0)):S/V<g:=by
 obtain⟨r,B,hS⟩:=t.hS;obtain⟨s,hs,hV⟩:=t.hV;rw[aaV t.RY];have j:(u2*(4294967296*4294967296)+u1*4294967296+u0+1)*P<=g*(v1*4294967296+v0)*P:=q9 _ h;rw[Zb _ 1,aaE] at j;have l:g*(v1*4294967296+v0)*P<=g*V:=by
  rw[χ];exact ib _ (by rw[hV];omega)
 omega
def rz.first(t:rz S V P u2 u1 u0 v1 v0):S/V<=(u2*4294967296+u1)/v1:=by
 obtain⟨r,C,hS⟩:=t.hS;obtain⟨s,hs,hV⟩:=t.hV;have hv:=t.top;have l:=t.m0;rw[Nat.le_div_iff_mul_le aa];have D:S/V*V<=S:=Nat.div_mul_le_self S V;have B:S/V*(v1*(4294967296*P))<=S/V*V:=by
  refine ib _ ?_;rw[hV];have e:v1*(4294967296*P)=v1*4294967296*P:=by rw[χ]
  have:v1*4294967296*P<=(v1*4294967296+v0)*P:=q9 _ aa;omega
 have F:S<(u2*4294967296+u1+1)*(4294967296*P):=by
  rw[hS];have e:(u2*4294967296+u1+1)*(4294967296*P)=(u2*(4294967296*4294967296)+u1*4294967296+4294967296)*P:=by rw[<-χ,Zb (u2*4294967296+u1) 1 4294967296,Zb (u2*4294967296) u1 4294967296,χ u2,aaE]
  rw[e];have:(u2*(4294967296*4294967296)+u1*4294967296+u0+1)*P<=(u2*(4294967296*4294967296)+u1*4294967296+4294967296)*P:=q9 _ aa;rw[Zb _ 1,aaE] at this;omega
 have j:S/V*v1*(4294967296*P)<(u2*4294967296+u1+1)*(4294967296*P):=by
  rw[χ];omega
 have:=Nat.lt_of_mul_lt_mul_right j;omega
def rz.close(t:rz S V P u2 u1 u0 v1 v0)(B:g<4294967296)(h:g*(v1*4294967296+v0)<=u2*(4294967296*4294967296)+u1*4294967296+u0):g<=S/V+1:=by
 obtain⟨r,C,hS⟩:=t.hS;obtain⟨s,hs,hV⟩:=t.hV;have hv:=t.top;have D:g*V<=(u2*(4294967296*4294967296)+u1*4294967296+u0)*P+g*P:=by
  rw[hV,Δ,<-χ];have j:g*(v1*4294967296+v0)*P<=(u2*(4294967296*4294967296)+u1*4294967296+u0)*P:=q9 _ h;have l:g*s<=g*P:=ib _ (aan hs);omega
 have F:g*P<V:=by
  rw[hV];have j:g*P<4294967296*P:=aa6 B t.pos;have l:4294967296*P<=(v1*4294967296+v0)*P:=q9 _ aa;omega
 have G:g*V<S+V:=aa;rcases Ha (S/V+1) g with hc|hc
 .exfalso;have j:(S/V+2)*V<=g*V:=q9 _ hc;have l:=Nat.lt_div_mul_add (a:=S) (b:=V) t.RY;have H:(S/V+2)*V=S/V*V+V+V:=by rw[Zb];omega
  omega
 .exact hc
end
def Va{A C D R u0 X:Nat}(e:X=C+D)(l:A=C+R):D>R+u0↔A+u0<X:=by
 subst e l;constructor
 .intro j;omega
 .intro j;omega
def BP{u2 u1 u0 v1 v0 g rest}(h:g*v1+rest=u2*4294967296+u1):g*v0>rest*4294967296+u0↔u2*(4294967296*4294967296)+u1*4294967296+u0<g*(v1*4294967296+v0):=
 Va (C:=g*v1*4294967296) (by rw[Δ,<-χ]) aa
def g3 (a b d:Int):Nat:=Nat.gcd (Nat.gcd d.natAbs a.natAbs) b.natAbs
def sgZ (d:Int):Int:=if d<0 then-1 else 1
def gZ (a b d:Int):Int:=sgZ d*(g3 a b d:Int)
def nf (a b d:Int):Int×Int×Int:=(a/gZ a b d,b/gZ a b d,d/gZ a b d)
theorem Ep{a b d}(hd:d≠0):0<g3 a b d:=by
 unfold g3;exact abw _ (abw _ aa)
theorem Jl(a b d):(g3 a b d:Int)∣a/\(g3 a b d:Int)∣b/\(g3 a b d:Int)∣d:=by
 unfold g3;refine⟨?_,?_,?_⟩
 .exact aad.2 (aae (D5 _ _) (aal _ _))
 .exact aad.2 (aal _ _)
 .exact aad.2 (aae (D5 _ _) (D5 _ _))
theorem Vi(a b d):Nat.gcd (Nat.gcd a.natAbs b.natAbs) d.natAbs=g3 a b d:=by
 unfold g3;rw[aaJ,<-acn]
theorem Du{a b d}(hd:d≠0):gZ a b d≠0:=by
 unfold gZ sgZ;have:=Ep (a:=a) (b:=b) hd;split<;>omega
theorem uq{a b d}(hd:d≠0):∃M I H:Int,nf a b d=(M,I,H)/\a=gZ a b d*M/\b=gZ a b d*I/\d=gZ a b d*H/\0<H/\g3 M I H=1:=by
 have F:=Du (a:=a) (b:=b) hd;obtain⟨⟨B,ha⟩,⟨b1,hb⟩,⟨l,C⟩⟩:=Jl a b d;have Y:=Ep (a:=a) (b:=b) hd;have j:sgZ d*sgZ d=1:=by unfold sgZ;split<;>rfl
 have fac:∀{x Q:Int},x=(g3 a b d:Int)*Q->x=gZ a b d*(sgZ d*Q):=by
  intro x Q h;unfold gZ;rw[h,aaR,abG (g3 a b d:Int),<-aaR,j,aeA]
 have P:=fac ha;have K:=fac hb;have S:=fac C;refine⟨sgZ d*B,sgZ d*b1,sgZ d*l,?_,P,K,S,?_,?_⟩
 .unfold nf;have N:a/gZ a b d=sgZ d*B:=by rw[abJ F ⟨_,P⟩];exact P
  have J:b/gZ a b d=sgZ d*b1:=by rw[abJ F ⟨_,K⟩];exact K
  have O:d/gZ a b d=sgZ d*l:=by rw[abJ F ⟨_,S⟩];exact S
  rw[N,J,O]
 .have L:(0:Int)<(g3 a b d:Int):=aa;unfold sgZ;by_cases hn:d<0
  .rw[ι hn];have:l<0:=by
    rcases acU l 0 with h|h|h
    .exact h
    .rw[h] at C;simp at C;exact absurd C hd
    .have:=Int.mul_pos L h;omega
   omega
  .rw[θ hn];have:0<l:=by
    rcases acU l 0 with h|h|h
    .have:=ac3 L h;omega
    .rw[h] at C;simp at C;exact absurd C hd
    .exact h
   omega
 .have D:∀x:Int,(sgZ d*x).natAbs=x.natAbs:=by
   intro x;rw[De];unfold sgZ;split<;>simp
  have U:g3 (sgZ d*B) (sgZ d*b1) (sgZ d*l)=g3 B b1 l:=by unfold g3;rw[D,D,D]
  rw[U];have T:g3 a b d=g3 a b d*g3 B b1 l:=by
   have N:a.natAbs=g3 a b d*B.natAbs:=by
    have:=congrArg Int.natAbs ha;exact Abi
   have J:b.natAbs=g3 a b d*b1.natAbs:=by
    have:=congrArg Int.natAbs hb;exact Abi
   have O:d.natAbs=g3 a b d*l.natAbs:=by
    have:=congrArg Int.natAbs C;exact Abi
   have W:g3 a b d=Nat.gcd (Nat.gcd d.natAbs a.natAbs) b.natAbs:=rfl;generalize g3 a b d=G at*
   have R:Nat.gcd (Nat.gcd d.natAbs a.natAbs) b.natAbs=G*g3 B b1 l:=by
    rw[N,J,O,abN,abN];rfl
   exact W.trans R
  have V:g3 a b d*1=g3 a b d*g3 B b1 l:=by rw[aav];exact T
  exact(abk Y V).symm
theorem xe{a b d a' b' d'}(l:a*d'=a'*d)(j:b*d'=b'*d)(C:g3 a b d=1):d∣d':=by
 have h:(g3 (a*d') (b*d') (d*d'):Nat)=d'.natAbs:=by
  unfold g3;rw[De,De,De,acV,acV];have:Nat.gcd (Nat.gcd d.natAbs a.natAbs) b.natAbs=1:=C;rw[this,aaE]
 have ha:d.natAbs∣(a*d').natAbs:=by rw[l,De];exact ac5 _ _
 have hb:d.natAbs∣(b*d').natAbs:=by rw[j,De];exact ac5 _ _
 have hc:d.natAbs∣(d*d').natAbs:=by rw[De];exact Nat.dvd_mul_right _ _
 have B:d.natAbs∣d'.natAbs:=by
  rw[<-h];unfold g3;exact acG (acG hc ha) hb
 exact ado.1 B
def oG{a b d a' b' d'}(hd:d≠0)(hd':d'≠0)(S:a*d'=a'*d)(R:b*d'=b'*d):nf a b d=nf a' b' d':=by
 obtain⟨L,K,F,U,M,Y,Z,hp,W⟩:=uq (a:=a) (b:=b) hd;obtain⟨N,b1,I,e1,C,B,D,J,Q⟩:=uq (a:=a') (b:=b') hd';have hG:=Du (a:=a) (b:=b) hd;have l:=Du (a:=a') (b:=b') hd';generalize gZ a b d=G at*
 generalize gZ a' b' d'=H at*
 have j:G*H≠0:=qa hG l;have c1:L*I=N*F:=by
  rw[M,D,C,Z] at S;have:(G*H)*(L*I)=(G*H)*(N*F):=by
   calc (G*H)*(L*I)=G*L*(H*I):=by rw[aaR,aaR,abG H L I]
    _=H*N*(G*F):=S
    _=(G*H)*(N*F):=by rw[ac6 G H,aaR,aaR,abG G N F]
  exact ac4 j this
 have c2:K*I=b1*F:=by
  rw[Y,D,B,Z] at R;have:(G*H)*(K*I)=(G*H)*(b1*F):=by
   calc (G*H)*(K*I)=G*K*(H*I):=by rw[aaR,aaR,abG H K I]
    _=H*b1*(G*F):=R
    _=(G*H)*(b1*F):=by rw[ac6 G H,aaR,aaR,abG G b1 F]
  exact ac4 j this
 have T:F∣I:=xe c1 c2 W;have V:I∣F:=xe c1.symm c2.symm Q;have P:F=I:=Int.le_antisymm (Int.le_of_dvd J T) (Int.le_of_dvd hp V);subst P;have O:F≠0:=aa;have ha:L=N:=acP O c1;have hb:K=b1:=acP O c2;rw[U,e1,ha,hb]
def Low (a b d:Int):Prop:=0<d/\g3 a b d=1
theorem zV{a b d}(h:Low a b d):nf a b d=(a,b,d):=by
 obtain⟨l,j⟩:=h;unfold nf gZ sgZ;rw[j,θ aa];simp
def Vj{a b d}(hd:d≠0):Low (nf a b d).1 (nf a b d).2.1 (nf a b d).2.2:=by
 obtain⟨C,D,B,j,_,_,_,hp,l⟩:=uq (a:=a) (b:=b) hd;rw[j];exact⟨hp,l⟩

@[ext] structure GQ where
 re:Rat
 im:Rat
namespace GQ
instance:Add GQ:=⟨fun x y=>⟨x.re+y.re,x.im+y.im⟩⟩
instance:Sub GQ:=⟨fun x y=>⟨x.re-y.re,x.im-y.im⟩⟩
instance:Neg GQ:=⟨fun x=>⟨-x.re,-x.im⟩⟩
instance:Mul GQ:=⟨fun x y=>⟨x.re*y.re-x.im*y.im,x.re*y.im+x.im*y.re⟩⟩
def nrm (y:GQ):Rat:=y.re*y.re+y.im*y.im
instance:Div GQ:=⟨fun x y=>⟨(x.re*y.re+x.im*y.im)/y.nrm,(x.im*y.re-x.re*y.im)/y.nrm⟩⟩
def i (a b:Int):GQ:=⟨a,b⟩
def bR(x y:GQ):(x+y).re=x.re+y.re:=rfl
def bN(x y:GQ):(x+y).im=x.im+y.im:=rfl
def dO(x y:GQ):(x-y).re=x.re-y.re:=rfl
def dQ(x y:GQ):(x-y).im=x.im-y.im:=rfl
def kI(x:GQ):(-x).re= -x.re:=rfl
def kN(x:GQ):(-x).im= -x.im:=rfl
def aZ(x y:GQ):(x*y).re=x.re*y.re-x.im*y.im:=rfl
def aY(x y:GQ):(x*y).im=x.re*y.im+x.im*y.re:=rfl
def Az(x y:GQ):(x/y).re=(x.re*y.re+x.im*y.im)/y.nrm:=rfl
def vo(x y:GQ):(x/y).im=(x.im*y.re-x.re*y.im)/y.nrm:=rfl
def dE(a b):(i a b).re=a:=rfl
def dD(a b):(i a b).im=b:=rfl
def eD(x y:GQ):x*y=y*x:=by ext<;>simp only[aZ,aY]<;>grind
def bZ(x y z:GQ):x*y*z=x*(y*z):=by ext<;>simp only[aZ,aY]<;>grind
theorem BR{y}(h:y≠i 0 0):y.nrm≠0:=by
 intro e;apply h;have C:0<=y.re*y.re:=by
  rcases adW (a:=0) (b:=y.re) with h|h
  .exact aaW h h
  .have:=aaW (a:= -y.re) (b:= -y.re) ak ak;grind
 have B:0<=y.im*y.im:=by
  rcases adW (a:=0) (b:=y.im) with h|h
  .exact aaW h h
  .have:=aaW (a:= -y.im) (b:= -y.im) ak ak;grind
 unfold nrm at e;have j:y.re*y.re=0:=ak;have l:y.im*y.im=0:=ak;ext<;>simp only[dE,dD]
 .rcases aby.1 j with h|h<;>simpa using h
 .rcases aby.1 l with h|h<;>simpa using h
theorem Lb{x y}(h:y≠i 0 0):x*y/y=x:=by
 have hn:=BR h;unfold nrm at hn;ext<;>simp only[aZ,aY,Az,vo,nrm]<;>grind
end GQ
structure Is (q:GQ) (a b d:Int):Prop where
 low:Low a b d
 re:q.re=(a:Rat)/(d:Rat)
 im:q.im=(b:Rat)/(d:Rat)
def gm{d:Int}(h:d≠0):(d:Rat)≠0:=by exact_mod_cast h
def Le{a b d}(hd:d≠0):(nf a b d).1.natAbs<=a.natAbs/\(nf a b d).2.1.natAbs<=b.natAbs/\(nf a b d).2.2.natAbs<=d.natAbs:=by
 obtain⟨I,D,F,l,M,B,Z,hp,C⟩:=uq (a:=a) (b:=b) hd;have H:=Du (a:=a) (b:=b) hd;rw[l];generalize gZ a b d=G at*
 have j:∀x y:Int,x=G*y->y.natAbs<=x.natAbs:=by
  intro x y h;rw[h,De];exact abD _ aa
 exact⟨j _ _ M,j _ _ B,j _ _ Z⟩
def QT{a b d:Int}(hd:d≠0):Is ⟨(a:Rat)/(d:Rat),(b:Rat)/(d:Rat)⟩ (nf a b d).1 (nf a b d).2.1 (nf a b d).2.2:=by
 refine⟨Vj hd,?_,?_⟩;all_goals
  obtain⟨D,F,j,l,M,C,Z,hp,H⟩:=uq (a:=a) (b:=b) hd;have I:=gm (Du (a:=a) (b:=b) hd);have B:(j:Rat)≠0:=gm aa;rw[l];generalize gZ a b d=G at*
  subst M C Z;simp only[aau];grind
def Is.Gx{q:GQ}{a b d a' b' d':Int}(h:Is q a' b' d')(hd:d≠0)(B:q.re=(a:Rat)/(d:Rat))(hi:q.im=(b:Rat)/(d:Rat)):nf a b d=(a',b',d'):=by
 have hd':d'≠0:=by have:=h.low.1;omega
 rw[<-zV h.low];have C:=gm hd;have l:=gm hd';have j:=h.re;have D:=h.im;apply oG hd hd'
 .have:(a:Rat)*d'=a'*d:=ak
  exact_mod_cast this
 .have:(b:Rat)*d'=b'*d:=ak
  exact_mod_cast this
def Is.unique{q a b d a' b' d'}(h:Is q a b d)(I:Is q a' b' d'):a=a'/\b=b'/\d=d':=by
 have e:=I.Gx (by have:=h.low.1;omega) h.re h.im;rw[zV h.low] at e;simpa using e
structure Sz (n:Nat) (a b d:Int):Prop where
 a:a.natAbs<2^n
 b:b.natAbs<2^n
 d:d.natAbs<2^n
def Sz.mono{m n a b d}(h:Sz m a b d)(N:m<=n):Sz n a b d:=
 ⟨π h.a (Ab aa N),π h.b (Ab aa N),π h.d (Ab aa N)⟩
def Is.size{q:GQ}{a b d A B D:Int}{n:Nat}(h:Is q a b d)(l:D≠0)(C:q.re=(A:Rat)/(D:Rat))(hi:q.im=(B:Rat)/(D:Rat))(hs:Sz n A B D):Sz n a b d:=by
 have e:=h.Gx l C hi;have j:=Le (a:=A) (b:=B) l;rw[e] at j;exact⟨Γ j.1 hs.a,Γ j.2.1 hs.b,Γ j.2.2 hs.d⟩
def bI{x y:Int}{m n}(J:x.natAbs<2^m)(R:y.natAbs<2^n):(x*y).natAbs<2^(m+n):=by
 rw[De,aaD];exact Nat.mul_lt_mul'' J R
def jg{x y:Int}{m}(J:x.natAbs<2^m)(R:y.natAbs<2^m):(x+y).natAbs<2^(m+1):=by
 have:=acg x y;rw[y8];omega
def sK{x y:Int}{m}(J:x.natAbs<2^m)(R:y.natAbs<2^m):(x-y).natAbs<2^(m+1):=by
 have:=abH x y;rw[y8];omega
def iX{x:Int}{m n}(J:x.natAbs<2^m)(h:m<=n):x.natAbs<2^n:=π J (Ab aa h)
def Is.dne{q a b d}(h:Is q a b d):d≠0:=by have:=h.low.1;omega
section
variable {x y q:GQ} {a b d a' b' d' u v t:Int} {m n:Nat}
def Is.Ps(J:Is x a b d)(sx:Sz m a b d)(R:Is y a' b' d')(sy:Sz n a' b' d')(h:Is (x+y) u v t):Sz (m+n+1) u v t:=by
 have l:=gm J.dne;have j:=gm R.dne;refine h.size (A:=a*d'+a'*d) (B:=b*d'+b'*d) (D:=d*d') (qa J.dne R.dne) ?_ ?_ ⟨jg (bI sx.a sy.d) ?_,jg (bI sx.b sy.d) ?_,iX (bI sx.d sy.d) aa⟩
 .rw[GQ.bR,J.re,R.re];exact AaJ
 .rw[GQ.bN,J.im,R.im];exact AaJ
 .rw[aaZ];exact bI sy.a sx.d
 .rw[aaZ];exact bI sy.b sx.d
def Is.Pv(J:Is x a b d)(sx:Sz m a b d)(R:Is y a' b' d')(sy:Sz n a' b' d')(h:Is (x*y) u v t):Sz (m+n+1) u v t:=by
 have l:=gm J.dne;have j:=gm R.dne;refine h.size (A:=a*a'-b*b') (B:=a*b'+b*a') (D:=d*d') (qa J.dne R.dne) ?_ ?_ ⟨sK (bI sx.a sy.a) (bI sx.b sy.b),jg (bI sx.a sy.b) (bI sx.b sy.a),iX (bI sx.d sy.d) aa⟩
 .exact Acr
 .rw[GQ.aY,J.re,R.re,J.im,R.im];exact AaJ
end
theorem KD(a b):Is (GQ.i a b) a b 1:=by
 refine⟨⟨aa,?_⟩,?_,?_⟩
 .unfold g3;simp
 .simp only[GQ.dE];grind
 .simp only[GQ.dD];grind

@[ext] structure PQ where
 u:GQ
 v:GQ
namespace PQ
instance:Add PQ:=⟨fun x y=>⟨x.u+y.u,x.v+y.v⟩⟩
instance:Mul PQ:=⟨fun x y=>⟨x.u*y.u+GQ.i 3 0*(x.v*y.v),x.u*y.v+x.v*y.u⟩⟩
def plain (x:GQ):PQ:=⟨x,GQ.i 0 0⟩
def one:PQ:=plain (GQ.i 1 0)
def half:GQ:=⟨1/2,0⟩
def z:PQ:=⟨half*GQ.i 0 1,half⟩
def zp:Nat->PQ
 |0=>one
 |n+1=>zp n*z
def yK(x y:PQ):(x*y).u=x.u*y.u+GQ.i 3 0*(x.v*y.v):=rfl
def yC(x y:PQ):(x*y).v=x.u*y.v+x.v*y.u:=rfl
def bZ(x y z:PQ):x*y*z=x*(y*z):=by
 ext<;>simp only[yK,yC,GQ.aZ,GQ.aY,GQ.bR,GQ.bN,GQ.dE,GQ.dD]<;>grind
def eD(x y:PQ):x*y=y*x:=by
 ext<;>simp only[yK,yC,GQ.aZ,GQ.aY,GQ.bR,GQ.bN,GQ.dE,GQ.dD]<;>grind
def kD(x):x*one=x:=by
 ext<;>simp only[yK,yC,one,plain,GQ.aZ,GQ.aY,GQ.bR,GQ.bN,GQ.dE,GQ.dD]<;>grind
def Js(m n):zp (m+n)=zp m*zp n:=by
 induction n with
 |zero=>exact(kD _).symm
 |succ n ih=>rw[<-abS];show zp (m+n)*z=zp m*(zp n*z);rw[ih,bZ]
def mk4 (a b c d:Rat):PQ:=⟨⟨a,b⟩,⟨c,d⟩⟩
def qh(a b c d:Rat):mk4 a b c d*z=mk4 (3/2*c-b/2) (a/2+3/2*d) (a/2-d/2) (b/2+c/2):=by
 ext<;>simp only[mk4,yK,yC,z,half,GQ.aZ,GQ.aY,GQ.bR,GQ.bN,GQ.dE,GQ.dD]<;>grind
def zp0:zp 0=mk4 1 0 0 0:=by
 ext<;>simp only[zp,one,plain,mk4,GQ.dE,GQ.dD]<;>grind
def zp1:zp 1=mk4 0 (1/2) (1/2) 0:=by rw[zp,zp0,qh];congr 1<;>grind
def zp2:zp 2=mk4 (1/2) 0 0 (1/2):=by rw[zp,zp1,qh];congr 1<;>grind
def zp3:zp 3=mk4 0 1 0 0:=by rw[zp,zp2,qh];congr 1<;>grind
def zp4:zp 4=mk4 (-1/2) 0 0 (1/2):=by rw[zp,zp3,qh];congr 1<;>grind
def zp5:zp 5=mk4 0 (1/2) (-1/2) 0:=by rw[zp,zp4,qh];congr 1<;>grind
def zp6:zp 6=mk4 (-1) 0 0 0:=by rw[zp,zp5,qh];congr 1<;>grind
def zp7:zp 7=mk4 0 (-1/2) (-1/2) 0:=by rw[zp,zp6,qh];congr 1<;>grind
def zp8:zp 8=mk4 (-1/2) 0 0 (-1/2):=by rw[zp,zp7,qh];congr 1<;>grind
end PQ
theorem Fg(a:Addr)(n:Nat):(a.add n).block=a.block:=by unfold Addr.add;split<;>rfl
abbrev Ext (w w':World):Prop:=Below w.heap.size w w'
def _root_.Go.RowKit.Hid.aA{p q r:Prop}(h:Hid p)(e:r)(t:p->r->q:=by intro h e;exact h.ext e):Hid q:=Lib.hid (t h.o e)
def _root_.Go.RowKit.Hid.aC{p q r:Prop}(h:Hid p)(e:r)(t:p->r->q:=by intro h e;exact h.trans e):Hid q:=Lib.hid (t h.o e)
def CV (f:FuncId) (a:Array Value) (w:World) (G:Value->World->Prop):Prop:=Calls prog f a w fun e w'=>∃v,e=.returned v/\G v w'/\Ext w w'
def CE (f:FuncId) (a:Array Value) (w:World) (v:Value):Prop:=Calls prog f a w fun e w'=>e=.returned v/\Ext w w'
def Ext.refl(w):Ext w w:=acu _ _
def Ext.trans{a b c}(h:Ext a b)(k:Ext b c):Ext a c:=Below.trans h (k.mono h.size)
def Ext.alloc{a w}(h:Ext a w)(o:Obj):Ext a (w.alloc o):=Below.alloc h h.size o
def Ext.drew{a w}(h:Ext a w):Ext a w.drew:=Below.drew h
def Ext.drewN{a w}(h:Ext a w)(n):Ext a (w.drewN n):=⟨h.os,h.tape,h.output,h.size,h.block⟩
def Ext.setCell{a w}(h:Ext a w){p}(hp:a.heap.size<=p.block)(u):Ext a (w.setCell p u):=Below.setCell h hp u
def Ext.new(w)(o:Obj):Ext w (w.alloc o):=(Ext.refl w).alloc o
def Reads (w:World) (B size:Nat) (A:Option Addr) (n:Nat) (xs:List Value):Prop:=
 xs.length=n*size/\(0<n->∃l,A=γ l/\l.block<B/\∀j u,xs[j]? =γ u->w.cell? (l.add j)=γ u)
section
variable {w w':World} {B B' size n:Nat} {A:Option Addr} {xs:List Value}
def afi:Reads w B size A 0 []:=⟨ag,fun h=>absurd h aa⟩
def Reads.at_{k}(h:Reads w B 1 A n xs)(l:k<n):∃j u,A=γ j/\j.block<B/\xs[k]? =γ u/\w.cell? (j.add k)=γ u:=by
 obtain⟨j,e,hb,hc⟩:=h.2 aa;have Z:k<xs.length:=by have:=h.1;omega
 exact⟨j,xs[k],e,hb,ο Z,hc k _ (ο Z)⟩
def Reads.keep(h:Reads w B size A n xs)(l:∀p:Addr,p.block<B->w'.cell? p=w.cell? p):Reads w' B size A n xs:=
 ⟨h.1,fun hn=>by
  obtain⟨D,e,hb,hc⟩:=h.2 hn;exact⟨D,e,hb,fun j u C=>(l _ (by rw[Fg];exact hb)).trans (hc j u C)⟩⟩
def Reads.more(h:Reads w B size A n xs)(l:B<=B'):Reads w B' size A n xs:=
 ⟨h.1,fun hn=>by
  obtain⟨j,e,hb,hc⟩:=h.2 hn;exact⟨j,e,aa,hc⟩⟩
def Reads.below(h:Reads w B size A n xs)(hb:Below B w w'):Reads w' B size A n xs:=h.keep fun _ hp=>hb.cell hp
def Reads.ext(h:Reads w w.heap.size size A n xs)(hb:Ext w w'):Reads w' w'.heap.size size A n xs:=(h.below hb).more hb.size
end
def Blk (w:World) (g:Nat) (t:TypeId) (cs:Array Value):Prop:=w.heap[g]? =γ (.cells cs t (0,0))
section
variable {w w':World} {g:Nat} {t:TypeId} {cs:Array Value}
theorem Blk.lt(h:Blk w g t cs):g<w.heap.size:=by
 rcases Ha g w.heap.size with j|l
 .exact j
 .unfold Blk at h;rw[aaC l] at h;cases h
def Blk.cell(h:Blk w g t cs)(i):w.cell? ⟨g,i,δ⟩=cs[i]? :=cell_of_row w g i cs t (0,0) h
theorem Blk.frozen(h:Blk w g t cs)(i):w.frozen? ⟨g,i,δ⟩=ζ:=by
 unfold Blk at h;simp[World.frozen?,h]
def Blk.new(w:World)(t:TypeId)(cs:Array Value):Blk (w.alloc (.cells cs t)) w.heap.size t cs:=heap_alloc_new w _
def aeS{w:World}{g:Nat}(t:TypeId)(cs:Array Value)(h:w.heap.size=g):Blk (w.alloc (.cells cs t)) g t cs:=by subst h;exact Blk.new w t cs
def Blk.drew(h:Blk w g t cs):Blk w.drew g t cs:=h
def Blk.drewN(h:Blk w g t cs)(n):Blk (w.drewN n) g t cs:=h
def Blk.alloc(h:Blk w g t cs)(o:Obj):Blk (w.alloc o) g t cs:=(aay w o g h.lt).trans h
theorem Blk.nL(h:Blk w g t cs)(i u):Blk (w.setCell ⟨g,i,δ⟩ u) g t (cs.setIfInBounds i u):=by
 unfold Blk at h⊢;simp[World.setCell,Array.getElem?_modify,h]
def Blk.far(h:Blk w g t cs){p}(hp:g≠p.block)(u):Blk (w.setCell p u) g t cs:=(ab3 w p u g hp).trans h
def Blk.below{B}(h:Blk w g t cs)(hb:Below B w w')(j:g<B):Blk w' g t cs:=(hb.block g j).trans h
def Blk.ext(h:Blk w g t cs)(hb:Ext w w'):Blk w' g t cs:=h.below hb h.lt
theorem Blk.reads{n size}(h:Blk w g t cs)(hn:cs.size=n*size):Reads w w.heap.size size (γ ⟨g,0,δ⟩) n cs.toList:=
 ⟨by simpa using hn,fun _=>⟨_,rfl,h.lt,fun j u B=>by
  have e:Addr.add ⟨g,0,δ⟩ j=⟨g,j,δ⟩:=by unfold Addr.add;by_cases l:j=0<;>simp[l]
  rw[e,h.cell];simpa using B⟩⟩
end
def Blk.NI{w:World}{g i:Nat}{t:TypeId}{l:List Value}(h:Blk w g t l.toArray)(hi:i<l.length):∃u,w.cell? ⟨g,i,δ⟩=γ u:=
 ⟨l[i],by rw[h.cell];simp[hi]⟩
def Blk.O5{w:World}{g i:Nat}{t:TypeId}{l:List Value}(h:Blk w g t l.toArray)(u:Value):Blk (w.setCell ⟨g,i,δ⟩ u) g t (l.set i u).toArray:=by
 have:=h.nL i u;simpa using this
theorem uK(z n):madeCells #[z] n=(List.replicate n z).toArray:=by
 unfold madeCells;apply Array.ext
 .simp
 .intro i l j;simp[Nat.mod_one]
structure aK (w:World) where
 val:World
 ext:Ext w val
instance (w:World):Nonempty (aK w):=⟨⟨w,Ext.refl w⟩⟩
def aM{k a b}(h:a=b):Ending.returned (.int k a)=.returned (.int k b):=by rw[h]
def aS{a b}(h:a=b):Ending.returned (.bool a)=.returned (.bool b):=by rw[h]
def gI:Op->Bool
 | .move _| .assign _| .pick _ _ _| .load _ _| .build _ _| .binOp _ _ _ _ _| .unOp _ _ _| .convert _ _ _| .fieldAddr _ _ _| .field _ _ _| .indexAddr _ _ _| .index _ _ _| .extract _ _| .slice _ _ _ _ _=>ε
 | .call c=>match c.callee with
  | .builtin .len| .builtin .min| .builtin .max=>ε
  |_=>ζ
 |_=>ζ
def qR{s:Result Value}{f args w'}(h:s.andThen (fun x w=>Result.ok (Next.value x) w)=.ok (.enter f args) w'):False:=by
 cases s<;>simp[Result.andThen] at h
def jU{P}{ev:Operand->Value}{o w w' f args}(hp:gI o.op=ε)(h:(execOp ev o).run P w=.ok (.enter f args) w'):False:=by
 obtain⟨l,op,F,pos,G,D⟩:=o;cases op<;>simp only[gI,PI] at hp<;>simp only[execOp,aaK,aa7] at h
 case call c=>
  obtain⟨j,C,B⟩:=c;cases j<;>simp only[PI] at hp
  case builtin b=>
   cases b<;>simp only[PI] at hp<;>simp only[resolve,aaK,aa7,aaF,invoke,builtin] at h<;>exact qR h
 case pick c x y=>cases hb:(asBool (ev c)).run P w<;>simp[hb,Result.andThen] at h
 all_goals first
  |exact qR h
  |(simp at h;done)
def Book:Type:=Nat->Option (Value×Nat×Nat)
def Book.none:Book:=fun _=>Option.none
def Book.set (F:Book) (i:Nat) (e:Value×Nat×Nat):Book:=fun x=>if x=i then γ e else F x
theorem afw(F:Book){i j:Nat}(h:i≠j)(e f:Value×Nat×Nat):(F.set i e).set j f=(F.set j f).set i e:=by
 funext x;unfold Book.set;by_cases C:x=i<;>by_cases B:x=j<;>simp[C,B]
 .subst C;exact absurd B h
 .intro l;exact absurd l h
 .intro l;exact absurd l.symm h
def aeZ(F:Book)(i:Nat)(e:Value×Nat×Nat):(F.set i e) i=γ e:=by simp[Book.set]
def Book.dK(F:Book){i j:Nat}(e:Value×Nat×Nat)(h:j≠i):(F.set i e) j=F j:=by simp[Book.set,h]
def anc (ops:Array Oper):Nat->Nat->Nat->Bool
 |0,_,_=>ζ
 |f+1,k,p=>match ops[k]? with
  |Option.none=>ζ
  |some o=>o.after.any fun e=>Region.binds .any e&&(e.on==p||anc ops f e.on p)
section
variable {P:Program} {ops:Array Oper} {w0:World} {E:Nat->Bool} {Φ:Nat->Nat->Nat->Value->World->Prop}
structure dV (w0:World) (Φ:Nat->Nat->Nat->Value->World->Prop) (F:Book) (w:World):Prop where
 ext:Ext w0 w
 fact:∀i e,F i=γ e->Φ i e.2.1 e.2.2 e.1 w
 size:∀i e,F i=γ e->e.2.2<=w.heap.size
 low:∀i e,F i=γ e->w0.heap.size<=e.2.1
 disj:∀i j e f,i≠j->F i=γ e->F j=γ f->e.2.2<=f.2.1\/f.2.2<=e.2.1
def Kn (ops:Array Oper) (w0:World) (Φ:Nat->Nat->Nat->Value->World->Prop) (k:Nat) (F:Book) (w:World):Prop:=
 Ext w0 w/\∀i e,F i=γ e->anc ops ops.size k i=ε->Φ i e.2.1 e.2.2 e.1 w
def mM (P:Program) (Ψ:Nat->Nat->Value->World->Prop) (w:World):Result Next->Prop
 | .ok (.value v) w'=>Ext w w'/\Ψ w.heap.size w'.heap.size v w'
 | .ok (.enter f args) w1=>w1=w/\Calls P f args w (fun e w'=>∃v,e=.returned v/\Ext w w'/\Ψ w.heap.size w'.heap.size v w')
 |_=>False
def tOp (P:Program) (ops:Array Oper) (w0:World) (E:Nat->Bool) (Φ:Nat->Nat->Nat->Value->World->Prop) (k:Nat) (K:Book->Act->Prop) (F:Book) (a:Act):Prop:=
 match ops[k]? with
 |Option.none=>K F a
 |some o=>
  if Region.wanted o (yielded ops a.tmps) then
   if E k then
    (∀w,Kn ops w0 Φ k F w->mM P (Φ k) w ((execOp a.eval o).run P w))/\
    (∀v lo hi,(∃w,dV w0 Φ (F.set k (v,lo,hi)) w)->K (F.set k (v,lo,hi)) (a.put o.dst v))
   else gI o.op=ε/\∃v,(∀w,Ext w0 w->o.quietAt P a (fun w'=>w'=w) w v)/\K F (a.put o.dst v)
  else K F (a.put o.dst undef)
def wpT (P:Program) (ops:Array Oper) (w0:World) (E:Nat->Bool) (Φ:Nat->Nat->Nat->Value->World->Prop) (Q:Book->Act->Prop):List Oper->Nat->Book->Act->Prop
 |[],_,F,a=>Q F a
 |_::rest,k,F,a=>tOp P ops w0 E Φ k (wpT P ops w0 E Φ Q rest (k+1)) F a
theorem Pf{k}{K M:Book->Act->Prop}{F a}(h:∀F a,K F a->M F a)(j:tOp P ops w0 E Φ k K F a):tOp P ops w0 E Φ k M F a:=by
 unfold tOp at*
 split
 .rename_i l;simp only[l] at j;exact h _ _ j
 .rename_i o l
  simp only[l] at j;split
  .rename_i Y
   simp only[Y,Aa] at j;split
   .rename_i D
    simp only[D,Aa] at j;exact⟨j.1,fun v lo hi J=>h _ _ (j.2 v lo hi J)⟩
   .rename_i D
    simp only[D] at j;obtain⟨hp,v,C,B⟩:=j;exact⟨hp,v,C,h _ _ B⟩
  .rename_i Y
   simp only[Y] at j;exact h _ _ j
def xR (P:Program) (ops:Array Oper) (w0:World) (E:Nat->Bool) (Φ:Nat->Nat->Nat->Value->World->Prop) (n:Nat) (L:Array Bool->Book->Act->Prop):Nat->Array Bool->Book->Act->Prop
 |0,listed,F,a=>L listed F a
 |f+1,listed,F,a=>Region.ready .any ops listed≠[]/\∀i∈Region.ready .any ops listed,i<n/\tOp P ops w0 E Φ i (xR P ops w0 E Φ n L f (listed.setIfInBounds i ε)) F a
def dV.put{F w w' k v}(G:∀i lo hi v w w',Φ i lo hi v w->Ext w w'->Φ i lo hi v w')(hF:F k=Option.none)(h:dV w0 Φ F w)(J:Ext w w')(hv:Φ k w.heap.size w'.heap.size v w'):
  dV w0 Φ (F.set k (v,w.heap.size,w'.heap.size)) w':=by
 refine⟨h.ext.trans J,fun i e O=> ?_,fun i e O=> ?_,fun i e O=> ?_,fun i j e f L O l=> ?_⟩
 .by_cases hi:i=k
  .subst hi;rw[aeZ] at O;cases O;exact hv
  .rw[Book.dK _ _ hi] at O;exact G _ _ _ _ _ _ (h.fact i e O) J
 .by_cases hi:i=k
  .subst hi;rw[aeZ] at O;cases O;exact κ _
  .rw[Book.dK _ _ hi] at O;exact lh (h.size i e O) J.size
 .by_cases hi:i=k
  .subst hi;rw[aeZ] at O;cases O;exact h.ext.size
  .rw[Book.dK _ _ hi] at O;exact h.low i e O
 .by_cases hi:i=k
  .subst hi;rw[aeZ] at O;cases O;rw[Book.dK _ _ (aax L)] at l;exact .inr (h.size j f l)
  .rw[Book.dK _ _ hi] at O;by_cases B:j=k
   .subst B;rw[aeZ] at l;cases l;exact .inl (h.size i e O)
   .rw[Book.dK _ _ B] at l;exact h.disj i j e f L O l
theorem IA{k F a w}{K:Book->Act->Prop}{M:Act->World->Prop}{Q'}(G:∀i lo hi v w w',Φ i lo hi v w->Ext w w'->Φ i lo hi v w')(hF:F k=Option.none)(Y:dV w0 Φ F w)(h:∀R a' w',dV w0 Φ R w'->(∀j,j≠k->F j=Option.none->R j=Option.none)->K R a'->M a' w')(H:tOp P ops w0 E Φ k K F a):wpOp P ops Q' k M a w:=by
 unfold tOp at H;unfold wpOp;split
 .rename_i N;simp only[N] at H;exact h F _ _ Y (fun _ _ h=>h) H
 .rename_i o N
  simp only[N] at H;split
  .rename_i l
   simp only[l,Aa] at H;refine .inl ?_;by_cases D:E k=ε
   .simp only[D,Aa] at H;obtain⟨L,I⟩:=H;have C:=L w ⟨Y.ext,fun i e O _=>Y.fact i e O⟩;unfold Oper.wp;generalize (execOp a.eval o).run P w=r at*
    cases r with
    |ok nx w'=>
     cases nx<;>simp only[mM] at C<;>simp only[Oper.upon]
     case value v=>
      exact h _ _ _ (Y.put G hF C.1 C.2) (fun j Q hn=>by rw[Book.dK _ _ Q];exact hn) (I v _ _ ⟨w',Y.put G hF C.1 C.2⟩)
     case enter f args=>
      obtain⟨rfl,hc⟩:=C;refine hc.mono fun e w'' ⟨v,O,J,hv⟩=> ?_;subst O;exact h _ _ _ (Y.put G hF J hv) (fun j Q hn=>by rw[Book.dK _ _ Q];exact hn) (I v _ _ ⟨w'',Y.put G hF J hv⟩)
    |halt x w'=>simp only[mM] at C
   .simp only[D] at H;obtain⟨_,v,L,I⟩:=H;have C:=L w Y.ext;unfold Oper.quietAt at C;unfold Oper.wp;generalize (execOp a.eval o).run P w=r at*
    cases r with
    |ok nx w'=>
     cases nx<;>simp only[Oper.quietUpon] at C<;>simp only[Oper.upon]
     case value u=>obtain⟨rfl,rfl⟩:=C;exact h F _ _ Y (fun _ _ h=>h) I
     case skip=>obtain⟨rfl,rfl⟩:=C;exact h F _ _ Y (fun _ _ h=>h) I
     case enter f args=>
      obtain⟨rfl,hc⟩:=C;exact hc.mono fun e w'' ⟨O,B⟩=>by subst O;subst B;exact h F _ _ Y (fun _ _ h=>h) I
    |halt x w'=>simp only[Oper.quietUpon] at C
  .rename_i l
   simp only[l] at H;exact h F _ _ Y (fun _ _ h=>h) H
def tT{n g}{L:Array Bool->Book->Act->Prop}{Q'}(G:∀i lo hi v w w',Φ i lo hi v w->Ext w w'->Φ i lo hi v w')(J:∀B F a w,dV w0 Φ F w->L B F a->wpAny P .any ops Q' g B a w):
  ∀(f:Nat) (B:Array Bool) (F:Book) (a:Act) (w:World),dV w0 Φ F w->(∀j,B.getD j ε=ζ->F j=Option.none)->xR P ops w0 E Φ n L f B F a->wpAny P .any ops Q' (f+g) B a w
 |0,B,F,a,w,hw,_,h=>by rw[aaA];exact J _ _ _ _ hw h
 |f+1,B,F,a,w,hw,hF,h=>by
  rw[show f+1+g=(f+g)+1 by omega];refine⟨fun K=>absurd K h.1,fun i hi=> ?_⟩;have T:=(aaO.1 hi).1;refine IA G (hF i T) hw (fun R a' w' M C I=>tT G J f _ R a' w' M (fun j H=> ?_) I) (h.2 i hi).2;by_cases D:j=i
  .subst D;exfalso;have l:j<B.size:=by
    exact Abw
   simp[l] at H
  .rw[abW ε (aax D)] at H;exact C j D (hF j H)
theorem DK{k}{K M:Book->Act->Prop}{F a}(B:∃w,dV w0 Φ F w)(h:∀R a',(R=F\/∃e,R=F.set k e)->(∃w,dV w0 Φ R w)->K R a'->M R a')(j:tOp P ops w0 E Φ k K F a):tOp P ops w0 E Φ k M F a:=by
 unfold tOp at*
 split
 .rename_i l;simp only[l] at j;exact h _ _ (.inl rfl) B j
 .rename_i o l
  simp only[l] at j;split
  .rename_i Y
   simp only[Y,Aa] at j;split
   .rename_i D
    simp only[D,Aa] at j;exact⟨j.1,fun v lo hi J=>h _ _ (.inr ⟨_,rfl⟩) J (j.2 v lo hi J)⟩
   .rename_i D
    simp only[D] at j;obtain⟨hp,v,G,C⟩:=j;exact⟨hp,v,G,h _ _ (.inl rfl) B C⟩
  .rename_i Y
   simp only[Y] at j;exact h _ _ (.inl rfl) B j
def dV.sub{F G w}(h:dV w0 Φ G w)(hs:∀i e,F i=γ e->G i=γ e):dV w0 Φ F w:=
 ⟨h.ext,fun i e O=>h.fact i e (hs i e O),fun i e O=>h.size i e (hs i e O),fun i e O=>h.low i e (hs i e O),fun i j e f L O l=>h.disj i j e f L (hs i e O) (hs j f l)⟩
def afh{F:Book}{i:Nat}{e:Value×Nat×Nat}(hF:F i=Option.none):∀x f,F x=γ f->(F.set i e) x=γ f:=by
 intro x f J;by_cases h:x=i
 .subst h;rw[hF] at J;cases J
 .rw[Book.dK _ _ h];exact J
def afv{F G:Book}(h:∀x f,F x=γ f->G x=γ f){i:Nat}{e:Value×Nat×Nat}:∀x f,(F.set i e) x=γ f->(G.set i e) x=γ f:=by
 intro x f J;by_cases B:x=i
 .subst B;rw[aeZ] at*;exact J
 .rw[Book.dK _ _ B] at*;exact h x f J
def Kn.lL{F w k i}{e:Value×Nat×Nat}(hF:F i=Option.none)(l:anc ops ops.size k i=ζ):Kn ops w0 Φ k (F.set i e) w↔Kn ops w0 Φ k F w:=by
 constructor
 .exact fun h=>⟨h.1,fun x f J ha=>h.2 x f (afh hF x f J) ha⟩
 .refine fun h=>⟨h.1,fun x f J ha=> ?_⟩;by_cases B:x=i
  .subst B;rw[l] at ha;cases ha
  .rw[Book.dK _ _ B] at J;exact h.2 x f J ha
def GY{F:Book}{i:Nat}{a:Act}{o:Oper}(G:∀i lo hi v w w',Φ i lo hi v w->Ext w w'->Φ i lo hi v w')(hF:F i=Option.none)(B:∃w,dV w0 Φ F w)(l:∀w,Kn ops w0 Φ i F w->mM P (Φ i) w ((execOp a.eval o).run P w)):∃v lo hi,∃w,dV w0 Φ (F.set i (v,lo,hi)) w:=by
 obtain⟨w,Y⟩:=B;have j:=l w ⟨Y.ext,fun x e O _=>Y.fact x e O⟩;generalize (execOp a.eval o).run P w=r at*
 cases r with
 |ok nx w'=>
  cases nx<;>simp only[mM] at j
  case value v=>exact⟨v,_,_,w',Y.put G hF j.1 j.2⟩
  case enter f args=>
   obtain⟨_,hc⟩:=j;obtain⟨e,w',C,⟨v,_,J,hv⟩,_⟩:=hc [];exact⟨v,_,_,w',Y.put G hF J hv⟩
 |halt x w'=>simp only[mM] at j
theorem xk{o:Oper}{a:Act}{u v:Value}{w:World}(hp:gI o.op=ε)(j:o.quietAt P a (fun w'=>w'=w) w u)(l:o.quietAt P a (fun w'=>w'=w) w v):u=v:=by
 unfold Oper.quietAt at*
 generalize B:(execOp a.eval o).run P w=r at*
 cases r with
 |ok nx w'=>
  cases nx<;>simp only[Oper.quietUpon] at j l
  case value x=>rw[<-j.2,<-l.2]
  case skip=>rw[j.2,l.2]
  case enter f args=>exact(jU hp B).elim
 |halt x w'=>simp only[Oper.quietUpon] at j
theorem OL{i j l U}{K:Book->Act->Prop}{F a}(G:∀i lo hi v w w',Φ i lo hi v w->Ext w w'->Φ i lo hi v w')(hi:ops[i]? =γ l)(hj:ops[j]? =γ U)(L:i≠j)(T:l.apart ops U=ε)(W:∀cs b,l.op≠ .select cs b)(Z:∀cs b,U.op≠ .select cs b)(O:F i=Option.none)(Q:F j=Option.none)(a1:anc ops ops.size i j=ζ)(a2:anc ops ops.size j i=ζ)(hr:∃w,dV w0 Φ F w)(h:tOp P ops w0 E Φ i (tOp P ops w0 E Φ j K) F a):
  tOp P ops w0 E Φ j (tOp P ops w0 E Φ i K) F a:=by
 obtain⟨p1,p2,p3⟩:=Oper.apart_spec T;have x1:∀(a:Act) v,execOp (a.put l.dst v).eval U=execOp a.eval U:=fun a v=>adw U Z a l.dst v p1;have x2:∀(a:Act) v,execOp (a.put U.dst v).eval l=execOp a.eval l:=fun a v=>adw l W a U.dst v p3;have y1:∀(a:Act) v,Region.wanted U (yielded ops (a.put l.dst v).tmps)=Region.wanted U (yielded ops a.tmps):=fun a v=>adx U a l.dst v p1;have y2:∀(a:Act) v,Region.wanted l (yielded ops (a.put U.dst v).tmps)=Region.wanted l (yielded ops a.tmps):=fun a v=>adx l a U.dst v p3;have z:∀(a:Act) v u,(a.put U.dst u).put l.dst v=(a.put l.dst v).put U.dst u:=fun a v u=>(Act.put_comm a v u p2).symm;have q1:∀(a:Act) v w u,U.quietAt P (a.put l.dst v) (fun w'=>w'=w) w u↔U.quietAt P a (fun w'=>w'=w) w u:=fun a v w u=>by unfold Oper.quietAt;rw[x1]
 have q2:∀(a:Act) v w u,l.quietAt P (a.put U.dst v) (fun w'=>w'=w) w u↔l.quietAt P a (fun w'=>w'=w) w u:=fun a v w u=>by unfold Oper.quietAt;rw[x2]
 unfold tOp at h⊢;simp only[hi,hj] at h⊢;simp only[y1,x1,q1] at h;simp only[y2,x2,q2,z];by_cases wi:Region.wanted l (yielded ops a.tmps)=ε
 .simp only[wi,Aa] at h⊢;by_cases Ei:E i=ε
  .simp only[Ei,Aa] at h⊢;obtain⟨h1,H⟩:=h;obtain⟨v0,WN,WG,WR⟩:=GY G O hr h1;by_cases R:Region.wanted U (yielded ops a.tmps)=ε
   .simp only[R,Aa] at H⊢;by_cases N:E j=ε
    .simp only[N,Aa] at H⊢;refine⟨fun w Y=>(H v0 WN WG WR).1 w ((Kn.lL O a2).2 Y),fun u lo hi D=>⟨fun w Y=>h1 w ((Kn.lL Q a1).1 Y),fun v C M B=> ?_⟩⟩;obtain⟨w,Y⟩:=B;have Xt:dV w0 Φ (F.set i (v,C,M)) w:=Y.sub (afv (afh Q));rw[afw _ (aax L)] at Y⊢;exact(H v C M ⟨w,Xt⟩).2 u lo hi ⟨w,Y⟩
    .simp only[N] at H⊢;obtain⟨hp,u,S,_⟩:=H v0 WN WG WR;refine⟨hp,u,S,h1,fun v lo hi B=> ?_⟩;obtain⟨_,u',V,I⟩:=H v lo hi B;obtain⟨w,Y⟩:=hr;rw[xk hp (S w Y.ext) (V w Y.ext)];exact I
   .simp only[R] at H⊢;exact⟨h1,fun v lo hi B=>H v lo hi B⟩
  .simp only[Ei] at h⊢;obtain⟨hp,v,hv,H⟩:=h;by_cases R:Region.wanted U (yielded ops a.tmps)=ε
   .simp only[R,Aa] at H⊢;by_cases N:E j=ε
    .simp only[N,Aa] at H⊢;exact⟨H.1,fun u lo hi D=>⟨hp,v,hv,H.2 u lo hi D⟩⟩
    .simp only[N] at H⊢;obtain⟨J,u,S,I⟩:=H;exact⟨J,u,S,hp,v,hv,I⟩
   .simp only[R] at H⊢;exact⟨hp,v,hv,H⟩
 .simp only[wi] at h⊢;by_cases R:Region.wanted U (yielded ops a.tmps)=ε
  .simp only[R,Aa] at h⊢;by_cases N:E j=ε
   .simp only[N,Aa] at h⊢;exact⟨h.1,fun u lo hi D=>h.2 u lo hi D⟩
   .simp only[N] at h⊢;obtain⟨J,u,S,I⟩:=h;exact⟨J,u,S,I⟩
  .simp only[R] at h⊢;exact h
theorem Ay{n B}(inv:HeadInv .any ops n B):∀(f k p:Nat),anc ops f k p=ε->(∀o,ops[k]? =γ o->∀e∈o.after,Region.binds .any e=ε->B.getD e.on ζ=ε)->B.getD p ζ=ε
 |0,_,_,h,_=>by simp[anc] at h
 |f+1,k,p,h,hk=>by
  unfold anc at h;split at h
  .cases h
  .rename_i o G
   obtain⟨e,O,hb⟩:=Array.any_eq_true'.1 h;simp only[τ,abb,beq_iff_eq] at hb;have F:=hk o G e O hb.1;rcases hb.2 with D|D
   .rw[<-D];exact F
   .exact Ay inv f e.on p D (fun R j H l C=>inv.closed e.on R j F H l C)
def ui{n B}(inv:HeadInv .any ops n B){i j}(F:j∈Region.ready .any ops B)(hi:B.getD i ε=ζ):anc ops ops.size j i=ζ:=by
 cases h:anc ops ops.size j i with
 |false=>rfl
 |true=>
  obtain⟨_,U,C,K⟩:=aaO.1 F;have D:=Ay inv _ _ _ h (fun o l e O hb=>by rw[C] at l;injection l with l;subst l;exact K e O hb);rw[getD_both hi] at D;cases D
theorem Fu{n i l}{L:Array Bool->Book->Act->Prop}(G:∀i lo hi v w w',Φ i lo hi v w->Ext w w'->Φ i lo hi v w')(hi:ops[i]? =γ l)(C:∀(j:Nat) (o:Oper) cs b,ops[j]? =γ o->o.op≠ .select cs b)(hs:Region.sinkB .any ops n=ε)(hc:Region.chainB .any ops n=ε)(hn:n<ops.size)(Q:i<n)(W:∀B F a,L B F a->∀j∈Region.ready .any ops B,n<=j):
  ∀(f:Nat) (B:Array Bool) (F:Book) (a:Act),HeadInv .any ops n B->(∀j,B.getD j ε=ζ->F j=Option.none)->(∃w,dV w0 Φ F w)->
   (∀j U,ops[j]? =γ U->j≠i->B.getD j ε=ζ->(∀e∈U.after,Region.binds .any e=ε->e.on≠i)->l.apart ops U=ε)->
   i∈Region.ready .any ops B->tOp P ops w0 E Φ i (xR P ops w0 E Φ n L f (B.setIfInBounds i ε)) F a->xR P ops w0 E Φ n L (f+1) B F a:=by
 intro f
 induction f with
 |zero=>
  intro B F a inv hF WR _ hr H;have T:=(aaO.1 hr).1;refine⟨fun h=>Adn,fun j hj=> ?_⟩;have V:j<n:=by
   exact AaE
  refine⟨V,?_⟩;by_cases D:j=i
  .subst D;exact H
  .exfalso;have WF:∀R a',xR P ops w0 E Φ n L 0 (B.setIfInBounds i ε) R a'->False:=fun R a' h=>by
    have:=W _ _ _ h j (abz hj D);omega
   unfold tOp at H;simp only[hi] at H;split at H
   .split at H
    .obtain⟨v,lo,M,WT⟩:=GY G (hF i T) WR H.1;exact WF _ _ (H.2 v lo M WT)
    .obtain⟨_,v,_,h2⟩:=H;exact WF _ _ h2
   .exact WF _ _ H
 |succ f ih=>
  intro B F a inv hF WR Z hr H;have T:=(aaO.1 hr).1;refine⟨fun h=>Adn,fun j hj=> ?_⟩;have V:j<n:=by
   exact AaE
  refine⟨V,?_⟩;by_cases D:j=i
  .subst D;exact H
  .obtain⟨Y,U,WG,K⟩:=aaO.1 hj;have WM:∀e∈U.after,Region.binds .any e=ε->e.on≠i:=fun e O hb WH=>by
    exact Ac7
   have H1:=Pf (fun R a' h=>(h.2 j (abz hj D)).2) H;have H2:=OL G hi WG (aax D) (Z j U WG D Y WM) (fun cs b=>C i l cs b hi) (fun cs b=>C j U cs b WG) (hF i T) (hF j Y) (ui inv hr Y) (ui inv hj T) WR H1;have S:∀k ok,ops[k]? =γ ok->k≠i->(B.setIfInBounds j ε).getD k ε=ζ->
     (∀e∈ok.after,Region.binds .any e=ε->e.on≠i)->l.apart ops ok=ε:=fun k ok hk WO WJ WL=>by
    exact AcK
   refine DK WR (fun R a' WK N h3=>ih (B.setIfInBounds j ε) R a' (inv.set hj V) (fun x J=> ?_) N S (abz hr (aax D)) ?_) H2
   .exact AbW
   .rw[ab4 _ _ D];exact h3
def Cs{n g}{L:Book->Act->Prop}(G:∀i lo hi v w w',Φ i lo hi v w->Ext w w'->Φ i lo hi v w')(C:Region.noSelect ops=ε)(hs:Region.sinkB .any ops n=ε)(hc:Region.chainB .any ops n=ε)(hn:n<ops.size):
  ∀(l:List Oper) (k:Nat) (B:Array Bool) (F:Book) (a:Act),(∀j,j<l.length->l[j]? =ops[k+j]?)->k+l.length=n->HeadInv .any ops n B->(∀j,B.getD j ε=ζ->F j=Option.none)->(∃w,dV w0 Φ F w)->
  Region.lexHead .any ops g l.length k B=ε->wpT P ops w0 E Φ L l k F a->
  xR P ops w0 E Φ n (fun D R a'=>Region.seqB .any ops g n D=ε/\L R a') l.length B F a
 |[],k,B,F,a,_,hk,_,_,_,hB,h=>by
  exact Acm
 |o::l,k,B,F,a,hl,hk,inv,hF,hr0,hB,h=>by
  have O:ops[k]? =γ o:=by simpa using(hl 0 ag).symm
  simp only[nC,Region.lexHead,τ] at hB;obtain⟨⟨W,U⟩,K⟩:=hB;have V:k<n:=by simp only[nC] at hk;omega
  have N:k∈Region.ready .any ops B:=by simpa using W
  have T:=(aaO.1 N).1;refine Fu G O (aaz C) hs hc hn V (fun D R a' S=>abO S.1) l.length B F a inv hF hr0 (aaT O U) N ?_;refine DK hr0 (fun R a' M Q I=>Cs G C hs hc hn l (k+1) _ R a' (fun j Z=>by have:=hl (j+1) ae;simpa[abS,aaZ 1 j] using this) (by simp only[nC] at hk;omega) (inv.set N V) (fun x J=> ?_) Q K I) h;have Y:x≠k:=by
   rintro rfl;have H:x<B.size:=by
    exact AcR
   simp[H] at J
  exact Abb
end
def bK{P:Program}{K:Nat}{Q:Exit->Act->World->Prop}{a:Act}{w:World}{l:List Oper}(n:Nat)(E:Nat->Bool)(Φ:Nat->Nat->Nat->Value->World->Prop)(G:∀i lo hi v w w',Φ i lo hi v w->Ext w w'->Φ i lo hi v w')(hm:P.follows .mixedOrders=ε)(W:Region.lexTailB .any l.toArray n=ε)(h:wpT P l.toArray w E Φ (fun F a'=>∀w',dV w Φ F w'->wpList P l.toArray Q (l.drop n) a' w') (l.take n) 0 Book.none a):(Code.region K l.toArray ε).wp P Q a w:=by
 simp only[Region.lexTailB,τ,Λ] at W;obtain⟨⟨⟨⟨C,hn⟩,hs⟩,hc⟩,L⟩:=W;have WM:n<l.length:=by simpa using hn
 have J:(l.take n).length=n:=ae;have I:(l.drop n).length=l.toArray.size-n:=ag;have D:HeadInv .any l.toArray n (Array.replicate l.toArray.size ζ):=
  ⟨ag,fun j U _ Z=>AaP,fun t _ Y=>adp (by simpa using Y) (aaM _ _)⟩
 have O:dV w Φ Book.none {w with drawn:=w.drawn+1}:=⟨(Ext.refl w).drew,fun _ _ h=>Ach,fun _ _ h=>Ach,fun _ _ h=>Ach,fun _ _ _ _ _ h=>Ach⟩;have H:=Cs (P:=P) (E:=E) (g:=l.toArray.size-n) G C hs hc hn (l.take n) 0 _ Book.none a (fun j V=>by
  have R:j<n:=by rw[J] at V;exact V
  simp[R]) (by simpa using J) D (fun _ _=>rfl) ⟨_,O⟩ (by rw[J];exact L) h
 refine acm hm ?_;have S:=tT (P:=P) (n:=n) (g:=l.toArray.size-n) (Q':=Q) G (fun B F a' w' M T=>by
  have:=ab5 (P:=P) (ops:=l.toArray) (md:=.any) (Q':=Q) (l.drop n) n B a' w' (fun j=>ag) (by rw[I];exact T.1) (T.2 w' M);rwa[I] at this) _ _ _ _ _ O (fun _ _=>rfl) H
 rw[J] at S;have e:n+(l.toArray.size-n)=l.toArray.size:=by simp at hn⊢;omega
 rw[e] at S;exact S
section
variable {P:Program} {ops:Array Oper} {w0:World} {E:Nat->Bool} {Φ:Nat->Nat->Nat->Value->World->Prop} {Q:Book->Act->Prop}
theorem zX(m){l k F a}(B:∀j,j<m->l[j]? =ops[k+j]?)(D:(List.range m).all (fun j=> !E (k+j)&&((ops[k+j]?).map fun o=>gI o.op).getD ζ)=ε)(h:wpQuiet P ops (fun w'=>∃x:aK w0,w'=x.val) (fun a'=>wpT P ops w0 E Φ Q (l.drop m) (k+m) F a') (l.take m) a):wpT P ops w0 E Φ Q l k F a:=by
 induction m generalizing l k a with
 |zero=>simpa[wpQuiet] using h
 |succ m ih=>
  cases l with
  |nil=>simp[wpQuiet] at h;simpa[wpT] using h
  |cons o r=>
   have M:ops[k]? =γ o:=by simpa using(B 0 aa).symm
   have K:=nH.1 D;have I:=K 0 ag;simp only[Bn,M,Option.map_some,Option.getD_some,τ,acW] at I;have H:(List.range m).all (fun j=> !E (k+1+j)&&((ops[k+1+j]?).map fun o=>gI o.op).getD ζ)=ε:=by
    exact Abe
   have G:=fun a'=>ih (l:=r) (k:=k+1) (a:=a') (fun j S=>by have:=B (j+1) aa;simpa[abS,aaZ 1 j] using this) H;simp only[aaq,ρ,wpQuiet] at h;have T:k+(m+1)=k+1+m:=aa;rw[T] at h;unfold wpT tOp;simp only[M];by_cases Y:Region.wanted o (yielded ops a.tmps)=ε
   .simp only[Y,Aa] at h⊢;simp only[I.1,PI,abL];obtain⟨v,O,N⟩:=h;refine⟨I.2,v,fun w J=> ?_,G _ N⟩;have L:=O w ⟨⟨w,J⟩,rfl⟩;unfold Oper.quietAt at*
    generalize R:(execOp a.eval o).run P w=C at*
    cases C with
    |ok nx w'=>
     cases nx<;>simp only[Oper.quietUpon] at L⊢
     case value u=>exact L
     case skip=>exact L
     case enter f args=>exact(jU I.2 R).elim
    |halt x w'=>simp only[Oper.quietUpon] at L
   .simp only[Y] at h⊢;exact G _ h
def jZ(m){l k F a}(B:l.take m=(ops.toList.drop k).take m)(D:(List.range m).all (fun j=> !E (k+j)&&((ops[k+j]?).map fun o=>gI o.op).getD ζ)=ε)(h:wpQuiet P ops (fun w'=>∃x:aK w0,w'=x.val) (fun a'=>wpT P ops w0 E Φ Q (l.drop m) (k+m) F a') (l.take m) a):wpT P ops w0 E Φ Q l k F a:=
 zX m (fun j C=>by
  have G:(l.take m)[j]? =((ops.toList.drop k).take m)[j]? :=by rw[B]
  rw[BB C,BB C,RS] at G;simpa using G) D h
theorem dJ{l o k F a}(C:ops[k]? =γ o)(Y:Region.wanted o (yielded ops a.tmps)=ε)(D:E k=ε)(B:∀w,Kn ops w0 Φ k F w->mM P (Φ k) w ((execOp a.eval o).run P w))(j:∀v lo hi,(∃w,dV w0 Φ (F.set k (v,lo,hi)) w)->wpT P ops w0 E Φ Q l (k+1) (F.set k (v,lo,hi)) (a.put o.dst v)):wpT P ops w0 E Φ Q (o::l) k F a:=by
 unfold wpT tOp;simp only[C,Y,D,Aa];exact⟨B,j⟩
def bD{k F a}(h:Q F a):wpT P ops w0 E Φ Q [] k F a:=h
end
def lt_of_cell{w:World}{p:Addr}{v:Value}(h:w.cell? p=γ v):p.block<w.heap.size:=by
 rcases Ha p.block w.heap.size with Z|Z
 .exact Z
 .simp[World.cell?,aaC Z] at h
def Ext.cell_{w w'}(h:Ext w w'){p v}(hc:w.cell? p=γ v):w'.cell? p=γ v:=(h.cell (lt_of_cell hc)).trans hc
def aK.cell{w p v}(h:w.cell? p=γ v)(x:aK w):x.val.cell? p=γ v:=x.ext.cell_ h
def aK.blk{w g t cs}(h:Blk w g t cs)(x:aK w)(i):x.val.cell? ⟨g,i,δ⟩=cs[i]? :=(h.ext x.ext).cell i
def dV.get{w0:World}{Φ:Nat->Nat->Nat->Value->World->Prop}{F:Book}{k lo hi:Nat}{v:Value}{w:World}(h:dV w0 Φ (F.set k (v,lo,hi)) w):Φ k lo hi v w:=h.fact k _ (aeZ _ _ _)
def dV.at_{w0 Φ F w}(h:dV w0 Φ F w)(k){e:Value×Nat×Nat}(O:F k=γ e):Φ k e.2.1 e.2.2 e.1 w:=h.fact k e O
theorem Qk(g j):Addr.add ⟨g,0,δ⟩ j=⟨g,j,δ⟩:=by unfold Addr.add;split<;>simp_all
theorem add_plain(b o j):Addr.add ⟨b,o,δ⟩ j=⟨b,o+j,δ⟩:=by unfold Addr.add;split<;>simp_all
theorem Reads.plain{w B n A xs}(h:Reads w B 1 A n xs)(hn:0<n):
  ∃b o,A=γ ⟨b,o,δ⟩/\b<B/\∀(j:Nat) (u:Value),xs[j]? =γ u->w.cell? ⟨b,o+j,δ⟩=γ u:=by
 obtain⟨F,e,hb,hc⟩:=h.2 hn;have Z:0<xs.length:=by have:=h.1;omega
 have H:=hc 0 _ (ο Z);have hs:F.spot=δ:=by
  have D:w.cell? F=γ xs[0]:=H;unfold World.cell? at D;split at D
  .split at D
   .cases D
   .rename_i G;simpa using G
  .cases D
 obtain⟨b,o,sp⟩:=F;simp only at hs;subst hs;exact⟨b,o,e,hb,fun j u I=>by rw[<-add_plain];exact hc j u I⟩
abbrev Only (g:Nat) (w w':World):Prop:=w.grownBy w' (γ g)
section
variable {g:Nat} {w w' w'':World}
def Only.refl(g w):Only g w w:=World.grownBy.refl w _
def Only.trans(h:Only g w w')(k:Only g w' w''):Only g w w'':=
 ⟨k.os.trans h.os,k.tape.trans h.tape,k.output.trans h.output,lh h.size k.size,fun i hi j=>(k.block i (π hi h.size) j).trans (h.block i hi j)⟩
def aff(h:Ext w w'):Only g w w':=⟨h.os,h.tape,h.output,h.size,fun i hi _=>h.block i hi⟩
def Only.set(w g i u):Only g w (w.setCell ⟨g,i,δ⟩ u):=
 ⟨rfl,rfl,rfl,by simp[World.setCell],fun k _ j=>ab3 w ⟨g,i,δ⟩ u k (fun e=>j (by rw[e]))⟩
def Only.cell_(h:Only g w w'){p v}(hc:w.cell? p=γ v)(hp:p.block≠g):w'.cell? p=γ v:=
 (World.cell?_of_block (h.block p.block (lt_of_cell hc) (fun e=>hp (by injection e)))).trans hc
def Only.blk(h:Only g w w'){b t cs}(hb:Blk w b t cs)(hp:b≠g):Blk w' b t cs:=(h.block b hb.lt (fun e=>hp (by injection e))).trans hb
def Only.ext{w0}(h:Only g w w')(O:Ext w0 w)(j:w0.heap.size<=g):Ext w0 w':=
 ⟨h.os.trans O.os,h.tape.trans O.tape,h.output.trans O.output,lh O.size h.size,fun i hi=>(h.block i (π hi O.size) (fun e=>by injection e with e;omega)).trans (O.block i hi)⟩
end

def Elem (P:Program) (t e:TypeId) (size bytes:Nat):Prop:=∃i z,P.underlying t=γ (.slice e)/\P.info? e=γ i/\i.zero=γ z/\i.size=size/\i.bytes=bytes/\z.cells.size=size/\0<size
def ae2{P t e size bytes z}(D:P.underlying t=γ (.slice e))(hi:(P.info? e).map (fun i=>(i.zero,i.size,i.bytes))=γ (γ z,size,bytes))(G:z.cells.size=size)(F:0<size):Elem P t e size bytes:=by
 obtain⟨i0,C,l,B,j⟩:=abP hi;exact⟨i0,z,D,C,l,B,j,G,F⟩
def dI{P w ops rest o a Q t e size C}(E:Elem P t e size C)(H:o.guard=δ)(s x:Operand)(U:o.op=.call {callee:=.builtin .append,args:= #[s,x],argTypes:= #[t,t]})(base v n xs)(hs:a.eval s=v)(l:w.ownsRow base e size v n xs)(B m c D)(J:a.eval x=.slice (γ ⟨B,0,δ⟩) m c)(Y:Blk w B e D.toArray)(Z:D.length=m*size)(S:∀u∈D,u.oneCell'=ε)(W:0<m)(M:n+m<=9223372036854775807)(F:(n+m)*C<=140737488355328)(L:base<=w.heap.size)(h:∀g G w',w'.ownsRow base e size (.slice (γ ⟨g,0,δ⟩) (n+m) G) (n+m) (xs++D)->w.grownBy w' v.ownBlock->(v.ownBlock=γ g\/g=w.heap.size)->g<w'.heap.size->wpList P ops Q rest (a.put o.dst (.slice (γ ⟨g,0,δ⟩) (n+m) G)) w'):
  wpList P ops Q (o::rest) a w:=by
 obtain⟨i,z,R,hi,T,I,K,N,O⟩:=E;exact wpList_append_lies w H s x t U base e i z size C R hi T I K N O v n xs hs l ⟨B,0,δ⟩ m c D J Z (fun j u V=>by have:=acC Y j u;simpa using this (by simpa using V)) S W M F L w.heap.size rfl h
def Ib{P w ops rest o a Q t e size C}(E:Elem P t e size C)(H:o.guard=δ)(s x:Operand)(V:o.op=.call {callee:=.builtin .append,args:= #[s,x],argTypes:= #[t,t]})(base v n xs)(hs:a.eval s=v)(l:w.ownsRow base e size v n xs)(A m c D)(J:a.eval x=.slice A m c)(B:Reads w w.heap.size size A m D)(S:∀u∈D,u.oneCell'=ε)(O:0<m)(M:n+m<=9223372036854775807)(F:(n+m)*C<=140737488355328)(L:base<=w.heap.size)(h:∀g G w',w'.ownsRow base e size (.slice (γ ⟨g,0,δ⟩) (n+m) G) (n+m) (xs++D)->w.grownBy w' v.ownBlock->(v.ownBlock=γ g\/g=w.heap.size)->g<w'.heap.size->wpList P ops Q rest (a.put o.dst (.slice (γ ⟨g,0,δ⟩) (n+m) G)) w'):
  wpList P ops Q (o::rest) a w:=by
 obtain⟨i,z,R,hi,T,I,K,N,j⟩:=E;obtain⟨U,rfl,_,hc⟩:=B.2 O;exact wpList_append_lies w H s x t V base e i z size C R hi T I K N j v n xs hs l U m c D J B.1 hc S O M F L w.heap.size rfl h
section
variable {w w':World} {base:Nat} {e:TypeId} {size n:Nat} {v:Value} {xs:List Value}
def dX(h:w.ownsRow base e size v n xs)(J:Ext w w'):w'.ownsRow base e size v n xs:=
 h.kept (row:=δ) ⟨J.os,J.tape,J.output,J.size,fun k j _=>J.block k j⟩ (by cases hv:v.ownBlock<;>simp)
def qV{g}(h:w.ownsRow base e size v n xs)(J:Only g w w')(j:v.ownBlock≠γ g):w'.ownsRow base e size v n xs:=h.kept J (.inr j)
def tK{base' H j n' K C}(h:w.ownsRow base e size v n xs)(I:w.ownsRow base' H j K n' C)(F:e≠H):v.ownBlock=δ\/v.ownBlock≠K.ownBlock:=by
 rcases h.2 with ⟨rfl,_⟩|⟨g,G,cur,rfl,_,L,_⟩
 .exact .inl rfl
 .right
  rcases I.2 with ⟨rfl,_⟩|⟨g',l,B,rfl,_,D,_⟩
  .simp[Value.ownBlock]
  .simp only[Value.ownBlock,ne_eq,aaG];rintro rfl;rw[L] at D;injection D with D;injection D with _ J;exact F J
def iY(h:w.ownsRow base e size v n xs):∃A c,v=.slice A n c/\n<=c/\c<=maxLen/\Reads w w.heap.size size A n xs:=by
 have l:=h.1;rcases h.2 with ⟨rfl,rfl⟩|⟨g,G,cur,rfl,_,C,B,j,_,_⟩
 .obtain rfl:xs=[]:=I4 (by simpa using l);exact⟨δ,0,rfl,κ _,y5 _,afi⟩
 .exact⟨_,G,rfl,B,j,l,fun _=>⟨_,rfl,(abe.1 C).1,h.cells (g:=g) rfl⟩⟩
def _root_.Go.World.ownsRow.less{base'}(h:w.ownsRow base e size v n xs)(j:base'<=base):w.ownsRow base' e size v n xs:=by
 refine⟨h.1,?_⟩;rcases h.2 with hn|⟨g,G,cur,hv,hb,rest⟩
 .exact .inl hn
 .exact .inr ⟨g,G,cur,hv,lh j hb,rest⟩
def fw{row w0}(J:w.grownBy w' row)(O:Ext w0 w)(j:∀g,row=γ g->w0.heap.size<=g):Ext w0 w':=
 Below.grown O J O.size j
def iE{g}(h:w.ownsRow base e size v n xs)(j:g<base):v.ownBlock≠γ g:=by
 intro hv;have:=(h.lt g hv).1;omega
def dY{row g t cs}(J:w.grownBy w' row)(hb:Blk w g t cs)(j:row≠γ g):Blk w' g t cs:=(J.block g hb.lt (fun e=>j e.symm)).trans hb
end
def lS{s:Result Value}{w'}(h:s.andThen (fun x w=>Result.ok (Next.value x) w)=.ok .skip w'):False:=by
 cases s<;>simp[Result.andThen] at h
def uJ{P}{ev:Operand->Value}{o w w'}(hp:gI o.op=ε)(h:(execOp ev o).run P w=.ok .skip w'):False:=by
 obtain⟨l,op,F,pos,G,D⟩:=o;cases op<;>simp only[gI,PI] at hp<;>simp only[execOp,aaK,aa7] at h
 case call c=>
  obtain⟨j,C,B⟩:=c;cases j<;>simp only[PI] at hp
  case builtin b=>
   cases b<;>simp only[PI] at hp<;>simp only[resolve,aaK,aa7,aaF,invoke,builtin] at h<;>exact lS h
 case pick c x y=>cases hb:(asBool (ev c)).run P w<;>simp[hb,Result.andThen] at h
 all_goals first
  |exact lS h
  |(simp at h;done)
section
variable {P:Program} {ops:Array Oper} {Q Q':Exit->Act->World->Prop} {S:World->Prop}
def Jv{o:Oper}{a:Act}{K M:Act->World->Prop}{r:Result Next}(I:∀a w,K a w->M a w)(j:∀e a w,Q e a w->Q' e a w)(h:o.upon P a K Q r):o.upon P a M Q' r:=by
 cases r with
 |ok n w'=>
  cases n<;>simp only[Oper.upon] at h⊢
  case value u=>exact I _ _ h
  case skip=>exact I _ _ h
  case defer d=>exact I _ _ h
  case enter f args=>
   refine Calls.mono h fun e w'' O=> ?_;cases e with
   |returned u=>exact I _ _ O
   |panicked c=>exact j _ _ _ O
   |outgrown=>exact(O:LetsOut Q).elim fun a h=>h.elim fun w h=>⟨a,w,j _ _ _ h⟩
  case row row args=>exact Rows.mono h fun u w'' O=>I _ _ O
 |halt x w'=>
  cases x<;>simp only[Oper.upon] at h⊢
  case panic u=>exact j _ _ _ h
theorem vS{o a v}(hp:gI o.op=ε)(Y:Region.wanted o (yielded ops a.tmps)=ε)(h:∀w,S w->o.quietAt P a S w v):YieldsIf P ops S o v a:=by
 refine .inl ⟨Y,fun w hS=> ?_⟩;have j:=h w hS;unfold Oper.quietAt at j;generalize l:(execOp a.eval o).run P w=C at*
 cases C with
 |ok nx w'=>
  cases nx<;>simp only[Oper.quietUpon] at j
  case value u=>obtain⟨rfl,rfl⟩:=j;rfl
  case skip=>exact(uJ hp l).elim
  case enter f args=>exact(jU hp l).elim
 |halt x w'=>simp only[Oper.quietUpon] at j
def aU:List Oper->Nat->List Oper
 |[],_=>[]
 |o::_,0=>[o]
 |_::l,n+1=>aU l n
def bP (l:List Oper):List Nat->List Oper
 |[]=>[]
 |i::is=>aU l i++bP l is
def Bo{l i o}(h:l[i]? =γ o):aU l i=[o]:=by
 induction l generalizing i with
 |nil=>simp at h
 |cons x l ih=>
  cases i with
  |zero=>simpa[aU] using h
  |succ i=>simpa[aU] using ih Acj
end

section
variable {P:Program} {ops:Array Oper} {Q:Exit->Act->World->Prop} {S:World->Prop}
def QF:Exit->Act->World->Prop:=fun _ _ _=>False
def rT (P:Program) (ops:Array Oper) (S:World->Prop) (n:Nat) (L:Array Bool->Act->World->Prop):Nat->Array Bool->Act->World->Prop
 |0,listed,a,w=>L listed a w
 |f+1,listed,a,w=>Region.ready .any ops listed≠[]/\∀i∈Region.ready .any ops listed,i<n/\wpOp P ops QF i (fun a' w'=>S w'/\rT P ops S n L f (listed.setIfInBounds i ε) a' w') a w
theorem JQ{Q Q' i a w}{K M:Act->World->Prop}(I:∀a w,K a w->M a w)(l:∀e a w,Q e a w->Q' e a w)(h:wpOp P ops Q i K a w):wpOp P ops Q' i M a w:=by
 unfold wpOp at h⊢;split
 .rename_i j;simp only[j] at h;exact I _ _ h
 .rename_i o j
  simp only[j] at h;split
  .rename_i Y
   simp only[Y,Aa] at h;rcases h with h|⟨D,B,w1,C⟩
   .exact .inl (Jv I l h)
   .exact .inr ⟨D,B,w1,l _ _ _ C⟩
  .rename_i Y
   simp only[Y] at h;exact I _ _ h
def mP{n g}{L:Array Bool->Act->World->Prop}(j:∀B a w,L B a w->wpAny P .any ops Q g B a w):
  ∀(f:Nat) (B:Array Bool) (a:Act) (w:World),rT P ops S n L f B a w->wpAny P .any ops Q (f+g) B a w
 |0,B,a,w,h=>by rw[aaA];exact j _ _ _ h
 |f+1,B,a,w,h=>by
  rw[show f+1+g=(f+g)+1 by omega];exact⟨fun l=>absurd l h.1,fun i hi=>JQ (fun a' w' I=>mP j f _ a' w' I.2) (fun _ _ _ h=>h.elim) (h.2 i hi).2⟩
def jy{n i l v}{L:Array Bool->Act->World->Prop}(hi:ops[i]? =γ l)(C:∀(j:Nat) (o:Oper) cs b,ops[j]? =γ o->o.op≠ .select cs b)(hs:Region.sinkB .any ops n=ε)(hc:Region.chainB .any ops n=ε)(hn:n<ops.size)(Q:i<n)(W:∀B a w,L B a w->∀j∈Region.ready .any ops B,n<=j):
  ∀(f:Nat) (B:Array Bool) (a:Act) (w:World),HeadInv .any ops n B->
   (∀j U,ops[j]? =γ U->j≠i->B.getD j ε=ζ->(∀e∈U.after,Region.binds .any e=ε->e.on≠i)->l.apart ops U=ε)->
   i∈Region.ready .any ops B->YieldsIf P ops S l v a->S w->
   rT P ops S n L f (B.setIfInBounds i ε) (a.put l.dst v) w->rT P ops S n L (f+1) B a w:=by
 intro f
 induction f with
 |zero=>
  intro B a w inv _ I R hS H;have T:=(aaO.1 I).1;refine⟨fun h=>(by rw[h] at I;cases I),fun j M=> ?_⟩;have V:j<n:=by
   exact Abk
  refine⟨V,?_⟩;by_cases D:j=i
  .subst D;exact R.wpOp hi hS ⟨hS,H⟩
  .have:=W _ _ _ H j (abz M D);omega
 |succ f ih=>
  intro B a w inv Z I R hS H;have T:=(aaO.1 I).1;refine⟨fun h=>(by rw[h] at I;cases I),fun j M=> ?_⟩;have V:j<n:=by
   exact Abk
  refine⟨V,?_⟩;by_cases D:j=i
  .subst D;exact R.wpOp hi hS ⟨hS,H⟩
  .have h1:=(H.2 j (abz M D)).2;obtain⟨Y,U,J,K⟩:=aaO.1 M;have WM:∀e∈U.after,Region.binds .any e=ε->e.on≠i:=fun e O hb WH=>by
    exact Ac7
   have h2:=wpOp_putIf J (Z j U J D Y WM) (fun cs b=>C i l cs b hi) (fun cs b=>C j U cs b J) (fun _ _ _ h=>h) R h1;have F:∀k ok,ops[k]? =γ ok->k≠i->(B.setIfInBounds j ε).getD k ε=ζ->
     (∀e∈ok.after,Region.binds .any e=ε->e.on≠i)->l.apart ops ok=ε:=fun k ok hk WO G WL=>by
    refine Z k ok hk WO ?_ WL;by_cases N:j=k
    .subst N;exact Y
    .rw[abW ε N] at G;exact G
   refine acJ (fun a' w' h3=>⟨h3.2.1,ih (B.setIfInBounds j ε) a' w' (inv.set M V) F (abz I (aax D)) h3.1 h3.2.1 ?_⟩) h2;rw[ab4 _ _ D];exact h3.2.2
def bQ (P:Program) (ops:Array Oper) (S:World->Prop) (L:Act->World->Prop):List (Bool×Nat)->Act->World->Prop
 |[],a,w=>L a w
 |(ε,i)::rest,a,w=>match ops[i]? with
  |some o=>if Region.wanted o (yielded ops a.tmps) then o.quiet P a S (fun a'=>bQ P ops S L rest a' w) else bQ P ops S L rest (a.put o.dst undef) w
  |none=>False
 |(ζ,i)::rest,a,w=>wpOp P ops QF i (fun a' w'=>S w'/\bQ P ops S L rest a' w') a w
def qm (ops:Array Oper) (n:Nat):List (Bool×Nat)->Array Bool->Bool
 |[],listed=>Region.seqB .any ops (ops.size-n) n listed
 |(ε,i)::rest,listed=>((ops[i]?).map fun o=>gI o.op).getD ζ&&Region.free .any ops listed i&&(Region.ready .any ops listed).contains i&&decide (i<n)&&qm ops n rest (listed.setIfInBounds i ε)
 |(ζ,i)::rest,listed=>decide (Region.ready .any ops listed=[i])&&decide (i<n)&&qm ops n rest (listed.setIfInBounds i ε)
theorem kT{n}{L:Act->World->Prop}(C:Region.noSelect ops=ε)(hs:Region.sinkB .any ops n=ε)(hc:Region.chainB .any ops n=ε)(hn:n<ops.size):
  ∀(ord:List (Bool×Nat)) (B:Array Bool) (a:Act) (w:World),HeadInv .any ops n B->qm ops n ord B=ε->S w->bQ P ops S L ord a w->
  rT P ops S n (fun D a' w'=>Region.seqB .any ops (ops.size-n) n D=ε/\L a' w') ord.length B a w
 |[],B,a,w,_,hB,_,h=>⟨by simpa[qm] using hB,h⟩
 |(ε,i)::rest,B,a,w,inv,hB,hS,h=>by
  simp only[qm,τ,Λ] at hB;obtain⟨⟨⟨⟨hp,I⟩,R⟩,Q⟩,K⟩:=hB;have N:i∈Region.ready .any ops B:=by simpa using R
  unfold bQ at h;cases l:ops[i]? with
  |none=>simp[l] at h
  |some o=>
   simp only[l] at h;have J:gI o.op=ε:=by simpa[l] using hp
   by_cases Y:Region.wanted o (yielded ops a.tmps)=ε
   .rw[ι Y] at h;obtain⟨v,O,M⟩:=h;exact jy (v:=v) l (aaz C) hs hc hn Q (fun _ _ _ F=>abO F.1) _ _ _ _ inv (aaT l I) N (vS J Y O) hS (kT C hs hc hn rest _ _ _ (inv.set N Q) K hS M)
   .rw[θ Y] at h;exact jy (v:=undef) l (aaz C) hs hc hn Q (fun _ _ _ F=>abO F.1) _ _ _ _ inv (aaT l I) N (.inr ⟨by simpa using Y,rfl⟩) hS (kT C hs hc hn rest _ _ _ (inv.set N Q) K hS h)
 |(ζ,i)::rest,B,a,w,inv,hB,hS,h=>by
  simp only[qm,τ,Λ] at hB;unfold bQ at h;refine⟨by rw[hB.1.1];simp,fun j H=> ?_⟩;have G:=H;rw[hB.1.1] at H;obtain rfl:j=i:=by simpa using H
  exact⟨hB.1.2,acJ (fun a' w' h=>⟨h.1,kT C hs hc hn rest _ _ _ (inv.set G hB.1.2) hB.2 h.1 h.2⟩) h⟩
def Ck{K:Nat}{a:Act}{w:World}{l:List Oper}(n:Nat)(S:World->Prop)(ord:List (Bool×Nat))(O:P.follows .mixedOrders=ε)(M:(Region.noSelect l.toArray&&Region.sinkB .any l.toArray n&&Region.chainB .any l.toArray n&&decide (n<l.length)&&decide (ord.length=n)&&qm l.toArray n ord (Array.replicate l.length ζ))=ε)(hS:S w.drew)(h:bQ P l.toArray S (fun a' w'=>wpList P l.toArray Q (l.drop n) a' w') ord a w.drew):(Code.region K l.toArray ε).wp P Q a w:=by
 simp only[τ,Λ] at M;obtain⟨⟨⟨⟨⟨C,hs⟩,hc⟩,hn⟩,T⟩,F⟩:=M;have G:n<l.toArray.size:=by simpa using hn
 have D:HeadInv .any l.toArray n (Array.replicate l.length ζ):=
  ⟨ag,fun j U _ Z=>AaP,fun t _ N=>adp (by simpa using N) (aaM _ _)⟩
 have H:=kT (P:=P) C hs hc G ord _ a w.drew D F hS h;have I:(l.drop n).length=l.toArray.size-n:=ag;have J:=mP (P:=P) (Q:=Q) (n:=n) (g:=l.toArray.size-n) (fun B a' w' L=>by
  have:=ab5 (P:=P) (ops:=l.toArray) (md:=.any) (Q':=Q) (l.drop n) n B a' w' (fun j=>ag) (by rw[I];exact L.1) L.2;rwa[I] at this) _ _ _ _ H
 exact Ab8
def bz{K:Nat}{a:Act}{w:World}{l:List Oper}(n:Nat)(ord:List (Bool×Nat))(j:P.follows .mixedOrders=ε)(B:(Region.noSelect l.toArray&&Region.sinkB .any l.toArray n&&Region.chainB .any l.toArray n&&decide (n<l.length)&&decide (ord.length=n)&&qm l.toArray n ord (Array.replicate l.length ζ))=ε)(h:bQ P l.toArray (fun w'=>∃x:aK w,w'=x.val) (fun a' w'=>wpList P l.toArray Q (l.drop n) a' w') ord a w.drew):(Code.region K l.toArray ε).wp P Q a w:=
 Ck n _ ord j B ⟨⟨w.drew,(Ext.refl w).drew⟩,rfl⟩ h
def aT{l w}{L:Act->World->Prop}:∀(is:List Nat) (rest:List (Bool×Nat)) (a:Act),is.all (fun i=>decide (i<l.length))=ε->
  wpQuiet P l.toArray S (fun a'=>bQ P l.toArray S L rest a' w) (bP l is) a->bQ P l.toArray S L (is.map (fun i=>(ε,i))++rest) a w
 |[],_,_,_,h=>h
 |i::is,rest,a,hi,h=>by
  simp only[abT,τ,Λ] at hi;have j:l[i]? =γ l[i]:=ο hi.1;simp only[bP,Bo j,adq,wpQuiet] at h;simp only[acQ,μ,bQ,Ω,j];by_cases Y:Region.wanted l[i] (yielded l.toArray a.tmps)=ε
  .rw[ι Y] at h⊢;exact Oper.quiet_mono (fun a' I=>aT is rest a' hi.2 I) h
  .rw[θ Y] at h⊢;exact aT is rest _ hi.2 h
theorem aR{l a w}{L:Act->World->Prop}(i rest)(hi:decide (i<l.length)=ε)(h:∀K:Act->World->Prop,(∀a' w',S w'->bQ P l.toArray S L rest a' w'->K a' w')->wpList P l.toArray (fun e a' w'=>e=.normal/\K a' w') (aU l i) a w):
  bQ P l.toArray S L ((ζ,i)::rest) a w:=by
 have M:i<l.length:=by simpa using hi
 have D:l[i]? =γ l[i]:=ο M;have B:=h (fun a' w'=>S w'/\bQ P l.toArray S L rest a' w') (fun _ _ B F=>⟨B,F⟩);simp only[Bo D,wpList] at B;unfold bQ wpOp;simp only[Ω,D];split
 .rename_i Y
  simp only[Y,Aa] at B;rcases B with B|⟨_,_,_,B,_⟩
  .refine .inl ?_;have j:∀r:Result Next,(l[i]).upon P a (fun a' w'=>True/\S w'/\bQ P l.toArray S L rest a' w') (fun e a' w'=>e=.normal/\S w'/\bQ P l.toArray S L rest a' w') r->
     (l[i]).upon P a (fun a' w'=>S w'/\bQ P l.toArray S L rest a' w') QF r:=by
    intro r C;cases r with
    |ok n w'=>
     cases n<;>simp only[Oper.upon] at C⊢
     case value u=>exact C.2
     case skip=>exact C.2
     case defer d=>exact C.2
     case enter f args=>
      refine Calls.mono C fun e w'' O=> ?_;cases e with
      |returned u=>exact O.2
      |panicked c=>cases O.1
      |outgrown=>exact(O:LetsOut _).elim fun a h=>h.elim fun w h=>by cases h.1
     case row row args=>exact Rows.mono C fun u w'' O=>O.2
    |halt x w'=>
     cases x<;>simp only[Oper.upon] at C⊢
     case panic u=>cases C.1
   exact j _ B
  .cases B
 .rename_i Y
  simp only[Y] at B;exact B.2
end
section
variable {P:Program} {ops:Array Oper} {Q:Exit->Act->World->Prop} {S:World->Prop}
def kP (P:Program) (ops:Array Oper) (S:World->Prop) (L:Act->World->Prop) (f:Nat) (post:List (Bool×Nat)):List (Bool×Nat)->Act->World->Prop
 |[],a,w=>wpOp P ops QF f (fun a' w'=>S w'/\bQ P ops S L post a' w') a w
 |(ε,i)::rest,a,w=>match ops[i]? with
  |some o=>if Region.wanted o (yielded ops a.tmps) then o.quiet P a S (fun a'=>kP P ops S L f post rest a' w) else kP P ops S L f post rest (a.put o.dst undef) w
  |none=>False
 |(ζ,i)::rest,a,w=>wpOp P ops QF i (fun a' w'=>S w'/\kP P ops S L f post rest a' w') a w/\wpOp P ops QF f (fun a' w'=>S w'/\bQ P ops S L ((ζ,i)::rest++post) a' w') a w
def sP (ops:Array Oper) (n f:Nat) (post:List (Bool×Nat)):List (Bool×Nat)->Array Bool->Bool
 |[],listed=>decide (Region.ready .any ops listed=[f])&&decide (f<n)&&qm ops n post (listed.setIfInBounds f ε)
 |(ε,i)::rest,listed=>((ops[i]?).map fun o=>gI o.op).getD ζ&&Region.free .any ops listed i&&(Region.ready .any ops listed).contains i&&decide (i<n)&&sP ops n f post rest (listed.setIfInBounds i ε)
 |(ζ,i)::rest,listed=>decide (Region.ready .any ops listed=[i,f])&&decide (i<n)&&decide (f<n)&&sP ops n f post rest (listed.setIfInBounds i ε)&&qm ops n ((ζ,i)::rest++post) (listed.setIfInBounds f ε)
theorem lI{n f post}{L:Act->World->Prop}(C:Region.noSelect ops=ε)(hs:Region.sinkB .any ops n=ε)(hc:Region.chainB .any ops n=ε)(hn:n<ops.size):
  ∀(ord:List (Bool×Nat)) (B:Array Bool) (a:Act) (w:World),HeadInv .any ops n B->sP ops n f post ord B=ε->S w->kP P ops S L f post ord a w->
  rT P ops S n (fun D a' w'=>Region.seqB .any ops (ops.size-n) n D=ε/\L a' w') (ord.length+(post.length+1)) B a w
 |[],B,a,w,inv,hB,hS,h=>by
  simp only[sP,τ,Λ] at hB;unfold kP at h;rw[show([]:List (Bool×Nat)).length+(post.length+1)=post.length+1 by simp];refine⟨by rw[hB.1.1];simp,fun j G=> ?_⟩;have F:=G;rw[hB.1.1] at G;obtain rfl:j=f:=by simpa using G
  exact⟨hB.1.2,acJ (fun a' w' h=>⟨h.1,kT C hs hc hn post _ _ _ (inv.set F hB.1.2) hB.2 h.1 h.2⟩) h⟩
 |(ε,i)::rest,B,a,w,inv,hB,hS,h=>by
  simp only[sP,τ,Λ] at hB;obtain⟨⟨⟨⟨hp,T⟩,M⟩,Q⟩,K⟩:=hB;have N:i∈Region.ready .any ops B:=by simpa using M
  unfold kP at h;rw[show((ε,i)::rest).length+(post.length+1)=(rest.length+(post.length+1))+1 by simp;omega];cases H:ops[i]? with
  |none=>simp[H] at h
  |some o=>
   simp only[H] at h;have J:gI o.op=ε:=by simpa[H] using hp
   by_cases Y:Region.wanted o (yielded ops a.tmps)=ε
   .rw[ι Y] at h;obtain⟨v,V,U⟩:=h;exact jy (v:=v) H (aaz C) hs hc hn Q (fun _ _ _ O=>abO O.1) _ _ _ _ inv (aaT H T) N (vS J Y V) hS (lI C hs hc hn rest _ _ _ (inv.set N Q) K hS U)
   .rw[θ Y] at h;exact jy (v:=undef) H (aaz C) hs hc hn Q (fun _ _ _ O=>abO O.1) _ _ _ _ inv (aaT H T) N (.inr ⟨by simpa using Y,rfl⟩) hS (lI C hs hc hn rest _ _ _ (inv.set N Q) K hS h)
 |(ζ,i)::rest,B,a,w,inv,hB,hS,h=>by
  simp only[sP,τ,Λ] at hB;obtain⟨⟨⟨⟨M,Q⟩,I⟩,l⟩,R⟩:=hB;unfold kP at h;rw[show((ζ,i)::rest).length+(post.length+1)=(rest.length+(post.length+1))+1 by simp;omega];refine⟨by rw[M];simp,fun j G=> ?_⟩;have F:=G;rw[M] at G;simp only[pq,Z5,aa2] at G;rcases G with rfl|rfl
  .exact⟨Q,acJ (fun a' w' h=>⟨h.1,lI C hs hc hn rest _ _ _ (inv.set F Q) l h.1 h.2⟩) h.1⟩
  .refine⟨I,acJ (fun a' w' h=>⟨h.1,?_⟩) h.2⟩;have:=kT (P:=P) (S:=S) (L:=L) C hs hc hn _ _ _ _ (inv.set F I) R h.1 h.2;rw[show((ζ,i)::rest++post).length=rest.length+(post.length+1) by simp;omega] at this;exact this
def tJ{K:Nat}{a:Act}{w:World}{l:List Oper}(n f:Nat)(G post:List (Bool×Nat))(R:Act->Act->World->Prop)(S:P.follows .mixedOrders=ε)(N:(Region.noSelect l.toArray&&Region.sinkB .any l.toArray n&&Region.chainB .any l.toArray n&&decide (n<l.length)&&decide (G.length+(post.length+1)=n)&&sP l.toArray n f post G (Array.replicate l.length ζ))=ε)(h:kP P l.toArray (fun w'=>∃x:aK w,w'=x.val) (fun a' w'=>R a a' w') f post G a w.drew)(V:∀a' w',R a a' w'->wpList P l.toArray Q (l.drop n) a' w'):(Code.region K l.toArray ε).wp P Q a w:=by
 simp only[τ,Λ] at N;obtain⟨⟨⟨⟨⟨C,hs⟩,hc⟩,hn⟩,T⟩,F⟩:=N;have J:n<l.toArray.size:=by simpa using hn
 have D:HeadInv .any l.toArray n (Array.replicate l.length ζ):=
  ⟨ag,fun j U _ Z=>AaP,fun t _ O=>adp (by simpa using O) (aaM _ _)⟩
 have H:=lI (P:=P) C hs hc J G _ a w.drew D F ⟨⟨w.drew,(Ext.refl w).drew⟩,rfl⟩ h;have I:(l.drop n).length=l.toArray.size-n:=ag;have L:=mP (P:=P) (Q:=Q) (n:=n) (g:=l.toArray.size-n) (fun B a' w' M=>by
  have:=ab5 (P:=P) (ops:=l.toArray) (md:=.any) (Q':=Q) (l.drop n) n B a' w' (fun j=>ag) (by rw[I];exact M.1) (V _ _ M.2);rwa[I] at this) _ _ _ _ H
 rw[T] at L;have e:n+(l.toArray.size-n)=l.toArray.size:=by simp at hn⊢;omega
 rw[e] at L;refine acm S ?_;simpa using L
def EW{l a w}{M:Act->World->Prop}(i)(hi:decide (i<l.length)=ε)(h:∀K:Act->World->Prop,(∀a' w',S w'->M a' w'->K a' w')->wpList P l.toArray (fun e a' w'=>e=.normal/\K a' w') (aU l i) a w):
  wpOp P l.toArray QF i (fun a' w'=>S w'/\M a' w') a w:=aR (L:=M) i [] hi h
def fH{l w}{L:Act->World->Prop}{f post}:∀(is:List Nat) (rest:List (Bool×Nat)) (a:Act),is.all (fun i=>decide (i<l.length))=ε->
  wpQuiet P l.toArray S (fun a'=>kP P l.toArray S L f post rest a' w) (bP l is) a->kP P l.toArray S L f post (is.map (fun i=>(ε,i))++rest) a w
 |[],_,_,_,h=>h
 |i::is,rest,a,hi,h=>by
  simp only[abT,τ,Λ] at hi;have j:l[i]? =γ l[i]:=ο hi.1;simp only[bP,Bo j,adq,wpQuiet] at h;simp only[acQ,μ,kP,Ω,j];by_cases Y:Region.wanted l[i] (yielded l.toArray a.tmps)=ε
  .rw[ι Y] at h⊢;exact Oper.quiet_mono (fun a' I=>fH is rest a' hi.2 I) h
  .rw[θ Y] at h⊢;exact fH is rest _ hi.2 h
def mG{l a w}{L:Act->World->Prop}{f post}(i rest)(hi:decide (i<l.length)=ε)(j:decide (f<l.length)=ε)(h:∀K:Act->World->Prop,(∀a' w',S w'->kP P l.toArray S L f post rest a' w'->K a' w')->wpList P l.toArray (fun e a' w'=>e=.normal/\K a' w') (aU l i) a w)(B:∀K:Act->World->Prop,(∀a' w',S w'->bQ P l.toArray S L ((ζ,i)::rest++post) a' w'->K a' w')->wpList P l.toArray (fun e a' w'=>e=.normal/\K a' w') (aU l f) a w):
  kP P l.toArray S L f post ((ζ,i)::rest) a w:=⟨EW i hi h,EW f j B⟩
def pg{l a w}{L:Act->World->Prop}{f post}(j:decide (f<l.length)=ε)(B:∀K:Act->World->Prop,(∀a' w',S w'->bQ P l.toArray S L post a' w'->K a' w')->wpList P l.toArray (fun e a' w'=>e=.normal/\K a' w') (aU l f) a w):
  kP P l.toArray S L f post [] a w:=EW f j B
end
def yP{P}(w){base t F e size C}(E:Elem P t e size C){v n xs}(l:w.ownsRow base e size v n xs)(A c):
  (Builtin.append_ #[t,t] F #[v,.slice A 0 c]).run P w=.ok v w:=by
 obtain⟨i,z,j,hi,H,I,K,N,D⟩:=E;rcases l.2 with ⟨rfl,rfl⟩|⟨g,G,cur,rfl,_,_,B,_⟩
 .cases A<;>simp[Builtin.append_,abl j,sizeOf,typeInfo,hi,Builtin.lenOf,Builtin.firstCells,loadCells,loadCellsFrom]
 .cases A<;>simp[Builtin.append_,abl j,sizeOf,typeInfo,hi,Builtin.lenOf,Builtin.firstCells,B,storeCells,loadCells,loadCellsFrom]
theorem jb{P w ops rest o a Q t e size C}(E:Elem P t e size C)(H:o.guard=δ)(s x:Operand)(B:o.op=.call {callee:=.builtin .append,args:= #[s,x],argTypes:= #[t,t]})(base v n xs)(hs:a.eval s=v)(l:w.ownsRow base e size v n xs)(A m c D)(J:a.eval x=.slice A m c)(N:Reads w w.heap.size size A m D)(R:∀u∈D,u.oneCell'=ε)(M:n+m<=9223372036854775807)(F:(n+m)*C<=140737488355328)(L:base<=w.heap.size)(h:∀K w',w'.ownsRow base e size K (n+m) (xs++D)->w.grownBy w' v.ownBlock->wpList P ops Q rest (a.put o.dst K) w'):
  wpList P ops Q (o::rest) a w:=by
 rcases Be m with j|j
 .subst j;obtain rfl:D=[]:=I4 (by simpa using N.1);refine adZ H fun _ I=> ?_;unfold Oper.wp execOp;simp only[B,resolve,invoke,builtin,aaK,aa7,aaF,List.map_toArray,acQ,List.map_nil,hs,J,yP w E l A c];exact I _ _ (h v w (by simpa using l) (World.grownBy.refl w _))
 .exact Ib E H s x B base v n xs hs l A m c D J N R j M F L (fun g G w' O S _ _=>h _ w' O S)
def wpT_q1{P:Program}{ops:Array Oper}{w0:World}{E:Nat->Bool}{Φ:Nat->Nat->Nat->Value->World->Prop}{Q:Book->Act->Prop}{o:Oper}{l:List Oper}{k:Nat}{F:Book}{a:Act}(B:ops[k]? =γ o)(D:(!E k&&gI o.op)=ε)(h:wpQuiet P ops (fun w'=>∃x:aK w0,w'=x.val) (fun a'=>wpT P ops w0 E Φ Q l (k+1) F a') [o] a):wpT P ops w0 E Φ Q (o::l) k F a:=
 zX 1 (fun j C=>by
  obtain rfl:j=0:=aa;exact B.symm) (by simpa[B] using D) h
def Qs{p q:Prop}(h:q)(t:q->p:=by
 intro h;(repeat (refine wpT_q1 (by rfl) (by rfl) ?_;go_big_quiet_step (fail);refine σ ?_));exact h):p:=t h
def Qp{p q:Prop}(h:q)(t:q->p:=by
 intro h;(try simp only[Act.put,nk,Ej,Ex]);exact h):p:=t h
def Kn.f{ops:Array Oper}{w0:World}{Φ:Nat->Nat->Nat->Value->World->Prop}{k:Nat}{F:Book}{w:World}(h:Kn ops w0 Φ k F w)(i:Nat)(e:Value×Nat×Nat)(l:F i=γ e:=by rfl)(j:anc ops ops.size k i=ε:=by kernel_rfl):Φ i e.2.1 e.2.2 e.1 w:=h.2 i e l j
section
variable {P:Program} {ops:Array Oper} {w0:World} {E:Nat->Bool} {Φ:Nat->Nat->Nat->Value->World->Prop} {Qt:Book->Act->Prop} {o:Oper} {l:List Oper} {k:Nat} {F:Book} {a:Act}
def Eb{Q:Nat->Nat->Prop}(h:∀g hi,g<hi->Q g hi)(t:(∀g hi,g<hi->Q g hi)->wpT P ops w0 E Φ Qt (o::l) k F a:=by
   intro h;refine dJ (by rfl) (by rfl) (by rfl) ?_ ?_
   .intro W I;go_simp;exact⟨Ext.new _ _,rfl,by simp,Blk.new _ _ _⟩
   .intro v g hi B;obtain⟨W,j⟩:=B;obtain⟨rfl,Z,-⟩:=j.get;clear j W;(try simp only[Act.put,nk,Ej,Ex]);exact h g hi Z):wpT P ops w0 E Φ Qt (o::l) k F a:=t h
def En_{Q:Nat->Nat->Prop}(h:∀lo hi,Q lo hi)(t:(∀lo hi,Q lo hi)->wpT P ops w0 E Φ Qt (o::l) k F a:=by
   intro h;refine dJ (by rfl) (by rfl) (by rfl) ?_ ?_
   .intro W I;go_simp;exact⟨Ext.refl _,rfl⟩
   .intro v lo hi B;obtain⟨W,j⟩:=B;obtain rfl:v=_:=j.get;clear j W;(try simp only[Act.put,nk,Ej,Ex]);exact h lo hi):wpT P ops w0 E Φ Qt (o::l) k F a:=t h
variable {G:Value->World->Prop} {f:FuncId} {args:Array Value}
def E1{Q:Value->Nat->Nat->Prop}(x:∀W,Kn ops w0 Φ k F W->Calls P f args W (fun e w'=>∃v,e=.returned v/\G v w'/\Ext W w'))(h:∀v lo hi,Q v lo hi)(t:(∀W,Kn ops w0 Φ k F W->Calls P f args W (fun e w'=>∃v,e=.returned v/\G v w'/\Ext W w'))->(∀v lo hi,Q v lo hi)->wpT P ops w0 E Φ Qt (o::l) k F a:=by
   intro x h;refine dJ (by rfl) (by rfl) (by rfl) ?_ ?_
   .intro W I;have y:=x W I;clear x h I;go_simp;exact⟨rfl,y.mono fun e w' ⟨v,O,hv,J⟩=>⟨v,O,J,hv⟩⟩
   .intro v lo hi j;clear j x;(try simp only[Act.put,nk,Ej,Ex]);exact h v lo hi):wpT P ops w0 E Φ Qt (o::l) k F a:=t x h
end

def Qd{p q:Prop}(h:q)(t:q->p:=by
 intro h;simp only[aaq,abm,ρ,φ];exact h):p:=t h
def mg (l:List Nat):List Value:=l.map fun(d:Nat)=> .int .u32 (d:Int)
def qw(l):(mg l).length=l.length:=by simp[mg]
def oK{l}{k x:Nat}(h:l[k]? =γ x):(mg l)[k]? =γ (.int .u32 (x:Int)):=by simp[mg,h]
def Au{l}:∀u∈mg l,u.oneCell'=ε:=by
 intro u j;simp only[mg,aaf] at j;obtain⟨d,_,rfl⟩:=j;rfl
def Un(l:List Nat)(k x:Nat):(mg l).set k (.int .u32 (x:Int))=mg (l.set k x):=by simp[mg,ad1]
def EE(n):mg (List.replicate n 0)=List.replicate n (.int .u32 0):=by simp[mg]
structure RM (w:World) (A:Option Addr) (n c:Nat) (l:List Nat):Prop where
 rd:Reads w w.heap.size 1 A n (mg l)
 dg:Dig l
 nc:n<=c
 cm:c<=9223372036854775807
section
variable {w w':World} {A:Option Addr} {n c:Nat} {l:List Nat}
def RM.ext(h:RM w A n c l)(e:Ext w w'):RM w' A n c l:=⟨h.rd.ext e,h.dg,h.nc,h.cm⟩
def RM.len(h:RM w A n c l):l.length=n:=by have:=h.rd.1;rw[qw] at this;omega
def RM.at_{k}(h:RM w A n c l)(C:k<n):∃j x,A=γ j/\j.block<w.heap.size/\l[k]? =γ x/\x<4294967296/\w.cell? (j.add k)=γ (.int .u32 (x:Int)):=by
 obtain⟨j,u,e,hb,B,hc⟩:=h.rd.at_ C;simp only[mg,Nq,abE] at B;obtain⟨x,J,rfl⟩:=B;exact⟨j,x,e,hb,J,h.dg.at_ J,hc⟩
def afe:RM w δ 0 0 []:=⟨afi,ae4,κ _,aa⟩
def RM.empty(h:RM w A 0 c l):l=[]:=I4 h.len
def RM.take{k c'}(h:RM w A n c l)(G:k<=n)(hc:k<=c')(C:c'<=9223372036854775807):RM w A k c' (l.take k):=by
 have Z:=h.len;refine⟨⟨?_,fun H=> ?_⟩,h.dg.take k,hc,C⟩
 .rw[qw,A8];omega
 .obtain⟨F,e,hb,B⟩:=h.rd.2 aa;refine⟨F,e,hb,fun j u D=>B j u ?_⟩;simp only[mg,Nq,abE] at D⊢;obtain⟨x,J,rfl⟩:=D;refine⟨x,?_,rfl⟩;rw[List.getElem?_take] at J;split at J
  .exact J
  .cases J
end
def zt{l:List Nat}{k x}(h:l[k]? =γ x):l.getD k 0=x:=by simp[List.getD,h]
def Ae{l k}(h:l[k]? =γ 0):iR l (k+1)=iR l k:=by simp[iR,h]
def zG{l k x}(h:l[k]? =γ x)(J:x≠0):iR l (k+1)=k+1:=by simp[iR,h,J]
def SlM (l:List Nat) (v:Value) (w:World):Prop:=∃A n c,v=.slice A n c/\RM w A n c l
def QG(A n c l w)(h:RM w A n c l):
  Calls prog 174 #[.slice A n c] w fun e w'=>(∃v,e=.returned v/\SlM (cu (val l)) v w)/\w=w':=by
 have hn:n<=9223372036854775807:=lh h.nc h.cm;have B:=h.nc;have M:=h.cm;have F:=aJ h.len;have I:=aJ (Lx h.dg);go_enter func174,ntmps174;go_wp2;go_loop [3] (fun i=>∃k:Nat,k<=n/\i=.int .i64 k/\iR l n=iR l k) (fun i=>(intOf i).toNat)
 case atStart=>exact⟨n,κ _,rfl,rfl⟩
 case round=>
  obtain⟨k,O,rfl,D⟩:=hrel;have T:=aJ D;clear D;by_cases N:k=0
  .subst N;go_wp2;go_ret;refine⟨⟨_,rfl,δ,0,0,rfl,?_⟩,rfl⟩;rw[<-I.o,F.o,T.o];exact afe
  .obtain⟨j,rfl⟩:∃j,k=j+1:=⟨k-1,aa⟩;obtain⟨P,x,rfl,hb,J,H,K⟩:=h.at_ (k:=j) aa;have G:=aJ J;clear J;by_cases C:x=0
   .subst C;go_wp2;go_round
    case rel=>exact⟨j,aa,au,by rw[T.o,Ae G.o]⟩
    case measure=>simp[intOf]<;>omega
   .have L:((x:Int)==0)=ζ:=ae;go_wp2;go_ret;refine⟨⟨_,rfl,_,_,_,rfl,?_⟩,rfl⟩;rw[<-I.o,F.o,T.o,zG G.o C];exact h.take aa aa aa
def mV (a b:Nat):Int:=if a<b then-1 else if b<a then 1 else 0
def ze{a b}(ha:Dig a)(j:Canon b)(h:a.length<b.length):val a<val b:=by
 have B:=lY ha;have l:=Jf j (by intro e;simp[e] at h);have C:=Ab (n:=4294967296) aa (show a.length<=b.length-1 by omega);omega
def ut{a b k x y}(ha:Dig a)(J:a[k]? =γ x)(R:b[k]? =γ y)(h:a.drop (k+1)=b.drop (k+1))(j:x<y):val a<val b:=by
 obtain⟨G,rfl⟩:=ν.1 J;obtain⟨F,rfl⟩:=ν.1 R;have l:=gJ a (k+1) aa;have D:=gJ b (k+1) aa;rw[bG J] at l;rw[bG R,<-h] at D;have C:=lY (ha.take k);rw[A8,aat aa] at C;have B:4294967296^k*(a[k]+1)<=4294967296^k*b[k]:=ib _ j;rw[Δ,aav] at B;omega
def DN{a b:List Nat}{k x}(J:a[k]? =γ x)(R:b[k]? =γ x)(h:a.drop (k+1)=b.drop (k+1)):a.drop k=b.drop k:=by
 obtain⟨B,j⟩:=ν.1 J;obtain⟨l,C⟩:=ν.1 R;rw[aaH B,aaH l,j,C,h]
def zm{a b}(h:a<b): -1=mV a b:=by simp[mV,h]
def zB{a b}(h:b<a):1=mV a b:=by simp[mV,h];omega
def Lc{a b}(h:a=b):0=mV a b:=by simp[mV,h]
def iH(A B n m c d a b w)(G:RM w A n c a)(L:RM w B m d b)(C:Canon a)(W:Canon b):
  CE 97 #[.slice A n c,.slice B m d] w (.int .i64 (mV (val a) (val b))):=by
 have hn:n<=9223372036854775807:=lh G.nc G.cm;have hm:m<=9223372036854775807:=lh L.nc L.cm;have Q:=aJ G.len;have P:=aJ L.len;rcases acf n m with N|O|l
 .have F:((n:Int) !=(m:Int))=ε:=ae;go_enter aeB,ad3;exact Acp
 .subst O;go_enter aeB,ad3;exact Aam
 .have F:((n:Int) !=(m:Int))=ε:=ae;go_enter aeB,ad3;exact AcT
def il(A B n m c d a b w)(G:RM w A n c a)(L:RM w B m d b)(C:Canon a)(W:Canon b):
  CE 113 #[.slice A n c,.slice B m d] w (.int .i64 (mV (val a) (val b))):=by
 have hn:n<=9223372036854775807:=lh G.nc G.cm;have hm:m<=9223372036854775807:=lh L.nc L.cm;have Q:=aJ G.len;have P:=aJ L.len;rcases acf n m with N|O|l
 .have F:((n:Int) !=(m:Int))=ε:=ae;go_enter ad4,adE;exact Acp
 .subst O;go_enter ad4,adE;exact Aam
 .have F:((n:Int) !=(m:Int))=ε:=ae;go_enter ad4,adE;exact AcT
def jO:Elem prog 38 208 1 4:=ae2 ach (z:=.int .u32 0) ah rfl aa
def afm{w base n v l}(h:w.ownsRow base 208 1 v n (mg l))(hd:Dig l):SlM l v w:=by
 obtain⟨A,c,rfl,B,j,C⟩:=iY h;exact⟨A,n,c,rfl,C,hd,B,j⟩
def SlM.ext{w w' l v}(h:SlM l v w)(e:Ext w w'):SlM l v w':=by
 obtain⟨A,n,c,B,j⟩:=h;exact⟨A,n,c,B,j.ext e⟩
def yl(A n c l w)(h:RM w A n c l)(hn:n<=1000000):
  Calls prog 179 #[.slice A n c] w fun e w'=>∃v,e=.returned v/\(SlM (cu (val l)) v w'/\∀g,v.ownBlock=γ g->w.heap.size<=g)/\Ext w w':=by
 have B:=h.nc;have G:=h.cm;have S:=aJ h.len;have V:=aJ (Lx h.dg);go_enter func179,ntmps179;go_wp2;go_loop [3] (fun i=>∃k:Nat,k<=n/\i=.int .i64 k/\iR l n=iR l k) (fun i=>(intOf i).toNat)
 case atStart=>exact⟨n,κ _,rfl,rfl⟩
 case round=>
  obtain⟨k,P,rfl,I⟩:=hrel;have T:=aJ I;clear I;have fin:∀j,j<=n->iR l j=j->iR l k=iR l j->RM w A j c (cu (val l)):=fun j U R N=>by
   have:=h.take (k:=j) (c':=c) U aa G;rwa[<-V.o,S.o,T.o,N,R]
  by_cases O:k=0
  .subst O;have Q:=aJ (fin 0 aa rfl rfl);clear fin;cases A
   all_goals
    (go_wp2_with (at_builtin;refine jb jO rfl (.tmp 18) (.tmp 21) rfl w.heap.size _ 0 [] rf (abg _ _ _ aa aa ag) _ 0 _ (mg (cu (val l))) rf (Q.ext (Ext.new w _)).rd Au aa aa ag ?_));exact Aa5
  .obtain⟨j,rfl⟩:∃j,k=j+1:=⟨k-1,aa⟩;obtain⟨W,x,rfl,hb,J,H,K⟩:=h.at_ (k:=j) aa;have L:=aJ J;clear J;by_cases C:x=0
   .subst C;clear fin;go_wp2;go_round
    case rel=>exact⟨j,aa,au,by rw[T.o,Ae L.o]⟩
    case measure=>simp[intOf]<;>omega
   .have M:((x:Int)==0)=ζ:=ae;have Q:=aJ (fin (j+1) P (zG L.o C) rfl);clear fin;(go_wp2_with (at_builtin;refine jb jO rfl (.tmp 18) (.tmp 21) rfl w.heap.size _ 0 [] rf (abg _ _ _ aa aa ag) _ (j+1) _ (mg (cu (val l))) rf (Q.ext (Ext.new w _)).rd Au aa aa ag ?_));exact Aa5
def iB(A n c l w)(h:RM w A n c l)(hn:n<=1000000):
  CV 179 #[.slice A n c] w fun v w'=>SlM (cu (val l)) v w':=
 (yl A n c l w h hn).mono fun _ _ ⟨v,B,j,C⟩=>⟨v,B,j.1,C⟩
abbrev iv (neg:Bool) (A:Option Addr) (n c:Nat):Value:=.agg #[.bool neg,.slice A n c]
def RM.at3{w A n c k l}(h:RM w A n c l)(C:k<n):
  ∃B x,A=γ B/\l[k]? =γ x/\x<4294967296/\w.cell? (B.add k)=γ (.int .u32 (x:Int))/\(∀o,(w.alloc o).cell? (B.add k)=γ (.int .u32 (x:Int)))/\
   (∀o R,((w.alloc o).alloc R).cell? (B.add k)=γ (.int .u32 (x:Int)))/\(∀o R j,(((w.alloc o).alloc R).alloc j).cell? (B.add k)=γ (.int .u32 (x:Int))):=by
 obtain⟨B,x,e,hb,J,H,hc⟩:=h.at_ C;exact⟨B,x,e,J,H,hc,fun o=>(Ext.new w o).cell_ hc,fun o R=>((Ext.new w o).alloc R).cell_ hc,fun o R j=>(((Ext.new w o).alloc R).alloc j).cell_ hc⟩
def kJ (neg:Bool) (l:List Nat):Bool:=if l.length=0 then !neg else decide (l.length<=400)&&l.getD (l.length-1) 0 !=0
def yO{neg l}(h:l.length=0):kJ neg l= !neg:=by simp[kJ,h]
def yu{neg l}(h:400<l.length):kJ neg l=ζ:=by
 have:¬l.length=0:=aa;simp[kJ,this];omega
def uw{neg l j x}(h:l.length=j+1)(B:j+1<=400)(J:l[j]? =γ x):kJ neg l=(x !=0):=by
 have:¬l.length=0:=aa;simp only[kJ,h,Nat.add_sub_cancel,zt J];simp[B]
def gL(neg A n c l w)(h:RM w A n c l):
  CE 96 #[iv neg A n c] w (.bool (kJ neg l)):=by
 have hn:n<=9223372036854775807:=lh h.nc h.cm;have G:=aJ h.len;by_cases N:n=0
 .subst N;cases neg
  all_goals
   go_enter func96,ntmps96;go_wp2;go_ret;exact⟨aS (by rw[yO G.o];rfl),Ext.new _ _⟩
 .obtain⟨j,rfl⟩:∃j,n=j+1:=⟨n-1,aa⟩;have M:(((j+1:Nat):Int)==0)=ζ:=ae;have B:((j:Int)+1==0)=ζ:=ae;by_cases I:j+1<=400
  .obtain⟨P,x,rfl,J,H,_,O,_,_⟩:=h.at3 (k:=j) aa;have L:=aJ J;clear J;by_cases C:x=0
   .subst C;have D:kJ neg l=ζ:=by rw[uw G.o I L.o];rfl
    have F:=aJ D;clear D;exact Acs
   .have K:((x:Int) !=0)=ε:=ae;have D:kJ neg l=ε:=by rw[uw G.o I L.o];simp[C]
    have F:=aJ D;clear D;exact Acs
  .have F:=aJ (yu (neg:=neg) (l:=l) (by rw[G.o];omega));exact Acs
def fK(neg A n c l w)(h:RM w A n c l):
  CE 178 #[iv neg A n c] w (.bool (kJ neg l)):=by
 have hn:n<=9223372036854775807:=lh h.nc h.cm;have G:=aJ h.len;by_cases N:n=0
 .subst N;cases neg
  all_goals
   go_enter func178,ntmps178;go_wp2;go_ret;exact⟨aS (by rw[yO G.o];rfl),Ext.new _ _⟩
 .obtain⟨j,rfl⟩:∃j,n=j+1:=⟨n-1,aa⟩;have M:(((j+1:Nat):Int)==0)=ζ:=ae;have B:((j:Int)+1==0)=ζ:=ae;by_cases I:j+1<=400
  .obtain⟨P,x,rfl,J,H,_,O,_,_⟩:=h.at3 (k:=j) aa;have L:=aJ J;clear J;by_cases C:x=0
   .subst C;have D:kJ neg l=ζ:=by rw[uw G.o I L.o];rfl
    have F:=aJ D;clear D;exact Acn
   .have K:((x:Int) !=0)=ε:=ae;have D:kJ neg l=ε:=by rw[uw G.o I L.o];simp[C]
    have F:=aJ D;clear D;exact Acn
  .have F:=aJ (yu (neg:=neg) (l:=l) (by rw[G.o];omega));exact Acn
def RX (w:World) (v:Value) (neg:Bool) (l:List Nat):Prop:=∃A n c,v=iv neg A n c/\RM w A n c l
def RX.ext{w w' v neg l}(h:RX w v neg l)(e:Ext w w'):RX w' v neg l:=by
 obtain⟨A,n,c,B,j⟩:=h;exact⟨A,n,c,B,j.ext e⟩
def NT:Nat:=400
def lim:Nat:=4294967296^NT
def QO{m k}(h:m<4294967296^k)(j:k<=400):m<lim:=π h (Ab aa (show k<=NT from j))
theorem jC{m}(h:m<lim):(cu m).length<=400:=show(cu m).length<=NT from eG (k:=NT) (by unfold lim at h;exact h)
def RI (w:World) (v:Value) (z:Int):Prop:=RX w v (decide (z<0)) (cu z.natAbs)
def RI.ext{w w' v z}(h:RI w v z)(e:Ext w w'):RI w' v z:=RX.ext h e
def RI.zero(w):RI w (iv ζ δ 0 0) 0:=⟨δ,0,0,rfl,by simpa[iw] using afe⟩
def zOf (neg:Bool) (m:Nat):Int:=if neg then-(m:Int) else m
theorem uu(neg m):(zOf neg m).natAbs=m:=by unfold zOf;split<;>omega
def RN(neg m):decide (zOf neg m<0)=(neg&&decide (0<m)):=by
 cases neg
 .simp[zOf]
 .simp[zOf]
def RX.made{w A n c m}(neg)(h:RM w A n c (cu m)):RI w (iv (neg&&decide (0<n)) A n c) (zOf neg m):=by
 refine⟨A,n,c,?_,by rw[uu];exact h⟩;have Z:=h.len;rw[RN];have e:decide (0<n)=decide (0<m):=by
  by_cases j:m=0
  .subst j;rw[iw] at Z;obtain rfl:n=0:=by simpa using Z.symm
   rfl
  .have B:cu m≠[]:=fun e=>j (nu.1 e);have l:0<n:=by rw[<-Z];exact acD.2 B
   rw[Ξ l,Ξ aa]
 rw[e]
theorem aeY{w v z}(j:RI w v z)(F:z.natAbs<lim):kJ (decide (z<0)) (cu z.natAbs)=ε:=by
 unfold kJ;have C:(cu z.natAbs).length<=400:=jC F;split
 .rename_i B
  have:=nu.1 (I4 B);simp;omega
 .rename_i B
  have l:(cu z.natAbs)[(cu z.natAbs).length-1]? =γ (cu z.natAbs)[(cu z.natAbs).length-1]:=ο aa;have D:=bL z.natAbs _ (by rw[abZ];exact l);simp only[τ,Λ,bne_iff_ne,zt l];exact⟨C,D⟩
def RM.only{w w' A n c g l t cs}(h:RM w A n c l)(F:Only g w w')(hb:Blk w g t cs)(D:∀(j:Nat) (k:IntKind) (x:Int),cs[j]?≠γ (.int k x)):RM w' A n c l:=by
 refine⟨⟨h.rd.1,fun hn=> ?_⟩,h.dg,h.nc,h.cm⟩;obtain⟨b,o,rfl,B,hc⟩:=h.rd.plain hn;obtain⟨H,x,e,_,J,_,_⟩:=h.at_ hn;have C:b≠g:=by
  rintro rfl;have:=hc 0 _ (oK J);rw[hb.cell] at this;exact D _ _ _ this
 refine⟨_,rfl,π B F.size,fun j u G=> ?_⟩;rw[add_plain];exact F.cell_ (hc j u G) C
def Us{b A n c}:∀(j:Nat) (k:IntKind) (x:Int),#[Value.bool b,Value.slice A n c][j]?≠γ (.int k x):=by
 intro j k x
 match j with
 |0=>simp
 |1=>simp
 |j+2=>simp
def jq{w w' g B A0 n0 c0}(J:Ext w w')(j:w.heap.size<=g)(hb:Blk w' g 40 #[.bool B,.slice A0 n0 c0])(b A n c):
  Ext w ((w'.setCell ⟨g,0,δ⟩ (.bool b)).setCell ⟨g,1,δ⟩ (.slice A n c))/\Blk ((w'.setCell ⟨g,0,δ⟩ (.bool b)).setCell ⟨g,1,δ⟩ (.slice A n c)) g 40 #[.bool b,.slice A n c]/\
   ∀A' n' c' l,RM w' A' n' c' l->RM ((w'.setCell ⟨g,0,δ⟩ (.bool b)).setCell ⟨g,1,δ⟩ (.slice A n c)) A' n' c' l:=
 ⟨(J.setCell j _).setCell j _,(hb.nL 0 _).nL 1 _,fun _ _ _ _ h=>h.only ((Only.set _ _ _ _).trans (Only.set _ _ _ _)) hb Us⟩
def vV{w g b A n c}(hb:Blk w g 40 #[.bool b,.slice A n c]):(loadVar 40 ⟨g,0,δ⟩).run prog w=.ok (iv b A n c) w:=by
 have hc:=hb.cell;simp[go_sem,hc]
section
variable {fn:Func} {R:Ending->World->Prop} {a:Act} {w:World} {t u x g g':Nat} {b b':Bool} {A A':Option Addr} {n c n' c':Nat}
def fC(l:fn.results= #[.cell t 40])(hd:a.defers=[])(hp:a.tmps[t]?.getD undef=.pointer (γ ⟨g,0,δ⟩))(hb:Blk w g 40 #[.bool b,.slice A n c])(j:R (.returned (iv b A n c)) w):bodyPost prog fn R .ret a w:=aag (by simp[results,l,hp,asAddr,vV hb]) hd j
def ik(l:fn.results= #[.cell t 40,.tmp u])(hd:a.defers=[])(hp:a.tmps[t]?.getD undef=.pointer (γ ⟨g,0,δ⟩))(hb:Blk w g 40 #[.bool b,.slice A n c])(j:R (.returned (.tuple #[iv b A n c,a.tmps.getD u undef])) w):bodyPost prog fn R .ret a w:=aag (v:=.tuple #[iv b A n c,a.tmps.getD u undef]) (by simp[results,l,hp,asAddr,vV hb]) hd j
def xz(B:fn.results= #[.cell t 40,.cell u 40,.tmp x])(hd:a.defers=[])(hp:a.tmps[t]?.getD undef=.pointer (γ ⟨g,0,δ⟩))(hb:Blk w g 40 #[.bool b,.slice A n c])(J:a.tmps[u]?.getD undef=.pointer (γ ⟨g',0,δ⟩))(j:Blk w g' 40 #[.bool b',.slice A' n' c'])(l:R (.returned (.tuple #[iv b A n c,iv b' A' n' c',a.tmps.getD x undef])) w):bodyPost prog fn R .ret a w:=
 aag (v:=.tuple #[iv b A n c,iv b' A' n' c',a.tmps.getD x undef]) (by simp[results,B,hp,J,asAddr,vV hb,vV j]) hd l
end
def iA(neg A n c l w)(h:RM w A n c l)(hn:n<=1000000):
  CV 150 #[.bool neg,.slice A n c] w fun v w'=>RI w' v (zOf neg (val l)):=by
 go_enter func150,ntmps150;(go_wp2_with fail);refine(iB A n c l _ (h.ext (Ext.new w _)) hn).mono ?_;rintro e w1 ⟨v1,rfl,⟨A1,n1,c1,rfl,C⟩,M⟩;have W:n1<=9223372036854775807:=lh C.nc C.cm;have hb:=(Blk.new w 40 _).ext M;have hc:=hb.cell;have H:=hb.frozen;obtain⟨D,V,G⟩:=jq ((Ext.new w _).trans M) (κ _) hb (neg&&decide (0<n1)) A1 n1 c1;have j:=aJ D;have U:=aJ V;have B:=aJ (RX.made neg (G _ _ _ _ C));clear D V G;by_cases F:0<n1
 all_goals
  cases neg
  all_goals
   go_wp2
   first
    |simp only[abU,ab9,υ F] at j U B
    |simp only[abU,ab9,Ξ F] at j U B
   exact fC rfl rfl rfl U.o ⟨_,rfl,B.o,j.o⟩
def pQ (z:Int):Int×Int:=if z.natAbs<lim then (z,0) else (0,2)
theorem lK{z}(h:z.natAbs<lim):pQ z=(z,0):=by unfold pQ;rw[ι h]
theorem Lp{z}(h:¬z.natAbs<lim):pQ z=(0,2):=by unfold pQ;rw[θ h]
def nM (p:Int×Int) (v:Value) (w:World):Prop:=∃u,v=.tuple #[u,.int .i64 p.2]/\RI w u p.1
def nM.ext{w w' v}{p:Int×Int}(h:nM p v w)(e:Ext w w'):nM p v w':=by
 obtain⟨u,l,j⟩:=h;exact⟨u,l,j.ext e⟩
def Aj{m n}(h:(cu m).length=n):n<=400↔m<lim:=
 ⟨fun j=>QO (dS (k:=n) aa) j,fun j=>by have:=jC j;omega⟩
def jL(A n c l w)(h:RM w A n c l):
  CV 174 #[.slice A n c] w fun v w'=>SlM (cu (val l)) v w':=
 (QG A n c l w h).mono fun _ _ ⟨⟨v,C,B⟩,j⟩=>⟨v,C,j ▸ B,j ▸ Ext.refl _⟩
def iC(neg A n c l w)(h:RM w A n c l):
  CV 203 #[.bool neg,.slice A n c] w fun v w'=>nM (pQ (zOf neg (val l))) v w':=by
 go_enter func203,ntmps203;(go_wp2_with fail);refine(jL A n c l _ (h.ext (Ext.new w _))).mono ?_;rintro e w1 ⟨v1,rfl,⟨A1,n1,c1,rfl,G⟩,M⟩;have hb:=(Blk.new w 40 _).ext M;have hc:=hb.cell;have L:=hb.frozen;have W:n1<=9223372036854775807:=lh G.nc G.cm;have j:=Aj G.len;have B:=uu neg (val l);by_cases K:n1<=400
 .obtain⟨C,V,J⟩:=jq ((Ext.new w _).trans M) (κ _) hb (neg&&decide (0<n1)) A1 n1 c1;have D:=aJ C;have U:=aJ V;have H:=aJ (RX.made neg (J _ _ _ _ G));clear C V J;have F:=aJ (lK (z:=zOf neg (val l)) (by rw[B];exact j.1 K));clear j B;by_cases I:0<n1
  all_goals
   cases neg
   all_goals
    go_wp2
    first
     |simp only[abU,ab9,υ I] at D U H
     |simp only[abU,ab9,Ξ I] at D U H
    exact ik rfl rfl rfl U.o ⟨_,rfl,⟨_,by rw[F.o];rfl,by rw[F.o];exact H.o⟩,D.o⟩
 .have F:=aJ (Lp (z:=zOf neg (val l)) (by rw[B];exact fun h=>K (j.2 h)));clear j B;obtain⟨C,V,_⟩:=jq ((Ext.new w _).trans M) (κ _) hb ζ δ 0 0;have D:=aJ C;have U:=aJ V;clear C V;go_wp2;exact ik rfl rfl rfl U.o ⟨_,rfl,⟨_,by rw[F.o];rfl,by rw[F.o];exact RI.zero _⟩,D.o⟩
def kQ(v z w)(h:RI w v z):
  CV 183 #[v] w fun v w'=>nM (pQ z) v w':=by
 obtain⟨A,n,c,rfl,B⟩:=h;have hn:n<=9223372036854775807:=lh B.nc B.cm;have j:=Aj B.len;by_cases C:n<=400
 .have l:=aJ (lK (z:=z) (j.1 C));clear j;go_enter func183,ntmps183;go_wp2;exact ik rfl rfl rfl (aeS _ _ ag) ⟨_,rfl,⟨_,by rw[l.o];rfl,by rw[l.o];exact⟨_,_,_,rfl,B.ext ((Ext.new _ _).alloc _)⟩⟩,(Ext.new _ _).alloc _⟩
 .have l:=aJ (Lp (z:=z) (fun h=>C (j.2 h)));clear j;go_enter func183,ntmps183;go_wp2;exact ik rfl rfl rfl (aeS _ _ ag) ⟨_,rfl,⟨_,by rw[l.o];rfl,by rw[l.o];exact RI.zero _⟩,(Ext.new _ _).alloc _⟩
def RM.blk{w g n l}(hb:Blk w g 208 (mg l).toArray)(hd:Dig l)(hn:l.length=n)(j:n<=9223372036854775807):RM w (γ ⟨g,0,δ⟩) n n l:=by
 have:=hb.reads (n:=n) (size:=1) (by simp[qw,hn]);exact⟨by simpa using this,hd,κ _,j⟩
def D7(u):val [u%4294967296,u/4294967296]=u:=by simp only[val];omega
def Eh{u}(h:u<18446744073709551616):Dig [u%4294967296,u/4294967296]:=Dig.cons aa (Dig.one aa)
def jw(n):IntKind.u64.wrap n=n%18446744073709551616:=by simp[IntKind.wrap,IntKind.signed,IntKind.bits]
def u64_neg{m:Nat}(h:m<=9223372036854775808):IntKind.u64.wrap (-IntKind.u64.wrap (-(m:Int)))=(m:Int):=by
 rw[jw,jw];omega
def Ol(u:Nat): #[Value.int .u32 ((u:Int)%4294967296),Value.int .u32 ((u:Int)/4294967296)]=(mg [u%4294967296,u/4294967296]).toArray:=by
 simp[mg]
def Tg{u:Nat}(h:u<18446744073709551616): #[Value.int .u32 ((u:Int)%4294967296),Value.int .u32 ((u:Int)/4294967296%4294967296)]=(mg [u%4294967296,u/4294967296]).toArray:=by
 simp[mg];omega
def pX(u:Nat)(w)(l:u<18446744073709551616):
  CV 151 #[.int .u64 (u:Int)] w fun v w'=>SlM (cu u) v w':=by
 go_enter func151,ntmps151;(go_wp2_with fail);rw[Ol];refine(iB _ 2 2 _ _ (RM.blk (Blk.new _ _ _) (Eh l) rfl aa) aa).mono ?_;rintro e w1 ⟨v1,rfl,j,M⟩;rw[D7] at j;go_wp2;go_ret;exact⟨_,rfl,j,(Ext.new _ _).trans M⟩
def zz(m):zOf ζ m=(m:Int):=rfl
def ET(m):zOf ε m= -(m:Int):=rfl
def Bh(n w)(I: -9223372036854775808<=n)(G:n<=9223372036854775807):
  CV 140 #[.int .i64 n] w fun v w'=>RI w' v n:=by
 by_cases H:n<0
 .obtain⟨m,rfl⟩:∃m:Nat,n= -(m:Int):=⟨n.natAbs,aa⟩;go_enter func140,ntmps140;(go_wp2_with fail);rw[u64_neg aa,Tg aa];refine(jL _ 2 2 _ _ (RM.blk (aeS _ _ ag) (Eh aa) rfl aa)).mono ?_;rintro e w1 ⟨v1,rfl,⟨A1,n1,c1,rfl,j⟩,M⟩;rw[D7] at j;have hb:=((Blk.new w 40 _).alloc _).ext M;have hc:=hb.cell;have F:=hb.frozen;obtain⟨l,V,B⟩:=jq (((Ext.new w _).alloc _).trans M) (κ _) hb ε A1 n1 c1;have D:=aJ l;have U:=aJ V;have C:=aJ (RX.made ε (B _ _ _ _ j));clear l V B;have W:0<n1:=by
   have:=j.len;rw[<-this];exact acD.2 fun e=>by have:=nu.1 e;omega
  rw[Ξ W,abU,ET] at C;go_wp2;exact fC rfl rfl rfl U.o ⟨_,rfl,C.o,D.o⟩
 .obtain⟨m,rfl⟩:∃m:Nat,n=(m:Int):=⟨n.natAbs,aa⟩;go_enter func140,ntmps140;(go_wp2_with fail);rw[Ol];refine(jL _ 2 2 _ _ (RM.blk (aeS _ _ ag) (Eh aa) rfl aa)).mono ?_;rintro e w1 ⟨v1,rfl,⟨A1,n1,c1,rfl,j⟩,M⟩;rw[D7] at j;have hb:=((Blk.new w 40 _).alloc _).ext M;have hc:=hb.cell;have F:=hb.frozen;obtain⟨l,V,B⟩:=jq (((Ext.new w _).alloc _).trans M) (κ _) hb ζ A1 n1 c1;have D:=aJ l;have U:=aJ V;have C:=aJ (RX.made ζ (B _ _ _ _ j));clear l V B;rw[ab9,zz] at C;go_wp2;exact fC rfl rfl rfl U.o ⟨_,rfl,C.o,D.o⟩
def OJ:(prog.info? 208).map (fun i=>(i.zero,i.size,i.bytes))=γ (γ (.int .u32 0),1,4):=ah
def jk(x:Int)(k:Nat)(J:x=k)(D:k<=10000000)(W:World):
  (Instr.makeSlice 38 (.int .i64 x) (.int .i64 x)).run prog W=.ok (.slice (γ ⟨W.heap.size,0,δ⟩) k k) (W.alloc (.cells (mg (List.replicate k 0)).toArray 208)):=by
 obtain⟨i0,C,l,B,j⟩:=abP OJ;have h:=ac7 (P:=prog) W 38 208 i0 (.int .u32 0) ach C l .i64 .i64 x x aa aa Abs aa;subst J;rw[h,EE];have e:madeCells (Value.int .u32 0).cells k=(List.replicate k (Value.int .u32 0)).toArray:=uK _ _;simp only[B,aav,aah,e]
def tq{o k N d}(j:o.length=k)(l:k<N):(o++List.replicate (N-k) 0).set k d=(o++[d])++List.replicate (N-(k+1)) 0:=by
 subst j;rw[show N-o.length=(N-(o.length+1))+1 by omega,aaP];simp
def Fa{l:List Nat}{k d:Nat}{z:Int}(h:z=(d:Int)):(mg l).set k (.int .u32 z)=mg (l.set k d):=by subst h;exact Un l k d
def kV{w:World}{g k N d:Nat}{o:List Nat}{z:Int}(hb:Blk w g 208 (mg (o++List.replicate (N-k) 0)).toArray)(l:o.length=k)(j:k<N)(B:z=(d:Int)):
  Blk (w.setCell ⟨g,k,δ⟩ (.int .u32 z)) g 208 (mg ((o++[d])++List.replicate (N-(k+1)) 0)).toArray:=by
 have:=hb.O5 (i:=k) (.int .u32 z);rwa[Fa B,tq l j] at this
def qF{w g k N o}(hb:Blk w g 208 (mg (o++List.replicate (N-k) 0)).toArray)(j:o.length=k)(l:k<N):∃u,w.cell? ⟨g,k,δ⟩=γ u:=by
 exact hb.NI (by simp[qw,j];omega)
def wm{o a b:List Nat}{k G x y}(j:o.length=k)(h:val o+4294967296^k*G=val (a.take k)+val (b.take k))(J:a[k]? =γ x)(R:val (b.take (k+1))=val (b.take k)+4294967296^k*y):
  val (o++[(x+G+y)%4294967296])+4294967296^(k+1)*((x+G+y)/4294967296)=val (a.take (k+1))+val (b.take (k+1)):=by
 rw[jI,bG J,R,j,y8,χ];have e:4294967296^k*((x+G+y)%4294967296)+4294967296^k*(4294967296*((x+G+y)/4294967296))=4294967296^k*(x+G+y):=by
  exact AbD
 have l:4294967296^k*(x+G+y)=4294967296^k*x+4294967296^k*G+4294967296^k*y:=by rw[Δ,Δ]
 omega
def kU{b:List Nat}{m k}(h:b.length=m)(j:¬k<m):val (b.take (k+1))=val (b.take k)+4294967296^k*0:=by rw[uM aa];rfl
def ML(A B n m c d a b w)(W:RM w A n c a)(hB:RM w B m d b)(hn:n<=1000000)(hm:m<=1000000)(l:m<=n):
  CV 214 #[.slice A n c,.slice B m d] w fun v w'=>SlM (cu (val a+val b)) v w':=by
 have HA:=aJ W.len;have V:=aJ hB.len;have S:=jk ((n:Int)+1) (n+1) aa aa;go_enter func214,ntmps214;go_wp2;clear S;go_loopw [6,22] (fun cv i wr=>∃(k G:Nat) (o:List Nat),k<=n/\i=.int .i64 k/\cv=.int .u64 (G:Int)/\G<=1/\o.length=k/\Dig o/\val o+4294967296^k*G=val (a.take k)+val (b.take k)/\
   Blk wr w.heap.size 208 (mg (o++List.replicate (n+1-k) 0)).toArray/\Ext w wr) (fun _ i _=>n-(intOf i).toNat)
 case atStart=>exact⟨0,0,[],y5 _,rfl,rfl,aa,rfl,ae4,by simp[val],by simpa using Blk.new w _ _,Ext.new _ _⟩
 case round=>
  obtain⟨k,G,o,hk,rfl,rfl,WW,O,hd,hv,hb,D⟩:=hrel;have T:=aJ hv;clear hv;have L:=aJ O;have U:=aJ hd;clear hd;by_cases Q:k<n
  .obtain⟨ad,x,rfl,_,J,H,K⟩:=(W.ext D).at_ Q;have HX:=aJ J;clear J;obtain⟨old,c7⟩:=qF hb O aa;have f7:=hb.frozen k;clear O;have F:=aJ hb;clear hb;by_cases C:k<m
   .obtain⟨bd,y,rfl,_,R,I,Y⟩:=(hB.ext D).at_ C;have HY:=aJ R;clear R;go_wp2;go_roundw
    case rel=>
     refine⟨k+1,(x+G+y)/4294967296,o++[(x+G+y)%4294967296],aa,au,au,aa,by simp[L.o],U.append (Dig.one aa),wm L.o T.o HX.o (bG HY.o),kV F.o L.o aa aa,D.setCell (κ _) _⟩
    case measure=>simp[intOf]<;>omega
   .go_wp2;go_roundw
    case rel=>
     refine⟨k+1,(x+G+0)/4294967296,o++[(x+G+0)%4294967296],aa,au,au,aa,by simp[L.o],U.append (Dig.one aa),wm L.o T.o HX.o (kU V.o C),kV F.o L.o aa aa,D.setCell (κ _) _⟩
    case measure=>simp[intOf]<;>omega
  .obtain rfl:k=n:=aa;obtain⟨old,c7⟩:=qF hb O aa;have f7:=hb.frozen k;clear O;have F:=aJ hb;clear hb;(go_wp2_with fail);have P:=kV (d:=G) F.o L.o aa rfl;have j:=D.setCell (p:=⟨w.heap.size,k,δ⟩) (κ _) (.int .u32 (G:Int));simp only[aaY,aa0,aaj] at P;have N:val (o++[G])=val a+val b:=by
    exact Ab9
   exact AaY
def MN(A B n m c d a b w)(W:RM w A n c a)(hB:RM w B m d b)(hn:n<=1000000)(hm:m<=1000000)(l:n<m):
  CV 214 #[.slice A n c,.slice B m d] w fun v w'=>SlM (cu (val b+val a)) v w':=by
 have HA:=aJ hB.len;have V:=aJ W.len;have S:=jk ((m:Int)+1) (m+1) aa aa;go_enter func214,ntmps214;go_wp2;clear S;go_loopw [6,22] (fun cv i wr=>∃(k G:Nat) (o:List Nat),k<=m/\i=.int .i64 k/\cv=.int .u64 (G:Int)/\G<=1/\o.length=k/\Dig o/\val o+4294967296^k*G=val (b.take k)+val (a.take k)/\
   Blk wr w.heap.size 208 (mg (o++List.replicate (m+1-k) 0)).toArray/\Ext w wr) (fun _ i _=>m-(intOf i).toNat)
 case atStart=>exact⟨0,0,[],y5 _,rfl,rfl,aa,rfl,ae4,by simp[val],by simpa using Blk.new w _ _,Ext.new _ _⟩
 case round=>
  obtain⟨k,G,o,hk,rfl,rfl,WW,O,hd,hv,hb,D⟩:=hrel;have T:=aJ hv;clear hv;have L:=aJ O;have U:=aJ hd;clear hd;by_cases Q:k<m
  .obtain⟨ad,x,rfl,_,J,H,K⟩:=(hB.ext D).at_ Q;have HX:=aJ J;clear J;obtain⟨old,c7⟩:=qF hb O aa;have f7:=hb.frozen k;clear O;have F:=aJ hb;clear hb;by_cases C:k<n
   .obtain⟨bd,y,rfl,_,R,I,Y⟩:=(W.ext D).at_ C;have HY:=aJ R;clear R;go_wp2;go_roundw
    case rel=>
     refine⟨k+1,(x+G+y)/4294967296,o++[(x+G+y)%4294967296],aa,au,au,aa,by simp[L.o],U.append (Dig.one aa),wm L.o T.o HX.o (bG HY.o),kV F.o L.o aa aa,D.setCell (κ _) _⟩
    case measure=>simp[intOf]<;>omega
   .go_wp2;go_roundw
    case rel=>
     refine⟨k+1,(x+G+0)/4294967296,o++[(x+G+0)%4294967296],aa,au,au,aa,by simp[L.o],U.append (Dig.one aa),wm L.o T.o HX.o (kU V.o C),kV F.o L.o aa aa,D.setCell (κ _) _⟩
    case measure=>simp[intOf]<;>omega
  .obtain rfl:k=m:=aa;obtain⟨old,c7⟩:=qF hb O aa;have f7:=hb.frozen k;clear O;have F:=aJ hb;clear hb;(go_wp2_with fail);have P:=kV (d:=G) F.o L.o aa rfl;have j:=D.setCell (p:=⟨w.heap.size,k,δ⟩) (κ _) (.int .u32 (G:Int));simp only[aaY,aa0,aaj] at P;have N:val (o++[G])=val b+val a:=by
    exact Ab9
   exact AaY
def Ac(A B n m c d a b w)(C:RM w A n c a)(l:RM w B m d b)(hn:n<=1000000)(j:m<=1000000):
  CV 214 #[.slice A n c,.slice B m d] w fun v w'=>SlM (cu (val a+val b)) v w':=by
 rcases Ha n m with h|h
 .rw[aaZ];exact MN A B n m c d a b w C l hn j h
 .exact ML A B n m c d a b w C l hn j h

def pR (t:Int):Nat:=(t%4294967296).toNat
def nP (t:Int):Nat:=if t<0 then 1 else 0
theorem uA(t):pR t<4294967296:=by unfold pR;omega
theorem OI{x j:Nat}(J:x<4294967296)(hb:j<=1):IntKind.u64.wrap ((x:Int)-j)%4294967296=(pR ((x:Int)-j-(0:Nat)):Int):=by
 rw[jw];unfold pR;omega
theorem QC{x j:Nat}(J:x<4294967296)(hb:j<=1):IntKind.u64.wrap ((x:Int)-j)/9223372036854775808=(nP ((x:Int)-j-(0:Nat)):Int):=by
 rw[jw];unfold nP;split<;>omega
theorem KC{x y j:Nat}(J:x<4294967296)(R:y<4294967296)(hb:j<=1):IntKind.u64.wrap (IntKind.u64.wrap ((x:Int)-j)-y)%4294967296=(pR ((x:Int)-j-y):Int):=by
 rw[jw,jw];unfold pR;omega
theorem Jd{x y j:Nat}(J:x<4294967296)(R:y<4294967296)(hb:j<=1):IntKind.u64.wrap (IntKind.u64.wrap ((x:Int)-j)-y)/9223372036854775808=(nP ((x:Int)-j-y):Int):=by
 rw[jw,jw];unfold nP;split<;>omega
theorem EK{x y j:Nat}(J:x<4294967296)(R:y<4294967296)(hb:j<=1):x+4294967296*nP ((x:Int)-j-y)=y+j+pR ((x:Int)-j-y):=by
 unfold pR nP;split<;>omega
def vT{o a b:List Nat}{k j x y}(l:o.length=k)(h:val (a.take k)+4294967296^k*j=val (b.take k)+val o)(J:a[k]? =γ x)(R:val (b.take (k+1))=val (b.take k)+4294967296^k*y)(H:x<4294967296)(I:y<4294967296)(hb:j<=1):
  val (a.take (k+1))+4294967296^(k+1)*nP ((x:Int)-j-y)=val (b.take (k+1))+val (o++[pR ((x:Int)-j-y)]):=by
 have B:=EK H I hb;rw[jI,bG J,R,l,y8,χ];have e:4294967296^k*x+4294967296^k*(4294967296*nP ((x:Int)-j-y))=4294967296^k*y+4294967296^k*j+4294967296^k*pR ((x:Int)-j-y):=by
  rw[<-Δ,B,Δ,Δ]
 omega
def Mj{o a b k j}(B:o.length=k)(hd:Dig o)(ha:a.length=k)(hb:b.length<=k)(h:val (a.take k)+4294967296^k*j=val (b.take k)+val o)(F:val b<=val a):val o=val a-val b:=by
 rw[ω aa,ω hb] at h;have D:=lY hd;rw[B] at D;have C:j=0:=by
  rcases Be j with l|l
  .exact l
  .have:4294967296^k*1<=4294967296^k*j:=ib _ l;omega
 subst C;omega
theorem uf(t):nP t<=1:=by unfold nP;split<;>omega
def uU(A B n m c d a b w)(V:RM w A n c a)(Z:RM w B m d b)(hn:n<=1000000)(hm:m<=n)(P:val b<=val a):
  CV 215 #[.slice A n c,.slice B m d] w fun v w'=>SlM (cu (val a-val b)) v w':=by
 have HA:=aJ V.len;have U:=aJ Z.len;have S:=jk (n:Int) n rfl aa;go_enter func215,ntmps215;go_wp2;clear S;go_loopw [6,14] (fun cv i wr=>∃(k G:Nat) (o:List Nat),k<=n/\i=.int .i64 k/\cv=.int .u64 (G:Int)/\G<=1/\o.length=k/\Dig o/\val (a.take k)+4294967296^k*G=val (b.take k)+val o/\
   Blk wr w.heap.size 208 (mg (o++List.replicate (n-k) 0)).toArray/\Ext w wr) (fun _ i _=>n-(intOf i).toNat)
 case atStart=>exact⟨0,0,[],y5 _,rfl,rfl,aa,rfl,ae4,by simp[val],by simpa using Blk.new w _ _,Ext.new _ _⟩
 case round=>
  obtain⟨k,G,o,hk,rfl,rfl,j,Q,hd,hv,hb,D⟩:=hrel;have T:=aJ hv;clear hv;have l:=aJ Q;have L:=aJ hd;clear hd;by_cases O:k<n
  .obtain⟨ad,x,rfl,_,J,H,K⟩:=(V.ext D).at_ O;have HX:=aJ J;clear J;obtain⟨old,c7⟩:=qF hb Q aa;have f7:=hb.frozen k;clear Q;have F:=aJ hb;clear hb;by_cases C:k<m
   .obtain⟨bd,y,rfl,_,R,I,W⟩:=(Z.ext D).at_ C;have HY:=aJ R;clear R;go_wp2;go_roundw
    case rel=>
     exact⟨k+1,nP ((x:Int)-G-y),o++[pR ((x:Int)-G-y)],aa,au,by rw[Jd H I j],uf _,by simp[l.o],L.append (Dig.one (uA _)),vT l.o T.o HX.o (bG HY.o) H I j,kV F.o l.o aa (KC H I j),D.setCell (κ _) _⟩
    case measure=>simp[intOf]<;>omega
   .go_wp2;go_roundw
    case rel=>
     exact⟨k+1,nP ((x:Int)-G-(0:Nat)),o++[pR ((x:Int)-G-(0:Nat))],aa,au,by rw[QC H j],uf _,by simp[l.o],L.append (Dig.one (uA _)),vT l.o T.o HX.o (kU U.o C) H aa j,kV F.o l.o aa (OI H j),D.setCell (κ _) _⟩
    case measure=>simp[intOf]<;>omega
  .obtain rfl:k=n:=aa;(go_wp2_with fail);simp only[aaY,aa0,aaj] at hb;have N:=Mj l.o L.o HA.o (by rw[U.o];exact hm) T.o P;refine(jL _ k k o _ (RM.blk hb L.o l.o aa)).mono ?_;rintro e w1 ⟨v1,rfl,Y,M⟩;rw[N] at Y;go_wp2;go_ret;exact⟨_,rfl,Y,D.trans M⟩
def wP{o a b:List Nat}{k G x y}(j:o.length=k)(h:val o+4294967296^k*G=val (a.take k)+val (b.take k))(J:val (a.take (k+1))=val (a.take k)+4294967296^k*x)(R:val (b.take (k+1))=val (b.take k)+4294967296^k*y):
  val (o++[(G+x+y)%4294967296])+4294967296^(k+1)*((G+x+y)/4294967296)=val (a.take (k+1))+val (b.take (k+1)):=by
 rw[jI,J,R,j,y8,χ];have e:4294967296^k*((G+x+y)%4294967296)+4294967296^k*(4294967296*((G+x+y)/4294967296))=4294967296^k*(G+x+y):=by
  exact AbD
 have l:4294967296^k*(G+x+y)=4294967296^k*x+4294967296^k*G+4294967296^k*y:=by rw[Δ,Δ];omega
 omega
def uC{o}{d:Nat}{z:Int}(h:z=(d:Int)):mg o++[.int .u32 z]=mg (o++[d]):=by subst h;simp[mg]
def SlV (k n:Nat) (v:Value) (w:World):Prop:=∃l,SlM l v w/\val l=n/\l.length<=k
def Dt(A B n m c d a b w)(hA:RM w A n c a)(hB:RM w B m d b)(hn:n<=1000000)(hm:m<=1000000):
  CV 184 #[.slice A n c,.slice B m d] w fun v w'=>SlV (max n m+1) (val a+val b) v w':=by
 have Z:=aJ hA.len;have W:=aJ hB.len;go_enter func184,ntmps184;go_wp2;go_loopw [5,6,7] (fun Q cv i wr=>∃(k G:Nat) (o:List Nat),k<=max n m+1/\i=.int .i64 k/\cv=.int .u64 (G:Int)/\G<=1/\(max n m<k->G=0)/\o.length=k/\Dig o/\val o+4294967296^k*G=val (a.take k)+val (b.take k)/\
   wr.ownsRow w.heap.size 208 1 Q k (mg o)/\Ext w wr) (fun _ _ i _=>n+m+2-(intOf i).toNat)
 case atStart=>exact⟨0,0,[],y5 _,rfl,rfl,aa,fun _=>rfl,rfl,ae4,by simp[val],I5 _ _ _ _,Ext.refl _⟩
 case round=>
  obtain⟨k,G,o,hk,rfl,rfl,WW,Y,ho,hd,hv,l,D⟩:=hrel;have U:=aJ hv;clear hv;have N:=aJ ho;clear ho;have V:=aJ hd;clear hd;have P:=aJ l;clear l;have XG:k<=n+m+1:=aa;by_cases S:k<n
  .obtain⟨ad,x,rfl,_,J,H,K⟩:=(hA.ext D).at_ S;have HX:=aJ (bG J);clear J;clear Y;by_cases C:k<m
   .obtain⟨bd,y,rfl,_,R,I,T⟩:=(hB.ext D).at_ C;have HY:=aJ (bG R);clear R;(go_wp2_with (at_builtin;refine dI jO rfl (.tmp 46) (.tmp 49) rfl w.heap.size u5 k (mg o) rf (P.alloc _) wr.heap.size 1 1 [.int .u32 (((G:Int)+x+y)%4294967296)] rf (Blk.new _ _ _) rfl AbS aa aa aa Aa4 ?_));intro g1 F w1 L M _ _;have j:=fw M (D.alloc _) (fun g h=>(P.lt g h).1);have O:=aJ L;clear L M;go_wp2;go_roundw
    case rel=>
     refine⟨k+1,(G+x+y)/4294967296,o++[(G+x+y)%4294967296],aa,au,au,aa,fun h=>aa,by simp[N.o],V.append (Dig.one aa),wP N.o U.o HX.o HY.o,?_,j⟩;have:=O.o;rwa[uC (d:=(G+x+y)%4294967296) aa] at this
    case measure=>simp[intOf]<;>omega
   ·(go_wp2_with (at_builtin;refine dI jO rfl (.tmp 46) (.tmp 49) rfl w.heap.size u5 k (mg o) rf (P.alloc _) wr.heap.size 1 1 [.int .u32 (((G:Int)+x)%4294967296)] rf (Blk.new _ _ _) rfl AbS aa aa aa Aa4 ?_));intro g1 F w1 L M _ _;have j:=fw M (D.alloc _) (fun g h=>(P.lt g h).1);have O:=aJ L;clear L M;go_wp2;go_roundw
    case rel=>
     refine⟨k+1,(G+x+0)/4294967296,o++[(G+x+0)%4294967296],aa,au,au,aa,fun h=>aa,by simp[N.o],V.append (Dig.one aa),wP N.o U.o HX.o (kU W.o C),?_,j⟩;have:=O.o;rwa[uC (d:=(G+x+0)%4294967296) aa] at this
    case measure=>simp[intOf]<;>omega
  .by_cases C:k<m
   .obtain⟨bd,y,rfl,_,R,I,T⟩:=(hB.ext D).at_ C;have HY:=aJ (bG R);clear R;clear Y;(go_wp2_with (at_builtin;refine dI jO rfl (.tmp 46) (.tmp 49) rfl w.heap.size u5 k (mg o) rf (P.alloc _) wr.heap.size 1 1 [.int .u32 (((G:Int)+y)%4294967296)] rf (Blk.new _ _ _) rfl AbS aa aa aa Aa4 ?_));intro g1 F w1 L M _ _;have j:=fw M (D.alloc _) (fun g h=>(P.lt g h).1);have O:=aJ L;clear L M;go_wp2;go_roundw
    case rel=>
     refine⟨k+1,(G+0+y)/4294967296,o++[(G+0+y)%4294967296],aa,au,au,aa,fun h=>aa,by simp[N.o],V.append (Dig.one aa),wP N.o U.o (kU Z.o S) HY.o,?_,j⟩;have:=O.o;rwa[uC (d:=(G+0+y)%4294967296) aa] at this
    case measure=>simp[intOf]<;>omega
   .by_cases WV:0<G
    .obtain rfl:G=1:=aa;have WG:k<=max n m:=by
      rcases Ha (max n m) k with h|h
      .exact absurd (Y h) aa
      .exact h
     clear Y;(go_wp2_with (at_builtin;refine dI jO rfl (.tmp 46) (.tmp 49) rfl w.heap.size u5 k (mg o) rf (P.alloc _) wr.heap.size 1 1 [.int .u32 (1)] rf (Blk.new _ _ _) rfl AbS aa aa aa Aa4 ?_));intro g1 F w1 L M _ _;have j:=fw M (D.alloc _) (fun g h=>(P.lt g h).1);have O:=aJ L;clear L M;go_wp2;go_roundw
     case rel=>
      refine⟨k+1,(1+0+0)/4294967296,o++[(1+0+0)%4294967296],aa,au,au,aa,fun h=>aa,by simp[N.o],V.append (Dig.one aa),wP N.o U.o (kU Z.o S) (kU W.o C),?_,j⟩;have:=O.o;rwa[uC (d:=(1+0+0)%4294967296) aa] at this
     case measure=>simp[intOf]<;>omega
    .obtain rfl:G=0:=aa;clear Y;go_wp2;go_ret;refine⟨_,rfl,⟨o,afm P.o V.o,?_,by rw[N.o];exact hk⟩,D⟩;have:=U.o;rw[ω (by rw[Z.o];omega),ω (by rw[W.o];omega)] at this;simpa using this
def vN(A B n m c d a b w)(hA:RM w A n c a)(hB:RM w B m d b)(hn:n<=1000000)(hm:m<=n)(WG:val b<=val a):
  Calls prog 185 #[.slice A n c,.slice B m d] w fun e w'=>∃v,e=.returned v/\(SlM (cu (val a-val b)) v w'/\∀g,v.ownBlock=γ g->w.heap.size<=g)/\Ext w w':=by
 have HA:=aJ hA.len;have HB:=aJ hB.len;go_enter func185,ntmps185;go_wp2;go_loopw [5,6,7] (fun Q cv i wr=>∃(k V:Nat) (o:List Nat),k<=n/\i=.int .i64 k/\cv=.int .u64 (V:Int)/\V<=1/\o.length=k/\Dig o/\val (a.take k)+4294967296^k*V=val (b.take k)+val o/\
   wr.ownsRow w.heap.size 208 1 Q k (mg o)/\Ext w wr) (fun _ _ i _=>n-(intOf i).toNat)
 case atStart=>exact⟨0,0,[],y5 _,rfl,rfl,aa,rfl,ae4,by simp[val],I5 _ _ _ _,Ext.refl _⟩
 case round=>
  obtain⟨k,V,o,hk,rfl,rfl,T,ho,hd,hv,l,D⟩:=hrel;have HV:=aJ hv;clear hv;have W:=aJ ho;clear ho;have HD:=aJ hd;clear hd;have P:=aJ l;clear l;by_cases WE:k<n
  .obtain⟨ad,x,rfl,_,J,H,K⟩:=(hA.ext D).at_ WE;have HX:=aJ J;clear J;by_cases C:k<m
   .obtain⟨bd,y,rfl,_,R,I,WR⟩:=(hB.ext D).at_ C;have HY:=aJ R;clear R;(go_wp2_with (at_builtin;refine dI jO rfl (.tmp 33) (.tmp 36) rfl w.heap.size u5 k (mg o) rf (P.alloc _) wr.heap.size 1 1 [.int .u32 (IntKind.u64.wrap (IntKind.u64.wrap ((x:Int)-V)-y)%4294967296)] rf (Blk.new _ _ _) rfl AbS aa aa aa Aa4 ?_));intro g1 F w1 L U _ _;have j:=fw U (D.alloc _) (fun g h=>(P.lt g h).1);have O:=aJ L;clear L U;go_wp2;go_roundw
    case rel=>
     refine⟨k+1,nP ((x:Int)-V-y),o++[pR ((x:Int)-V-y)],aa,au,by rw[Jd H I T],uf _,by simp[W.o],HD.append (Dig.one (uA _)),vT W.o HV.o HX.o (bG HY.o) H I T,?_,j⟩;have:=O.o;rwa[uC (KC H I T)] at this
    case measure=>simp[intOf]<;>omega
   ·(go_wp2_with (at_builtin;refine dI jO rfl (.tmp 33) (.tmp 36) rfl w.heap.size u5 k (mg o) rf (P.alloc _) wr.heap.size 1 1 [.int .u32 (IntKind.u64.wrap ((x:Int)-V)%4294967296)] rf (Blk.new _ _ _) rfl AbS aa aa aa Aa4 ?_));intro g1 F w1 L U _ _;have j:=fw U (D.alloc _) (fun g h=>(P.lt g h).1);have O:=aJ L;clear L U;go_wp2;go_roundw
    case rel=>
     refine⟨k+1,nP ((x:Int)-V-(0:Nat)),o++[pR ((x:Int)-V-(0:Nat))],aa,au,by rw[QC H T],uf _,by simp[W.o],HD.append (Dig.one (uA _)),vT W.o HV.o HX.o (kU HB.o C) H aa T,?_,j⟩;have:=O.o;rwa[uC (OI H T)] at this
    case measure=>simp[intOf]<;>omega
  .obtain rfl:k=n:=aa;obtain⟨A1,n1,c1,rfl,hR⟩:=afm P.o HD.o;have Z:=hR.len;obtain rfl:n1=k:=by rw[<-Z,W.o]
   have N:=Mj W.o HD.o HA.o (by rw[HB.o];exact hm) HV.o WG;have G:=aJ N;clear N Z;(go_wp2_with fail);refine(yl A1 n1 c1 o _ hR hn).mono ?_;rintro e w1 ⟨v1,rfl,⟨hR,Y⟩,M⟩;rw[G.o] at hR;have S:=aJ Y;clear Y;go_wp2;go_ret;exact⟨_,rfl,⟨hR,fun g hg=>lh D.size (S.o g hg)⟩,D.trans M⟩
def vL(A B n m c d a b w)(D:RM w A n c a)(H:RM w B m d b)(hn:n<=1000000)(G:m<=n)(j:val b<=val a):
  CV 185 #[.slice A n c,.slice B m d] w fun v w'=>SlM (cu (val a-val b)) v w':=
 (vN A B n m c d a b w D H hn G j).mono fun _ _ ⟨v,C,l,F⟩=>⟨v,C,l.1,F⟩
def gX (p:List Nat) (k:Nat):Prop:=∀t z,k<=t->p[t]? =γ z->z=0
def gX.mono{p k j}(h:gX p k)(B:k<=j):gX p j:=fun t z C l=>h t z aa l
def gX.set{p k t d}(h:gX p k)(l:t<k):gX (p.set t d) k:=by
 intro s z hs j;rw[aao aa] at j;exact h s z hs j
def aft(n k):gX (List.replicate n 0) k:=by
 intro t z _ j;have:=y7 j;exact ab6 this
def gX.at_{p k}(h:gX p k)(l:k<p.length):p[k]? =γ 0:=by
 have j:p[k]? =γ p[k]:=ο l;rw[h k _ (κ _) j] at j;exact j
def uo{x y}(J:x<4294967296)(R:y<4294967296):x*y<=18446744065119617025:=by
 have:=Z6 (show x<=4294967295 by omega) (show y<=4294967295 by omega);omega
def Gf{p b:List Nat}{i j x y z G s M}(l:p[i+j]? =γ z)(R:b[j]? =γ y)(hs:s=x*y+z+G)(h:val p+4294967296^(i+j)*G=M+4294967296^i*(x*val (b.take j))):
  val (p.set (i+j) (s%4294967296))+4294967296^(i+(j+1))*(s/4294967296)=M+4294967296^i*(x*val (b.take (j+1))):=by
 have C:=pU (y:=s%4294967296) l;rw[bG R,show i+(j+1)=(i+j)+1 by omega,y8,χ];have e:4294967296^(i+j)*(s%4294967296)+4294967296^(i+j)*(4294967296*(s/4294967296))=4294967296^(i+j)*s:=by
  exact AbD
 have D:4294967296^(i+j)*s=4294967296^(i+j)*(x*y)+4294967296^(i+j)*z+4294967296^(i+j)*G:=by rw[hs,Δ,Δ]
 have B:4294967296^i*(x*(val (b.take j)+4294967296^j*y))=4294967296^i*(x*val (b.take j))+4294967296^(i+j)*(x*y):=by
  rw[Δ,Δ,aaD];congr 1;rw[abh x,χ]
 omega
def L9{p a b:List Nat}{i m x G}(l:p[i+m]? =γ 0)(J:a[i]? =γ x)(hb:b.length=m)(h:val p+4294967296^(i+m)*G=val (a.take i)*val b+4294967296^i*(x*val (b.take m))):val (p.set (i+m) G)=val (a.take (i+1))*val b:=by
 have B:=pU (y:=G) l;have j:b.take m=b:=ω aa;rw[j] at h;rw[bG J,Zb];have e:4294967296^i*(x*val b)=4294967296^i*x*val b:=by rw[χ]
 omega
def gu (w:World) (g:Nat) (p:List Nat):Prop:=Blk w g 208 (mg p).toArray/\Dig p
def gu.at_{w g k p}(h:gu w g p)(l:k<p.length):∃z,p[k]? =γ z/\z<4294967296/\w.cell? ⟨g,k,δ⟩=γ (.int .u32 (z:Int))/\w.frozen? ⟨g,k,δ⟩=ζ:=by
 have j:p[k]? =γ p[k]:=ο l;refine⟨p[k],j,h.2.at_ j,?_,h.1.frozen k⟩;rw[h.1.cell];have:=oK j;simpa using this
def gu.set{w:World}{g k d:Nat}{p:List Nat}{z:Int}(h:gu w g p)(j:z=(d:Int))(hd:d<4294967296):gu (w.setCell ⟨g,k,δ⟩ (.int .u32 z)) g (p.set k d):=by
 have:=h.1.O5 (i:=k) (.int .u32 z);rw[Fa j] at this;exact⟨this,h.2.set k hd⟩
def gu.drewN{w g p}(h:gu w g p)(n):gu (w.drewN n) g p:=⟨h.1.drewN n,h.2⟩
def gu.far{w w' g p}(h:gu w g p)(e:Ext w w'):gu w' g p:=⟨h.1.ext e,h.2⟩
def gu.rm{w g n p}(h:gu w g p)(hn:p.length=n)(j:n<=9223372036854775807):RM w (γ ⟨g,0,δ⟩) n n p:=RM.blk h.1 h.2 hn j
def xD (n m:Nat):Prop:=0<n/\0<m
def xS (n m:Nat):Prop:=True
def Jt{n m}(h:xD n m):((n:Int)==0)=ζ:=by have:=h.1;simp;omega
def JZ{n m}(h:xD n m):((m:Int)==0)=ζ:=by have:=h.2;simp;omega
def Kh{n m}(h:xS n m):True:=trivial
def JB{n m}(h:xS n m):True:=trivial
def Kk(A B n m c d a b w)(hA:RM w A n c a)(hB:RM w B m d b)(hn:n<=100000)(hm:m<=100000)(L:xD n m):
  CV 217 #[.slice A n c,.slice B m d] w fun v w'=>SlM (cu (val a*val b)) v w':=by
 have WN:=Jt L;have WF:=JZ L;clear L;have HA:=aJ hA.len;have HB:=aJ hB.len;have WQ:=jk ((n:Int)+m) (n+m) aa aa;go_enter func217,ntmps217;go_wp2;clear WQ;go_loopw [26] (fun i wr=>∃(k:Nat) (p:List Nat),k<=n/\i=.int .i64 k/\p.length=n+m/\gX p (k+m)/\val p=val (a.take k)*val b/\gu wr w.heap.size p/\Ext w wr) (fun i _=>n-(intOf i).toNat)
 case atStart=>exact⟨0,List.replicate (n+m) 0,y5 _,rfl,ag,aft _ _,by simp[val,qx],⟨Blk.new w _ _,Dig.replicate _⟩,Ext.new _ _⟩
 case round=>
  obtain⟨k,p,hk,rfl,Z,S,hv,F,D⟩:=hrel;have T:=aJ Z;clear Z;have U:=aJ S;clear S;have V:=aJ hv;clear hv;have Q:=aJ F;clear F;by_cases WE:k<n
  .obtain⟨ad,x,rfl,_,J,H,K⟩:=(hA.ext D).at_ WE;have HX:=aJ J;clear J K;obtain⟨O,rfl⟩:∃O:World,O=wr:=⟨_,rfl⟩;go_wp2;go_loopw [31,7] (fun iv cv wr=>∃(j G:Nat) (p:List Nat),j<=m/\iv=.int .i64 j/\cv=.int .u64 (G:Int)/\G<4294967296/\p.length=n+m/\gX p (k+m)/\val p+4294967296^(k+j)*G=val (a.take k)*val b+4294967296^k*(x*val (b.take j))/\gu wr w.heap.size p/\Ext w wr) (fun iv _ _=>m-(intOf iv).toNat)
   case atStart=>exact⟨0,0,p,y5 _,rfl,rfl,aa,T.o,U.o,by have:=V.o;simp[val,this],Q.o,D⟩
   case round=>
    clear Q V U T D;obtain⟨j,G,p,hj,rfl,rfl,WW,Z,S,hv,F,D⟩:=hrel;have T:=aJ Z;clear Z;have U:=aJ S;clear S;have V:=aJ hv;clear hv;by_cases C:j<m
    .obtain⟨bd,y,rfl,_,R,I,WR⟩:=(hB.ext D).at_ C;obtain⟨WI,x',e1,_,WM,_,K⟩:=(hA.ext D).at_ WE;cases e1
     obtain rfl:x'=x:=by have:=HX.o;rw[WM] at this;injection this
     have HY:=aJ R;clear R WM;obtain⟨z,S,l,Y,WO⟩:=F.at_ (k:=k+j) Ack;have XK:=aJ S;clear S;have Q:=aJ F;clear F;obtain⟨t,W⟩:∃t,t=x'*y:=⟨_,rfl⟩;have XQ:t<=18446744065119617025:=by rw[W];exact uo H I
     have q1:(0:Int)<=(k:Int):=aa;have q2:(k:Int)<(n:Int):=aa;have q3:(0:Int)<=(j:Int):=aa;have q4:(j:Int)<(m:Int):=aa;have q5:(0:Int)<=(k:Int)+(j:Int):=aa;have q6:(k:Int)+(j:Int)<(n:Int)+(m:Int):=aa;have P:(k:Int)+(j:Int)<((n+m:Nat):Int):=aa;have e1:IntKind.u64.wrap ((x':Int)*(y:Int))=(t:Int):=by rw[aaN _ AcS,W];simp
     have e2:IntKind.u64.wrap ((t:Int)+(z:Int))=(t:Int)+z:=aaN _ aa;have e3:IntKind.u64.wrap ((t:Int)+(z:Int)+(G:Int))=(t:Int)+z+G:=aaN _ aa;have e4:IntKind.i64.wrap ((k:Int)+(j:Int))=(k:Int)+j:=aa3 _ aa;have e5:((k:Int)+(j:Int)).toNat=k+j:=aa;have HT:=aJ W;clear W;go_wp2;go_quiet (fail);clear e1 e2 e3 e4 e5;go_wp2;go_roundw
     case rel=>exact⟨j+1,(t+z+G)/4294967296,p.set (k+j) ((t+z+G)%4294967296),aa,au,au,aa,by simp[T.o],U.set aa,Gf XK.o HY.o (by rw[HT.o]) V.o,(Q.drewN _).set aa aa,(D.drewN _).setCell (κ _) _⟩
     case measure=>simp[intOf]<;>omega
    .obtain rfl:j=m:=aa;obtain⟨z,S,l,Y,WO⟩:=F.at_ (k:=k+j) Ack;have WU:=U.at_ Ack;have WY:=aJ WU;clear WU S;have Q:=aJ F;clear F;go_wp2;go_roundw
     case rel=>exact⟨k+1,p.set (k+j) G,aa,au,by simp[T.o],(U.mono aa).set aa,L9 WY.o HX.o HB.o V.o,Q.set rfl WW,D.setCell (κ _) _⟩
     case measure=>simp[intOf]<;>omega
  .obtain rfl:k=n:=aa;have F:=Q.o;have Z:=T.o;(go_wp2_with fail);refine(jL _ _ _ p _ (F.rm Z aa)).mono ?_;exact AaZ
def J9(A B n m c d a b w)(hA:RM w A n c a)(hB:RM w B m d b)(hn:n<=100000)(hm:m<=100000)(L:xS n m):
  CV 186 #[.slice A n c,.slice B m d] w fun v w'=>SlM (cu (val a*val b)) v w':=by
 have WN:=Kh L;have WF:=JB L;clear L;have HA:=aJ hA.len;have HB:=aJ hB.len;have WQ:=jk ((n:Int)+m) (n+m) aa aa;go_enter func186,ntmps186;go_wp2;clear WQ;go_loopw [6] (fun i wr=>∃(k:Nat) (p:List Nat),k<=n/\i=.int .i64 k/\p.length=n+m/\gX p (k+m)/\val p=val (a.take k)*val b/\gu wr w.heap.size p/\Ext w wr) (fun i _=>n-(intOf i).toNat)
 case atStart=>exact⟨0,List.replicate (n+m) 0,y5 _,rfl,ag,aft _ _,by simp[val,qx],⟨Blk.new w _ _,Dig.replicate _⟩,Ext.new _ _⟩
 case round=>
  obtain⟨k,p,hk,rfl,Z,S,hv,F,D⟩:=hrel;have T:=aJ Z;clear Z;have U:=aJ S;clear S;have V:=aJ hv;clear hv;have Q:=aJ F;clear F;by_cases WE:k<n
  .obtain⟨ad,x,rfl,_,J,H,K⟩:=(hA.ext D).at_ WE;have HX:=aJ J;clear J K;obtain⟨O,rfl⟩:∃O:World,O=wr:=⟨_,rfl⟩;go_wp2;go_loopw [8,7] (fun iv cv wr=>∃(j G:Nat) (p:List Nat),j<=m/\iv=.int .i64 j/\cv=.int .u64 (G:Int)/\G<4294967296/\p.length=n+m/\gX p (k+m)/\val p+4294967296^(k+j)*G=val (a.take k)*val b+4294967296^k*(x*val (b.take j))/\gu wr w.heap.size p/\Ext w wr) (fun iv _ _=>m-(intOf iv).toNat)
   case atStart=>exact⟨0,0,p,y5 _,rfl,rfl,aa,T.o,U.o,by have:=V.o;simp[val,this],Q.o,D⟩
   case round=>
    clear Q V U T D;obtain⟨j,G,p,hj,rfl,rfl,WW,Z,S,hv,F,D⟩:=hrel;have T:=aJ Z;clear Z;have U:=aJ S;clear S;have V:=aJ hv;clear hv;by_cases C:j<m
    .obtain⟨bd,y,rfl,_,R,I,WR⟩:=(hB.ext D).at_ C;obtain⟨WI,x',e1,_,WM,_,K⟩:=(hA.ext D).at_ WE;cases e1
     obtain rfl:x'=x:=by have:=HX.o;rw[WM] at this;injection this
     have HY:=aJ R;clear R WM;obtain⟨z,S,l,Y,WO⟩:=F.at_ (k:=k+j) Ack;have XK:=aJ S;clear S;have Q:=aJ F;clear F;obtain⟨t,W⟩:∃t,t=x'*y:=⟨_,rfl⟩;have XQ:t<=18446744065119617025:=by rw[W];exact uo H I
     have q1:(0:Int)<=(k:Int):=aa;have q2:(k:Int)<(n:Int):=aa;have q3:(0:Int)<=(j:Int):=aa;have q4:(j:Int)<(m:Int):=aa;have q5:(0:Int)<=(k:Int)+(j:Int):=aa;have q6:(k:Int)+(j:Int)<(n:Int)+(m:Int):=aa;have P:(k:Int)+(j:Int)<((n+m:Nat):Int):=aa;have e1:IntKind.u64.wrap ((x':Int)*(y:Int))=(t:Int):=by rw[aaN _ AcS,W];simp
     have e2:IntKind.u64.wrap ((t:Int)+(z:Int))=(t:Int)+z:=aaN _ aa;have e3:IntKind.u64.wrap ((t:Int)+(z:Int)+(G:Int))=(t:Int)+z+G:=aaN _ aa;have e4:IntKind.i64.wrap ((k:Int)+(j:Int))=(k:Int)+j:=aa3 _ aa;have e5:((k:Int)+(j:Int)).toNat=k+j:=aa;have HT:=aJ W;clear W;go_wp2;go_quiet (fail);clear e1 e2 e3 e4 e5;go_wp2;go_roundw
     case rel=>exact⟨j+1,(t+z+G)/4294967296,p.set (k+j) ((t+z+G)%4294967296),aa,au,au,aa,by simp[T.o],U.set aa,Gf XK.o HY.o (by rw[HT.o]) V.o,(Q.drewN _).set aa aa,(D.drewN _).setCell (κ _) _⟩
     case measure=>simp[intOf]<;>omega
    .obtain rfl:j=m:=aa;obtain⟨z,S,l,Y,WO⟩:=F.at_ (k:=k+j) Ack;have WU:=U.at_ Ack;have WY:=aJ WU;clear WU S;have Q:=aJ F;clear F;go_wp2;go_roundw
     case rel=>exact⟨k+1,p.set (k+j) G,aa,au,by simp[T.o],(U.mono aa).set aa,L9 WY.o HX.o HB.o V.o,Q.set rfl WW,D.setCell (κ _) _⟩
     case measure=>simp[intOf]<;>omega
  .obtain rfl:k=n:=aa;have F:=Q.o;have Z:=T.o;(go_wp2_with fail);refine(iB _ _ _ p _ (F.rm Z aa) aa).mono ?_;exact AaZ
def Ja(A B n m c d a b w)(j:RM w A n c a)(l:RM w B m d b)(hn:n<=100000)(G:m<=100000):
  CV 217 #[.slice A n c,.slice B m d] w fun v w'=>SlM (cu (val a*val b)) v w':=by
 by_cases F:n=0
 .subst F;obtain rfl:=j.empty;exact Aa7
 .have C:((n:Int)==0)=ζ:=ae;by_cases D:m=0
  .subst D;obtain rfl:=l.empty;exact Aa7
  .exact Kk A B n m c d a b w j l hn G ⟨aa,aa⟩
def Cr(A B n m c d a b w)(C:RM w A n c a)(l:RM w B m d b)(hn:n<=100000)(j:m<=100000):
  CV 186 #[.slice A n c,.slice B m d] w fun v w'=>SlM (cu (val a*val b)) v w':=J9 A B n m c d a b w C l hn j trivial
def NC(A n c l w)(h:RM w A n c l)(hn:n<=1000000):
  CV 198 #[.slice A n c] w fun v w'=>w'.ownsRow w.heap.size 208 1 v n (mg l):=by
 cases A with
 |none=>
  have M:n=0:=by
   rcases Be n with j|j
   .exact j
   .obtain⟨C,_,e,_⟩:=h.at_ j;cases e
  subst M;obtain rfl:=h.empty;have B:=aaX (P:=prog) (t:=38) (a:=δ) (n:=0) (c:=c) (n':=0) (c':=0) (h:=ach);go_enter func198,ntmps198;go_wp2;all_goals
   exact Acc
 |some C=>
  have B:=aaX (P:=prog) (t:=38) (a:=γ C) (n:=n) (c:=c) (n':=0) (c':=0) (h:=ach);go_enter func198,ntmps198;(go_wp2_with (at_builtin;refine jb jO rfl (.tmp 5) (.tmp 6) rfl w.heap.size _ 0 [] rf (abg _ _ _ aa aa ag) _ n _ (mg l) rf (h.ext (Ext.new w _)).rd Au aa aa ag ?_));exact AaS
def uh(A n c l w)(h:RM w A n c l)(hn:n<=1000000):
  CV 198 #[.slice A n c] w fun v w'=>SlM l v w':=
 (NC A n c l w h hn).mono fun _ _ ⟨v,B,j,C⟩=>⟨v,B,afm j h.dg,C⟩
def Ext.ji{w w'}(h:Ext w.drew w'):Ext w w':=((Ext.refl w).drew).trans h
def fG{w w1}{x y r:Obj}(J:Ext (((w.alloc x).alloc y).alloc r) w1):Ext w w1:=(((Ext.new w _).alloc _).alloc _).trans J
def iG{w w1:World}{cs t}{y r:Obj}(J:Ext (((w.alloc (.cells cs t)).alloc y).alloc r) w1):Blk w1 w.heap.size t cs:=(((Blk.new w t cs).alloc _).alloc _).ext J
def iQ{w w1:World}{cs t}{x r:Obj}(J:Ext (((w.alloc x).alloc (.cells cs t)).alloc r) w1):Blk w1 (w.heap.size+1) t cs:=((aeS t cs ag).alloc _).ext J
def lV{w w1:World}{cs t}{x y:Obj}(J:Ext (((w.alloc x).alloc y).alloc (.cells cs t)) w1):Blk w1 (w.heap.size+2) t cs:=(aeS t cs ag).ext J
def OV(neg A B n m c d a b w)(J:RM w A n c a)(Q:RM w B m d b)(hn:n<=1000000)(L:m<=1000000):
  CV 216 #[iv neg A n c,iv neg B m d] w fun v w'=>nM (pQ (zOf neg (val a+val b))) v w':=by
 have N:(neg==neg)=ε:=ag;go_enter ad5,adF;go_wp2;have l:Ext (((w.alloc (.cells #[.bool neg,.slice A n c] 40)).alloc (.cells #[.bool neg,.slice B m d] 40)).alloc (.cells #[.bool ζ,.slice δ 0 0] 40)) (((w.alloc (.cells #[.bool neg,.slice A n c] 40)).alloc (.cells #[.bool neg,.slice B m d] 40)).alloc (.cells #[.bool ζ,.slice δ 0 0] 40)):=Ext.refl _;have S:=aK.blk (iG l);have R:=aK.blk (iQ l);refine bz 10 [(ε,0),(ε,1),(ε,2),(ε,3),(ε,4),(ε,5),(ζ,6),(ζ,7),(ε,8),(ε,9)] ah ah ?_;refine aT [0,1,2,3,4,5] [(ζ,6),(ζ,7),(ε,8),(ε,9)] _ ah ?_;simp only[bP,aU,μ,ξ];(repeat (go_big_quiet_step (fail)));refine σ ?_;refine aR 6 [(ζ,7),(ε,8),(ε,9)] ah ?_;intro K I;simp only[aU];(go_wp2_with fail);have F:Ext w (((w.alloc (.cells #[.bool neg,.slice A n c] 40)).alloc (.cells #[.bool neg,.slice B m d] 40)).alloc (.cells #[.bool ζ,.slice δ 0 0] 40)).drew:=(fG l).drew;refine(Ac A B n m c d a b _ (J.ext F) (Q.ext F) hn L).mono ?_;rintro e w1 ⟨v1,rfl,⟨A1,n1,c1,rfl,O⟩,M⟩;have M:=M.ji;go_wp2;refine I _ _ ⟨⟨w1,M⟩,rfl⟩ ?_;clear I K;refine aR 7 [(ε,8),(ε,9)] ah ?_;intro K I;simp only[aU];(go_wp2_with fail);refine(iC neg A1 n1 c1 _ _ O).mono ?_;rintro e w2 ⟨T,rfl,⟨u,rfl,A2,n2,c2,rfl,D⟩,P⟩;rw[aL] at D;rw[aL];have P:=M.trans P;go_wp2;refine I _ _ ⟨⟨w2,P⟩,rfl⟩ ?_;clear I K;refine aT [8,9] [] _ ah ?_;simp only[bP,aU,μ,ξ];(repeat (go_big_quiet_step (fail)));refine σ ?_;simp only[bQ,ρ,φ];have b4:=lV P;have c4:=b4.cell;have W:=b4.frozen;obtain⟨j,V,C⟩:=jq (fG P) aa b4 _ A2 n2 c2;have G:=aJ j;have U:=aJ V;have H:=aJ (C _ _ _ _ D);clear j V C;go_wp2;exact ik rfl rfl rfl U.o ⟨_,rfl,⟨_,rfl,_,_,_,rfl,H.o⟩,G.o⟩
def LJ{p q}(h:q<=p):decide (0<=mV p q)=ε:=by
 have l:¬p<q:=aa;by_cases j:q<p<;>simp[mV,l,j]
theorem Lh{p q}(h:p<q):decide (0<=mV p q)=ζ:=by unfold mV;simp[h]
def Uo(neg j A B n m c d p q w)(H:RM w A n c (cu p))(L:RM w B m d (cu q))(hn:n<=1000000)(hm:m<=1000000)(S:(neg==j)=ζ)(F:q<=p):
  CV 216 #[iv neg A n c,iv j B m d] w fun v w'=>nM (pQ (zOf neg (p-q))) v w':=by
 have J:=H.len;have l:=L.len;have D:m<=n:=by
  have h1:=eG (n:=q) (k:=n) (Γ (show q<=p by omega) (dS aa));omega
 clear J l;have G:=aJ F;clear F;go_enter ad5,adF;(go_wp2_with fail);refine(iH A B n m c d _ _ _ (H.ext (((Ext.new w _).alloc _).alloc _)) (L.ext (((Ext.new w _).alloc _).alloc _)) (bL _) (bL _)).mono ?_;rintro e w0 ⟨rfl,C⟩;rw[aL,aL];have Q:=LJ G.o;have c0:=(iG C).cell;have c1:=(iQ C).cell;go_wp2;clear c0 c1 Q;have Y0:=aK.blk (iG C);have Z:=aK.blk (iQ C);refine bz 10 [(ε,0),(ε,1),(ε,2),(ε,3),(ε,4),(ε,5),(ζ,6),(ζ,7),(ε,8),(ε,9)] ah ah ?_;refine aT [0,1,2,3,4,5] [(ζ,6),(ζ,7),(ε,8),(ε,9)] _ ah ?_;simp only[bP,aU,μ,ξ];(repeat (go_big_quiet_step (fail)));refine σ ?_;refine aR 6 [(ζ,7),(ε,8),(ε,9)] ah ?_;intro K I;simp only[aU];(go_wp2_with fail);refine(uU A B n m c d _ _ _ (H.ext (fG C).drew) (L.ext (fG C).drew) aa D (by rw[aL,aL];have:=G.o;omega)).mono ?_;rintro e w1 ⟨v1,rfl,⟨A1,n1,c1,rfl,Y⟩,M⟩;have M:=M.ji;go_wp2;refine I _ _ ⟨⟨w1,M⟩,rfl⟩ ?_;clear I K;refine aR 7 [(ε,8),(ε,9)] ah ?_;intro K I;simp only[aU];(go_wp2_with fail);refine(iC neg A1 n1 c1 _ _ Y).mono ?_;exact Aaw
def sum_lt(neg j A B n m c d p q w)(H:RM w A n c (cu p))(L:RM w B m d (cu q))(hn:n<=1000000)(hm:m<=1000000)(S:(neg==j)=ζ)(F:p<q):
  CV 216 #[iv neg A n c,iv j B m d] w fun v w'=>nM (pQ (zOf j (q-p))) v w':=by
 have J:=H.len;have l:=L.len;have D:n<=m:=by
  have h1:=eG (n:=p) (k:=m) (Γ (show p<=q by omega) (dS aa));omega
 clear J l;have G:=aJ F;clear F;go_enter ad5,adF;(go_wp2_with fail);refine(iH A B n m c d _ _ _ (H.ext (((Ext.new w _).alloc _).alloc _)) (L.ext (((Ext.new w _).alloc _).alloc _)) (bL _) (bL _)).mono ?_;rintro e w0 ⟨rfl,C⟩;rw[aL,aL];have Q:=Lh G.o;have c0:=(iG C).cell;have c1:=(iQ C).cell;go_wp2;clear c0 c1 Q;have Y0:=aK.blk (iG C);have Z:=aK.blk (iQ C);refine bz 10 [(ε,0),(ε,1),(ε,2),(ε,3),(ε,4),(ε,5),(ζ,6),(ζ,7),(ε,8),(ε,9)] ah ah ?_;refine aT [0,1,2,3,4,5] [(ζ,6),(ζ,7),(ε,8),(ε,9)] _ ah ?_;simp only[bP,aU,μ,ξ];(repeat (go_big_quiet_step (fail)));refine σ ?_;refine aR 6 [(ζ,7),(ε,8),(ε,9)] ah ?_;intro K I;simp only[aU];(go_wp2_with fail);refine(uU B A m n d c _ _ _ (L.ext (fG C).drew) (H.ext (fG C).drew) aa D (by rw[aL,aL];have:=G.o;omega)).mono ?_;rintro e w1 ⟨v1,rfl,⟨A1,n1,c1,rfl,Y⟩,M⟩;have M:=M.ji;go_wp2;refine I _ _ ⟨⟨w1,M⟩,rfl⟩ ?_;clear I K;refine aR 7 [(ε,8),(ε,9)] ah ?_;intro K I;simp only[aU];(go_wp2_with fail);refine(iC j A1 n1 c1 _ _ Y).mono ?_;exact Aaw
def Lf(neg j A B n m c d p q w)(l:RM w A n c (cu p))(D:RM w B m d (cu q))(hn:n<=1000000)(C:m<=1000000):
  CV 216 #[iv neg A n c,iv j B m d] w fun v w'=>nM (pQ (zOf neg p+zOf j q)) v w':=by
 cases hs:(neg==j)
 .rcases Ha p q with h|h
  .have:=sum_lt neg j A B n m c d p q w l D hn C hs h;have e:zOf neg p+zOf j q=zOf j (q-p):=by cases neg<;>cases j<;>simp[zOf] at hs⊢<;>omega
   rwa[e]
  .have:=Uo neg j A B n m c d p q w l D hn C hs h;have e:zOf neg p+zOf j q=zOf neg (p-q):=by cases neg<;>cases j<;>simp[zOf] at hs⊢<;>omega
   rwa[e]
 .obtain rfl:neg=j:=by simpa using hs
  have:=OV neg A B n m c d _ _ w l D hn C;rw[aL,aL] at this;have e:zOf neg p+zOf neg q=zOf neg (p+q):=by cases neg<;>simp[zOf]<;>omega
  rwa[e]
def RM.kE{w A n c}{z:Int}(h:RM w A n c (cu z.natAbs))(j:z.natAbs<lim):n<=400:=by
 have B:=h.len;have l:=jC j;omega
def mH(z):zOf (decide (z<0)) z.natAbs=z:=by
 by_cases h:z<0<;>simp[zOf,h]<;>omega
def mf(z):zOf (!decide (z<0)) z.natAbs= -z:=by
 by_cases h:z<0<;>simp[zOf,h]<;>omega

def Vk(v u x y w)(L:RI w v x)(l:RI w u y)(H:x.natAbs<lim)(O:y.natAbs<lim):
  CV 196 #[v,u] w fun v w'=>nM (pQ (x+y)) v w':=by
 have S:=aJ (aeY L H);have C:=aJ (aeY l O);obtain⟨A,n,c,rfl,J⟩:=L;obtain⟨B,m,d,rfl,R⟩:=l;have hn:=J.kE H;have T:=R.kE O;go_enter func196,ntmps196;(go_wp2_with fail);refine(gL _ A n c _ _ (J.ext (((Ext.new w _).alloc _).alloc _))).mono ?_;rintro e w1 ⟨rfl,M⟩;rw[S.o];have c0:=(iG M).cell;have c1:=(iQ M).cell;(go_wp2_with fail);refine(gL _ B m d _ _ (R.ext (fG M))).mono ?_;rintro e w2 ⟨rfl,P⟩;rw[C.o];clear c0 c1;have P:=M.trans P;have c0:=(iG P).cell;have c1:=(iQ P).cell;(go_wp2_with fail);clear c0 c1;refine(Lf _ _ A B n m c d _ _ _ (J.ext (fG P)) (R.ext (fG P)) aa aa).mono ?_;rintro e N ⟨Q,rfl,⟨u,rfl,A2,n2,c2,rfl,G⟩,j⟩;rw[mH,mH] at G;rw[mH,mH];exact AaG
def Uz(v u x y w)(L:RI w v x)(l:RI w u y)(H:x.natAbs<lim)(O:y.natAbs<lim):
  CV 200 #[v,u] w fun v w'=>nM (pQ (x-y)) v w':=by
 have S:=aJ (aeY L H);have C:=aJ (aeY l O);obtain⟨A,n,c,rfl,J⟩:=L;obtain⟨B,m,d,rfl,R⟩:=l;have hn:=J.kE H;have T:=R.kE O;go_enter func200,ntmps200;(go_wp2_with fail);refine(gL _ A n c _ _ (J.ext (((Ext.new w _).alloc _).alloc _))).mono ?_;rintro e w1 ⟨rfl,M⟩;rw[S.o];have c0:=(iG M).cell;have c1:=(iQ M).cell;(go_wp2_with fail);refine(gL _ B m d _ _ (R.ext (fG M))).mono ?_;rintro e w2 ⟨rfl,P⟩;rw[C.o];clear c0 c1;have P:=M.trans P;have c0:=(iG P).cell;have c1:=(iQ P).cell;(go_wp2_with fail);clear c0 c1;refine(Lf _ _ A B n m c d _ _ _ (J.ext (fG P)) (R.ext (fG P)) aa aa).mono ?_;rintro e N ⟨Q,rfl,⟨u,rfl,A2,n2,c2,rfl,G⟩,j⟩;rw[mH,mf,<-ab7] at G;rw[mH,mf,<-ab7];exact AaG
def Sn(x y):zOf (decide (x<0) !=decide (y<0)) (x.natAbs*y.natAbs)=x*y:=by
 by_cases J:x<0
 .by_cases R:y<0
  .simp only[J,R,adi,bne_self_eq_false,zOf,PI,abL];have l:(x.natAbs:Int)= -x:=aa;have j:(y.natAbs:Int)= -y:=aa
   push_cast;rw[l,j,Int.neg_mul_neg]
  .simp only[J,R,adi,ad6,zOf];have l:(x.natAbs:Int)= -x:=aa;have j:(y.natAbs:Int)=y:=aa;simp only[show(ε !=ζ)=ε from rfl,Aa]
   push_cast;rw[l,j,Int.neg_mul,Int.neg_neg]
 .by_cases R:y<0
  .simp only[J,R,adi,ad6,zOf];have l:(x.natAbs:Int)=x:=aa;have j:(y.natAbs:Int)= -y:=aa;simp only[show(ζ !=ε)=ε from rfl,Aa]
   push_cast;rw[l,j,Int.mul_neg,Int.neg_neg]
  .simp only[J,R,ad6,bne_self_eq_false,zOf,PI,abL];have l:(x.natAbs:Int)=x:=aa;have j:(y.natAbs:Int)=y:=aa
   push_cast;rw[l,j]
def Gv(x y):zOf (!(decide (x<0)==decide (y<0))) (x.natAbs*y.natAbs)=x*y:=Sn x y
def Ux(v u x y w)(L:RI w v x)(l:RI w u y)(H:x.natAbs<lim)(O:y.natAbs<lim):
  CV 197 #[v,u] w fun v w'=>nM (pQ (x*y)) v w':=by
 have S:=aJ (aeY L H);have D:=aJ (aeY l O);obtain⟨A,n,c,rfl,J⟩:=L;obtain⟨B,m,d,rfl,R⟩:=l;have hn:=J.kE H;have hm:=R.kE O;go_enter func197,ntmps197;(go_wp2_with fail);refine(gL _ A n c _ _ (J.ext (((Ext.new w _).alloc _).alloc _))).mono ?_;rintro e w1 ⟨rfl,M⟩;rw[S.o];have c0:=(iG M).cell;have c1:=(iQ M).cell;(go_wp2_with fail);refine(gL _ B m d _ _ (R.ext (fG M))).mono ?_;rintro e w2 ⟨rfl,P⟩;rw[D.o];clear c0 c1;have P:=M.trans P;have c0:=(iG P).cell;have c1:=(iQ P).cell;go_wp2;clear c0 c1;have Y0:=aK.blk (iG P);have Y1:=aK.blk (iQ P);refine bz 13 [(ε,0),(ε,1),(ε,2),(ε,3),(ε,4),(ε,5),(ε,6),(ε,7),(ε,8),(ζ,9),(ζ,10),(ε,11),(ε,12)] ah ah ?_;refine aT [0,1,2,3,4,5,6,7,8] [(ζ,9),(ζ,10),(ε,11),(ε,12)] _ ah ?_;simp only[bP,aU,μ,ξ];(repeat (go_big_quiet_step (fail)));refine σ ?_;refine aR 9 [(ζ,10),(ε,11),(ε,12)] ah ?_;intro K I;simp only[aU];(go_wp2_with fail);refine(Ja A B n m c d _ _ _ (J.ext (fG P).drew) (R.ext (fG P).drew) aa aa).mono ?_;rintro e T ⟨v1,rfl,⟨A1,n1,c1,rfl,Z⟩,F⟩;have F:=Ext.ji F;go_wp2;refine I _ _ ⟨⟨T,F⟩,rfl⟩ ?_;clear I K;refine aR 10 [(ε,11),(ε,12)] ah ?_;intro K I;simp only[aU];(go_wp2_with fail);refine(iC _ A1 n1 c1 _ _ Z).mono ?_;rintro e w5 ⟨v5,rfl,⟨u,rfl,A2,n2,c2,rfl,Q⟩,j⟩;have j:=F.trans j;go_wp2;refine I _ _ ⟨⟨w5,j⟩,rfl⟩ ?_;clear I K;rw[aL,aL,aL,Gv] at Q;simp only[aL,Gv];refine aT [11,12] [] _ ah ?_;simp only[bP,aU,μ,ξ];(repeat (go_big_quiet_step (fail)));refine σ ?_;have C:=P.trans j;simp only[bQ,ρ,φ];have b4:=lV C;have c4:=b4.cell;have f4:=b4.frozen;obtain⟨G,V,N⟩:=jq (fG C) aa b4 _ A2 n2 c2;have W:=aJ G;have U:=aJ V;have Y:=aJ (N _ _ _ _ Q);clear G V N;exact AbH
def Qv{x y}(h:decide (x<0)=decide (y<0)):zOf (decide (x<0)) (x.natAbs+y.natAbs)=x+y:=by
 by_cases J:x<0
 .have R:y<0:=by simpa[J] using h
  simp[zOf,J];omega
 .have R:¬y<0:=by simpa[J] using h
  simp[zOf,J];omega
def IE{x y}(h:¬decide (x<0)=decide (y<0))(D:y.natAbs<=x.natAbs):zOf (decide (x<0)) (x.natAbs-y.natAbs)=x+y:=by
 by_cases J:x<0
 .have R:¬y<0:=by simpa[J] using h
  simp[zOf,J];omega
 .have R:y<0:=by simpa[J] using h
  simp[zOf,J];omega
def Nw(v u x y w)(L:RI w v x)(l:RI w u y)(H:x.natAbs<lim)(O:y.natAbs<lim)(hs:decide (x<0)=decide (y<0)):
  CV 152 #[v,u] w fun v w'=>nM (pQ (x+y)) v w':=by
 have S:=aJ (aeY L H);have D:=aJ (aeY l O);obtain⟨A,n,c,rfl,J⟩:=L;obtain⟨B,m,d,rfl,R⟩:=l;have hn:=J.kE H;have hm:=R.kE O;have WW:(decide (x<0)==decide (y<0))=ε:=by simpa using hs
 have HS:=aJ hs;clear hs;go_enter ad7,adG;(go_wp2_with fail);refine(fK _ A n c _ _ (J.ext (((Ext.new w _).alloc _).alloc _))).mono ?_;rintro e w1 ⟨rfl,M⟩;rw[S.o];have c0:=(iG M).cell;have c1:=(iQ M).cell;(go_wp2_with fail);refine(fK _ B m d _ _ (R.ext (fG M))).mono ?_;rintro e w2 ⟨rfl,P⟩;rw[D.o];clear c0 c1;have P:=M.trans P;have c0:=(iG P).cell;have c1:=(iQ P).cell;go_wp2;clear c0 c1;have Y0:=aK.blk (iG P);have Y1:=aK.blk (iQ P);refine bz 11 [(ε,0),(ε,1),(ε,2),(ε,3),(ε,4),(ε,5),(ζ,6),(ζ,7),(ζ,8),(ε,9),(ε,10)] ah ah ?_;refine aT [0,1,2,3,4,5] [(ζ,6),(ζ,7),(ζ,8),(ε,9),(ε,10)] _ ah ?_;simp only[bP,aU,μ,ξ];(repeat (go_big_quiet_step (fail)));refine σ ?_;refine aR 6 [(ζ,7),(ζ,8),(ε,9),(ε,10)] ah ?_;intro K I;simp only[aU];(go_wp2_with fail);refine(Dt A B n m c d _ _ _ (J.ext (fG P).drew) (R.ext (fG P).drew) aa aa).mono ?_;rintro e w3 ⟨v1,rfl,⟨l1,⟨A1,n1,c1,rfl,hR⟩,N,T⟩,F⟩;have F:=Ext.ji F;go_wp2;refine I _ _ ⟨⟨w3,F⟩,rfl⟩ ?_;clear I K;rw[aL,aL] at N;have W:n1<=1000000:=by have:=hR.len;omega
 refine aR 7 [(ζ,8),(ε,9),(ε,10)] ah ?_;intro K I;simp only[aU];(go_wp2_with fail);refine(iA _ A1 n1 c1 _ _ hR W).mono ?_;rintro e w4 ⟨v4,rfl,Y,G⟩;have G:=F.trans G;go_wp2;refine I _ _ ⟨⟨w4,G⟩,rfl⟩ ?_;clear I K;rw[N,Qv HS.o] at Y;refine aR 8 [(ε,9),(ε,10)] ah ?_;intro K I;simp only[aU];(go_wp2_with fail);refine(kQ v4 _ _ Y).mono ?_;rintro e w5 ⟨v5,rfl,⟨u,rfl,A2,n2,c2,rfl,hI⟩,j⟩;have j:=G.trans j;go_wp2;refine I _ _ ⟨⟨w5,j⟩,rfl⟩ ?_;clear I K;refine aT [9,10] [] _ ah ?_;simp only[bP,aU,μ,ξ];(repeat (go_big_quiet_step (fail)));refine σ ?_;have C:=P.trans j;simp only[bQ,ρ,φ];have b4:=lV C;have c4:=b4.cell;have f4:=b4.frozen;obtain⟨Q,V,Z⟩:=jq (fG C) aa b4 _ A2 n2 c2;have K1:=aJ Q;have U:=aJ V;have K3:=aJ (Z _ _ _ _ hI);clear Q V Z;go_wp2;exact ik rfl rfl rfl U.o ⟨_,rfl,⟨_,rfl,_,_,_,rfl,K3.o⟩,K1.o⟩
def SA(v u x y w)(L:RI w v x)(l:RI w u y)(H:x.natAbs<lim)(O:y.natAbs<lim)(hs:¬decide (x<0)=decide (y<0))(D:y.natAbs<=x.natAbs):
  CV 152 #[v,u] w fun v w'=>nM (pQ (x+y)) v w':=by
 have S:=aJ (aeY L H);have WL:=aJ (aeY l O);obtain⟨A,n,c,rfl,J⟩:=L;obtain⟨B,m,d,rfl,R⟩:=l;have hn:=J.kE H;have hm:=R.kE O;have WW:(decide (x<0)==decide (y<0))=ζ:=by simpa using hs
 have HS:=aJ hs;clear hs;have Z:=aJ D;clear D;have N:m<=n:=by
  have h0:=Z.o;have h1:=J.len;have h2:=R.len;have h3:=eG (n:=y.natAbs) (k:=n) (Γ (show y.natAbs<=x.natAbs by omega) (dS aa));omega
 go_enter ad7,adG;(go_wp2_with fail);refine(fK _ A n c _ _ (J.ext (((Ext.new w _).alloc _).alloc _))).mono ?_;rintro e w1 ⟨rfl,M⟩;rw[S.o];have c0:=(iG M).cell;have c1:=(iQ M).cell;(go_wp2_with fail);refine(fK _ B m d _ _ (R.ext (fG M))).mono ?_;rintro e w2 ⟨rfl,P⟩;rw[WL.o];clear c0 c1;have P:=M.trans P;have c0:=(iG P).cell;have c1:=(iQ P).cell;(go_wp2_with fail);clear c0 c1;refine(il A B n m c d _ _ _ (J.ext (fG P)) (R.ext (fG P)) (bL _) (bL _)).mono ?_;rintro e w0 ⟨rfl,C⟩;rw[aL,aL];have Q:=LJ Z.o;have P:=P.trans C;have c0:=(iG P).cell;have c1:=(iQ P).cell;go_wp2;clear c0 c1 Q;have Y0:=aK.blk (iG P);have Y1:=aK.blk (iQ P);refine bz 11 [(ε,0),(ε,1),(ε,2),(ε,3),(ε,4),(ε,5),(ζ,6),(ζ,7),(ζ,8),(ε,9),(ε,10)] ah ah ?_;refine aT [0,1,2,3,4,5] [(ζ,6),(ζ,7),(ζ,8),(ε,9),(ε,10)] _ ah ?_;simp only[bP,aU,μ,ξ];(repeat (go_big_quiet_step (fail)));refine σ ?_;refine aR 6 [(ζ,7),(ζ,8),(ε,9),(ε,10)] ah ?_;intro K I;simp only[aU];(go_wp2_with fail);refine(vL A B n m c d _ _ _ (J.ext (fG P).drew) (R.ext (fG P).drew) aa N (by rw[aL,aL];have:=Z.o;omega)).mono ?_;rintro e w3 ⟨v1,rfl,⟨A1,n1,c1,rfl,hR⟩,F⟩;have F:=Ext.ji F;go_wp2;refine I _ _ ⟨⟨w3,F⟩,rfl⟩ ?_;clear I K;rw[aL,aL] at hR;have W:n1<=1000000:=by
  have h1:=hR.len;have h2:=jC (m:=x.natAbs-y.natAbs) aa;omega
 refine aR 7 [(ζ,8),(ε,9),(ε,10)] ah ?_;intro K I;simp only[aU];(go_wp2_with fail);refine(iA _ A1 n1 c1 _ _ hR W).mono ?_;rintro e w4 ⟨v4,rfl,Y,G⟩;have G:=F.trans G;go_wp2;refine I _ _ ⟨⟨w4,G⟩,rfl⟩ ?_;clear I K;rw[aL,IE HS.o Z.o] at Y;exact Aas
def Q9(v u x y w)(L:RI w v x)(l:RI w u y)(H:x.natAbs<lim)(O:y.natAbs<lim)(hs:¬decide (x<0)=decide (y<0))(D:x.natAbs<y.natAbs):
  CV 152 #[v,u] w fun v w'=>nM (pQ (x+y)) v w':=by
 have S:=aJ (aeY L H);have WL:=aJ (aeY l O);obtain⟨A,n,c,rfl,J⟩:=L;obtain⟨B,m,d,rfl,R⟩:=l;have hn:=J.kE H;have hm:=R.kE O;have WW:(decide (x<0)==decide (y<0))=ζ:=by simpa using hs
 have HS:=aJ hs;clear hs;have Z:=aJ D;clear D;have N:n<=m:=by
  have h0:=Z.o;have h1:=R.len;have h2:=J.len;have h3:=eG (n:=x.natAbs) (k:=m) (Γ (show x.natAbs<=y.natAbs by omega) (dS aa));omega
 go_enter ad7,adG;(go_wp2_with fail);refine(fK _ A n c _ _ (J.ext (((Ext.new w _).alloc _).alloc _))).mono ?_;rintro e w1 ⟨rfl,M⟩;rw[S.o];have c0:=(iG M).cell;have c1:=(iQ M).cell;(go_wp2_with fail);refine(fK _ B m d _ _ (R.ext (fG M))).mono ?_;rintro e w2 ⟨rfl,P⟩;rw[WL.o];clear c0 c1;have P:=M.trans P;have c0:=(iG P).cell;have c1:=(iQ P).cell;(go_wp2_with fail);clear c0 c1;refine(il A B n m c d _ _ _ (J.ext (fG P)) (R.ext (fG P)) (bL _) (bL _)).mono ?_;rintro e w0 ⟨rfl,C⟩;rw[aL,aL];have Q:=Lh Z.o;have P:=P.trans C;have c0:=(iG P).cell;have c1:=(iQ P).cell;go_wp2;clear c0 c1 Q;have Y0:=aK.blk (iG P);have Y1:=aK.blk (iQ P);refine bz 11 [(ε,0),(ε,1),(ε,2),(ε,3),(ε,4),(ε,5),(ζ,6),(ζ,7),(ζ,8),(ε,9),(ε,10)] ah ah ?_;refine aT [0,1,2,3,4,5] [(ζ,6),(ζ,7),(ζ,8),(ε,9),(ε,10)] _ ah ?_;simp only[bP,aU,μ,ξ];(repeat (go_big_quiet_step (fail)));refine σ ?_;refine aR 6 [(ζ,7),(ζ,8),(ε,9),(ε,10)] ah ?_;intro K I;simp only[aU];(go_wp2_with fail);refine(vL B A m n d c _ _ _ (R.ext (fG P).drew) (J.ext (fG P).drew) aa N (by rw[aL,aL];have:=Z.o;omega)).mono ?_;rintro e w3 ⟨v1,rfl,⟨A1,n1,c1,rfl,hR⟩,F⟩;have F:=Ext.ji F;go_wp2;refine I _ _ ⟨⟨w3,F⟩,rfl⟩ ?_;clear I K;rw[aL,aL] at hR;have W:n1<=1000000:=by
  have h1:=hR.len;have h2:=jC (m:=y.natAbs-x.natAbs) aa;omega
 refine aR 7 [(ζ,8),(ε,9),(ε,10)] ah ?_;intro K I;simp only[aU];(go_wp2_with fail);refine(iA _ A1 n1 c1 _ _ hR W).mono ?_;rintro e w4 ⟨v4,rfl,Y,G⟩;have G:=F.trans G;go_wp2;refine I _ _ ⟨⟨w4,G⟩,rfl⟩ ?_;clear I K;rw[aL,IE (fun h=>HS.o h.symm) (aan Z.o),Int.add_comm] at Y;exact Aas
def TF(v u x y w)(L:RI w v x)(l:RI w u y)(H:x.natAbs<lim)(O:y.natAbs<lim):
  CV 152 #[v,u] w fun v w'=>nM (pQ (x+y)) v w':=by
 by_cases hs:decide (x<0)=decide (y<0)
 .exact Nw v u x y w L l H O hs
 .rcases Ha x.natAbs y.natAbs with h|h
  .exact Q9 v u x y w L l H O hs h
  .exact SA v u x y w L l H O hs h
def oo{w w1}{x r:Obj}(J:Ext ((w.alloc x).alloc r) w1):Ext w w1:=((Ext.new w _).alloc _).trans J
def DT{w w1:World}{cs t}{r:Obj}(J:Ext ((w.alloc (.cells cs t)).alloc r) w1):Blk w1 w.heap.size t cs:=((Blk.new w t cs).alloc _).ext J
def yE{w w1:World}{cs t}{x:Obj}(J:Ext ((w.alloc x).alloc (.cells cs t)) w1):Blk w1 (w.heap.size+1) t cs:=(aeS t cs ag).ext J
def UM(v x z w)(L:RI w v x)(H:x.natAbs<lim)(D:z= -x):
  CV 199 #[v] w fun v w'=>nM (z,0) v w':=by
 have O:=aJ D;have S:=aJ (aeY L H);obtain⟨A,n,c,rfl,J⟩:=L;have hn:=J.kE H;have N:=aJ (lK (z:=z) aa);clear D;go_enter func199,ntmps199;(go_wp2_with fail);refine(gL _ A n c _ _ (J.ext ((Ext.new w _).alloc _))).mono ?_;rintro e w1 ⟨rfl,M⟩;rw[S.o];go_wp2;have Z:=aK.blk (DT M);refine bz 9 [(ε,0),(ε,1),(ε,2),(ε,3),(ε,4),(ζ,5),(ζ,6),(ε,7),(ε,8)] ah ah ?_;refine aT [0,1,2,3,4] [(ζ,5),(ζ,6),(ε,7),(ε,8)] _ ah ?_;simp only[bP,aU,μ,ξ];(repeat (go_big_quiet_step (fail)));refine σ ?_;refine aR 5 [(ζ,6),(ε,7),(ε,8)] ah ?_;intro K I;simp only[aU];(go_wp2_with fail);refine(uh A n c _ _ (J.ext (oo M).drew) aa).mono ?_;rintro e P ⟨v1,rfl,⟨A1,n1,c1,rfl,T⟩,F⟩;have F:=Ext.ji F;go_wp2;refine I _ _ ⟨⟨P,F⟩,rfl⟩ ?_;clear I K;refine aR 6 [(ε,7),(ε,8)] ah ?_;intro K I;simp only[aU];(go_wp2_with fail);refine(iC _ A1 n1 c1 _ _ T).mono ?_;rintro e W ⟨Y,rfl,⟨u,rfl,A2,n2,c2,rfl,G⟩,j⟩;have j:=F.trans j;go_wp2;refine I _ _ ⟨⟨W,j⟩,rfl⟩ ?_;clear I K;rw[aL,mf,<-O.o,N.o] at G;simp only[aL,mf,<-O.o,N.o];refine aT [7,8] [] _ ah ?_;simp only[bP,aU,μ,ξ];(repeat (go_big_quiet_step (fail)));refine σ ?_;have l:=M.trans j;simp only[bQ,ρ,φ];have b4:=yE l;have c4:=b4.cell;have f4:=b4.frozen;obtain⟨B,V,C⟩:=jq (oo l) aa b4 _ A2 n2 c2;have Q:=aJ B;have U:=aJ V;have R:=aJ (C _ _ _ _ G);clear B V C;go_wp2;exact ik rfl rfl rfl U.o ⟨_,rfl,⟨_,rfl,_,_,_,rfl,R.o⟩,Q.o⟩
def TG(v x z w)(L:RI w v x)(H:x.natAbs<lim)(C:z= -x):
  CV 181 #[v] w fun v w'=>nM (z,0) v w':=by
 have F:=aJ C;have S:=aJ (aeY L H);obtain⟨A,n,c,rfl,J⟩:=L;have hn:=J.kE H;clear C;go_enter func181,ntmps181;(go_wp2_with fail);refine(fK _ A n c _ _ (J.ext ((Ext.new w _).alloc _))).mono ?_;rintro e w1 ⟨rfl,M⟩;rw[S.o];have c0:=(DT M).cell;(go_wp2_with fail);clear c0;refine(iA _ A n c _ _ (J.ext (oo M)) aa).mono ?_;rintro e K ⟨N,rfl,⟨A2,n2,c2,rfl,D⟩,j⟩;rw[aL,mf,<-F.o] at D;rw[aL,mf,<-F.o];have j:=M.trans j;have b4:=yE j;have c4:=b4.cell;have O:=b4.frozen;obtain⟨l,V,B⟩:=jq (oo j) aa b4 _ A2 n2 c2;have G:=aJ l;have U:=aJ V;have I:=aJ (B _ _ _ _ D);clear l V B;go_wp2;exact ik rfl rfl rfl U.o ⟨_,rfl,⟨_,rfl,_,_,_,rfl,I.o⟩,G.o⟩

def Tx(v u x y w)(L:RI w v x)(l:RI w u y)(H:x.natAbs<lim)(O:y.natAbs<lim):
  CV 148 #[v,u] w fun v w'=>nM (pQ (x-y)) v w':=by
 obtain⟨z,Q⟩:∃z,z= -y:=⟨_,rfl⟩;have S:=aJ (aeY L H);obtain⟨A,n,c,rfl,J⟩:=L;obtain⟨B,m,d,rfl,R⟩:=l;have C:z.natAbs<lim:=aa;have G:=aJ Q;clear Q;go_enter func148,ntmps148;(go_wp2_with fail);refine(TG (iv (decide (y<0)) B m d) y z _ (show RI _ _ _ from ⟨_,_,_,rfl,R.ext (((Ext.new w _).alloc _).alloc _)⟩) O G.o).mono ?_;rintro e w1 ⟨v1,rfl,⟨u1,rfl,A1,n1,c1,rfl,F⟩,M⟩;have D:=((iG M).alloc (.cells #[.bool (decide (z<0)),.slice A1 n1 c1] 40)).cell;(go_wp2_with fail);refine(fK _ A n c _ _ (J.ext ((fG M).alloc _))).mono ?_;rintro e w2 ⟨rfl,P⟩;clear D;rw[S.o];have D:=((iG M).ext ((Ext.new w1 _).trans P)).cell;have b1:=((Blk.new w1 40 #[.bool (decide (z<0)),.slice A1 n1 c1]).ext P).cell;have N:=M.trans ((Ext.new w1 _).trans P);(go_wp2_with fail);clear D b1;refine(TF _ _ x z _ (show RI _ _ _ from ⟨_,_,_,rfl,J.ext (fG N)⟩) (show RI _ _ _ from ⟨_,_,_,rfl,F.ext ((Ext.new w1 _).trans P)⟩) H C).mono ?_;rintro e Z ⟨v2,rfl,⟨u,rfl,A2,n2,c2,rfl,T⟩,j⟩;rw[G.o,<-ab7] at T;rw[show x+z=x-y by rw[G.o,ab7]];have j:=N.trans j;have b4:=lV j;have c4:=b4.cell;have f4:=b4.frozen;obtain⟨I,V,K⟩:=jq (fG j) aa b4 _ A2 n2 c2;have W:=aJ I;have U:=aJ V;have Y:=aJ (K _ _ _ _ T);clear I V K;exact AbH

def sI (a b:Int):Int:=if a<b then-1 else if b<a then 1 else 0
theorem LY{x y}(J:x<0)(R:¬y<0): -1=sI x y:=by unfold sI;rw[ι aa]
theorem Mt{x y}(J:¬x<0)(R:y<0):1=sI x y:=by unfold sI;rw[θ aa,ι aa]
theorem KV{x y}(J:¬x<0)(R:¬y<0):mV x.natAbs y.natAbs=sI x y:=by
 unfold sI mV;by_cases l:x<y
 .rw[ι l,ι aa]
 .rw[θ l,θ aa];by_cases j:y<x
  .rw[ι j,ι aa]
  .rw[θ j,θ aa]
theorem Lu{x y}(J:x<0)(R:y<0):mV y.natAbs x.natAbs=sI x y:=by
 unfold sI mV;by_cases l:x<y
 .rw[ι l,ι aa]
 .rw[θ l,θ aa];by_cases j:y<x
  .rw[ι j,ι aa]
  .rw[θ j,θ aa]
def JM(v u x y w)(L:RI w v x)(l:RI w u y)(H:x.natAbs<lim)(O:y.natAbs<lim):
  CE 52 #[v,u] w (.int .i64 (sI x y)):=by
 have S:=aJ (aeY L H);have F:=aJ (aeY l O);obtain⟨A,n,c,rfl,J⟩:=L;obtain⟨B,m,d,rfl,R⟩:=l;go_enter func52,ntmps52;(go_wp2_with fail);refine(gL _ A n c _ _ (J.ext ((Ext.new w _).alloc _))).mono ?_;rintro e w1 ⟨rfl,M⟩;rw[S.o];have c0:=(DT M).cell;have c1:=(yE M).cell;(go_wp2_with fail);refine(gL _ B m d _ _ (R.ext (oo M))).mono ?_;rintro e w2 ⟨rfl,P⟩;rw[F.o];clear c0 c1;have P:=M.trans P;have c0:=(DT P).cell;have c1:=(yE P).cell;by_cases G:x<0
 .have K:decide (x<0)=ε:=Ξ G;by_cases C:y<0
  .have D:decide (y<0)=ε:=Ξ C;(go_wp2_with fail);clear c0 c1;refine(iH B A m n d c _ _ _ (R.ext (oo P)) (J.ext (oo P)) (bL _) (bL _)).mono ?_;exact Abj
  .exact AcO
 .have K:decide (x<0)=ζ:=υ G;by_cases C:y<0
  .exact Ac9
  .have D:decide (y<0)=ζ:=υ C;(go_wp2_with fail);clear c0 c1;refine(iH A B n m c d _ _ _ (J.ext (oo P)) (R.ext (oo P)) (bL _) (bL _)).mono ?_;exact Acg
def Gq(v u x y w)(L:RI w v x)(l:RI w u y)(H:x.natAbs<lim)(O:y.natAbs<lim):
  CE 147 #[v,u] w (.int .i64 (sI x y)):=by
 have S:=aJ (aeY L H);have F:=aJ (aeY l O);obtain⟨A,n,c,rfl,J⟩:=L;obtain⟨B,m,d,rfl,R⟩:=l;go_enter func147,ntmps147;(go_wp2_with fail);refine(fK _ A n c _ _ (J.ext ((Ext.new w _).alloc _))).mono ?_;rintro e w1 ⟨rfl,M⟩;rw[S.o];have c0:=(DT M).cell;have c1:=(yE M).cell;(go_wp2_with fail);refine(fK _ B m d _ _ (R.ext (oo M))).mono ?_;rintro e w2 ⟨rfl,P⟩;rw[F.o];clear c0 c1;have P:=M.trans P;have c0:=(DT P).cell;have c1:=(yE P).cell;by_cases G:x<0
 .have K:decide (x<0)=ε:=Ξ G;by_cases C:y<0
  .have D:decide (y<0)=ε:=Ξ C;(go_wp2_with fail);clear c0 c1;refine(il B A m n d c _ _ _ (R.ext (oo P)) (J.ext (oo P)) (bL _) (bL _)).mono ?_;exact Abj
  .exact AcO
 .have K:decide (x<0)=ζ:=υ G;by_cases C:y<0
  .exact Ac9
  .have D:decide (y<0)=ζ:=υ C;(go_wp2_with fail);clear c0 c1;refine(il A B n m c d _ _ _ (J.ext (oo P)) (R.ext (oo P)) (bL _) (bL _)).mono ?_;exact Acg
theorem SN(v x w)(L:RI w v x)(H:x.natAbs<lim):
  CE 143 #[v] w (.int .i64 (sI x 0)):=by
 obtain⟨A,n,c,rfl,J⟩:=L;go_enter func143,ntmps143;(go_wp2_with fail);refine(JM _ _ x 0 _ (show RI _ _ _ from ⟨_,_,_,rfl,J.ext (Ext.new w _)⟩) (RI.zero _) H (by unfold lim;exact NK aa)).mono ?_;exact AbF
theorem Og(v x w)(L:RI w v x)(H:x.natAbs<lim):
  CE 99 #[v] w (.int .i64 (sI x 0)):=by
 obtain⟨A,n,c,rfl,J⟩:=L;go_enter func99,ntmps99;(go_wp2_with fail);refine(Gq _ _ x 0 _ (show RI _ _ _ from ⟨_,_,_,rfl,J.ext (Ext.new w _)⟩) (RI.zero _) H (by unfold lim;exact NK aa)).mono ?_;exact AbF
def Ti{x:Nat}(J:x<18446744073709551616):bits .or .u64 ((0:Nat):Int) (x:Int)=(x:Int):=by
 rw[u64_or_nat 0 x aa J];simp
def TL{a x:Nat}(ha:a<4294967296)(J:x<4294967296):bits .or .u64 (a:Int) ((x:Int)*4294967296)=((a+4294967296*x:Nat):Int):=by
 rw[u64_or32 _ _ aa aa aa aa aa];omega
def or_hi{a x:Nat}(ha:a<4294967296)(J:x<4294967296):bits .or .u64 ((a:Int)*4294967296) (x:Int)=((x+4294967296*a:Nat):Int):=by
 rw[bits_join .u64 64 aj wraps_u64 32 _ _ aa aa aa aa aa aa];omega
def GN(A n c l w)(h:RM w A n c l)(hn:n<=2):
  Calls prog 202 #[.slice A n c] w fun e w'=>e=.returned (.int .u64 (val l:Int))/\w=w':=by
 have F:=aJ h.len;go_enter func202,ntmps202;go_wp2;go_loop [3,8] (fun wv i=>∃k:Nat,k<=n/\i=.int .i64 k/\wv=.int .u64 (val (l.take k):Int)) (fun _ i=>n-(intOf i).toNat)
 case atStart=>exact⟨0,aa,rfl,rfl⟩
 case round=>
  obtain⟨k,L,rfl,rfl⟩:=hrel;by_cases j:k<n
  .obtain⟨C,x,rfl,_,J,H,K⟩:=h.at_ j;have G:=aJ (bG J);rcases(show k=0\/k=1 by omega) with rfl|rfl
   .have I:val (l.take 0)=0:=rfl;have B:w.cell? C=γ (.int .u32 (x:Int)):=K;clear J;go_wp2;go_round
    case rel=>exact⟨1,aa,au,congrArg (fun z:Int=>Value.int .u64 z) (by rw[show bits .or .u64 ((val []:Nat):Int) (x:Int)=(x:Int) from Ti aa,G.o];simp[val])⟩
    case measure=>simp[intOf]<;>omega
   .have hb:=lY (h.dg.take 1);rw[A8] at hb;have D:val (l.take 1)<4294967296:=π hb (by have:=F.o;rw[aat aa];exact κ _);clear hb J;have B:w.cell? ⟨C.block,C.off+1,δ⟩=γ (.int .u32 (x:Int)):=by simpa[Addr.add] using K
    go_wp2;go_round
    case rel=>exact⟨2,aa,au,congrArg (fun z:Int=>Value.int .u64 z) (by rw[TL D H,G.o])⟩
    case measure=>simp[intOf]<;>omega
  .go_wp2;go_ret;exact⟨aM (by rw[ω (by rw[F.o];omega)]),rfl⟩
def Ph{m}(h:m<18446744073709551616):18446744073709551615^^^m=18446744073709551615-m:=by
 have j:(BitVec.allOnes 64^^^BitVec.ofNat 64 m).toNat=(BitVec.allOnes 64).toNat^^^(BitVec.ofNat 64 m).toNat:=BitVec.toNat_xor _ _;rw[BitVec.allOnes_xor,BitVec.toNat_not,BitVec.toNat_ofNat,BitVec.toNat_allOnes,aaU aa] at j;exact j.symm
def Sl{m:Nat}(h:m<18446744073709551616):bits .xor .u64 IntKind.u64.max (m:Int)=((18446744073709551615-m:Nat):Int):=by
 rw[show IntKind.u64.max=((18446744073709551615:Nat):Int) from rfl,u64_xor_nat _ _ aa h,Ph h]
def vO{l:List Nat}{k x}(h:l[k]? =γ x):val (l.drop k)=x+4294967296*val (l.drop (k+1)):=by
 obtain⟨j,rfl⟩:=ν.1 h;rw[aaH j,val]
theorem M5{p q}:(mV p q==0)=decide (p=q):=by
 unfold mV;rcases acf p q with h|h|h
 .simp[h];omega
 .simp[h]
 .have:¬p<q:=aa;simp[h,this];omega
def Ov{x y:Int}(h:decide (x<0)=decide (y<0)):decide (x.natAbs=y.natAbs)=decide (x=y):=by
 by_cases J:x<0
 .have R:y<0:=by simpa[J] using h
  rw[decide_eq_decide];omega
 .have R:¬y<0:=by simpa[J] using h
  rw[decide_eq_decide];omega
def M3(v u x y w)(L:RI w v x)(l:RI w u y):
  CE 69 #[v,u] w (.bool (decide (x=y))):=by
 obtain⟨A,n,c,rfl,J⟩:=L;obtain⟨B,m,d,rfl,R⟩:=l;by_cases hs:decide (x<0)=decide (y<0)
 .have C:(decide (x<0)==decide (y<0))=ε:=by simpa using hs
  have D:=aJ hs;clear hs;go_enter func69,ntmps69;(go_wp2_with fail);refine(il A B n m c d _ _ _ (J.ext ((Ext.new w _).alloc _)) (R.ext ((Ext.new w _).alloc _)) (bL _) (bL _)).mono ?_;rintro e w1 ⟨rfl,M⟩;go_wp2;go_ret;refine⟨aS ?_,((Ext.new w _).alloc _).trans M⟩;rw[aL,aL,M5,Ov D.o]
 .have C:(decide (x<0)==decide (y<0))=ζ:=by simpa using hs
  have j:x≠y:=fun e=>hs (by rw[e]);go_enter func69,ntmps69;go_wp2;go_ret;exact⟨aS (by simp[j]),(Ext.new w _).alloc _⟩
def PD{m:Nat}(j:0<m)(h:m<=9223372036854775808):IntKind.u64.wrap (bits .xor .u64 IntKind.u64.max (IntKind.u64.wrap (-(m:Int)))+1)=(m:Int):=by
 have e:IntKind.u64.wrap (-(m:Int))=((18446744073709551616-m:Nat):Int):=by rw[jw];omega
 rw[e,Sl aa,jw];omega
def Re(n w)(K: -9223372036854775808<=n)(J:n<=9223372036854775807):
  CV 102 #[.int .i64 n] w fun v w'=>RI w' v n:=by
 obtain⟨z,B⟩:∃z,z=n:=⟨_,rfl⟩;by_cases P:n<0
 .obtain⟨m,rfl⟩:∃m:Nat,n= -(m:Int):=⟨n.natAbs,aa⟩;rw[<-B];have l:=aJ B;clear B;rw[l.o];go_enter func102,ntmps102;(go_wp2_with fail);rw[PD aa aa];refine(pX m _ aa).mono ?_;rintro e w1 ⟨v1,rfl,⟨A1,n1,c1,rfl,G⟩,M⟩;(go_wp2_with fail);have W:n1<=1000000:=by
   have K:=G.len;have J:=eG (n:=m) (k:=2) aa;omega
  refine(iA ε A1 n1 c1 _ _ G W).mono ?_;rintro e L ⟨N,rfl,⟨A2,n2,c2,rfl,F⟩,j⟩;rw[aL,ET,<-l.o] at F;rw[aL,ET,<-l.o];exact AaB
 .obtain⟨m,rfl⟩:∃m:Nat,n=(m:Int):=⟨n.natAbs,aa⟩;rw[<-B];have l:=aJ B;clear B;rw[l.o];go_enter func102,ntmps102;(go_wp2_with fail);refine(pX m _ aa).mono ?_;rintro e w1 ⟨v1,rfl,⟨A1,n1,c1,rfl,G⟩,M⟩;(go_wp2_with fail);have W:n1<=1000000:=by
   have K:=G.len;have J:=eG (n:=m) (k:=2) aa;omega
  refine(iA ζ A1 n1 c1 _ _ G W).mono ?_;rintro e L ⟨N,rfl,⟨A2,n2,c2,rfl,F⟩,j⟩;rw[aL,zz,<-l.o] at F;rw[aL,zz,<-l.o];exact AaB
def yh (w:World) (g:Nat) (p:List Nat) (r:List Value):Prop:=Blk w g 208 (mg p++r).toArray/\Dig p
section
variable {w w':World} {g k d n c:Nat} {p:List Nat} {r:List Value} {z:Int}
def yh.at_(h:yh w g p r)(l:k<p.length):∃z,p[k]? =γ z/\z<4294967296/\w.cell? ⟨g,k,δ⟩=γ (.int .u32 (z:Int))/\w.frozen? ⟨g,k,δ⟩=ζ:=by
 have j:p[k]? =γ p[k]:=ο l;refine⟨p[k],j,h.2.at_ j,?_,h.1.frozen k⟩;rw[h.1.cell];have:=oK j;rw[Ω,kC (by rw[qw];exact l)];exact this
def yh.set(h:yh w g p r)(j:k<p.length)(l:z=(d:Int))(hd:d<4294967296):yh (w.setCell ⟨g,k,δ⟩ (.int .u32 z)) g (p.set k d) r:=by
 have:=h.1.O5 (i:=k) (.int .u32 z);rw[ady _ _ (by rw[qw];exact j),Fa l] at this;exact⟨this,h.2.set k hd⟩
def yh.rm(h:yh w g p r)(hn:p.length=n)(hc:n<=c)(B:c<=9223372036854775807):RM w (γ ⟨g,0,δ⟩) n c p:=by
 refine⟨⟨by rw[qw];omega,fun _=>⟨_,rfl,h.1.lt,fun j u l=> ?_⟩⟩,h.2,hc,B⟩;rw[Qk,h.1.cell,Ω,kC]
 .exact l
 .exact(ν.1 l).1
def agh{base v}(h:w.ownsRow base 208 1 v n (mg p))(hd:Dig p):(v=.slice δ 0 0/\n=0/\p=[])\/∃g G r,v=.slice (γ ⟨g,0,δ⟩) n G/\base<=g/\yh w g p r/\n<=G/\G<=9223372036854775807:=by
 rcases h.2 with ⟨l,j⟩|⟨g,G,cur,l,j,F,B,C,H,D⟩
 .refine .inl ⟨l,j,?_⟩;have:=h.1;rw[qw,j] at this;exact I4 aa
 .refine .inr ⟨g,G,cur.toList.drop n,l,j,⟨?_,hd⟩,B,C⟩;rw[<-D,aav,acr];exact F
end
def RF{p q:List Nat}{j y}(l:j<p.length):(p.take (j+1)++q).set j y=p.take j++(y::q):=by
 rw[aaS l,aab,abK _ _ ae];simp[aat (aan l)]
def Mc{p q:List Nat}{j x d rest l}(J:p[j]? =γ x)(hn:l=x+4294967296*rest)(h:val (p.drop (j+1))=d*val q+rest):val (p.drop j)=d*val (l/d::q)+l%d:=by
 rw[vO J,h,val,Δ,Δ];have C:=abA l d;have B:d*(4294967296*val q)=4294967296*(d*val q):=abh _ _ _;omega
def TH{x d rest l}(J:x<4294967296)(j:rest<d)(hn:l=x+4294967296*rest):l/d<4294967296:=by
 rw[aaV aa];have:4294967296*(rest+1)<=4294967296*d:=ib _ j;omega
def Hl(g n c d:Nat)(p:List Nat)(r w)(h:yh w g p r)(Z:p.length=n)(hn:n<=1000000)(B:0<d)(hd:d<4294967296):
  Calls prog 218 #[.slice (γ ⟨g,0,δ⟩) n c,.int .u32 (d:Int)] w fun e w'=>e=.returned (.int .u32 ((val p%d:Nat):Int))/\∃q,yh w' g q r/\q.length=n/\val q=val p/d/\Only g w w':=by
 have L:=aJ Z;clear Z;go_enter func218,ntmps218;go_wp2;go_loopw [5,6] (fun T i wr=>∃(k rest:Nat) (q:List Nat),k<=n/\i=.int .i64 ((k:Int)-1)/\T=.int .u64 (rest:Int)/\rest<d/\k+q.length=n/\val (p.drop k)=d*val q+rest/\yh wr g (p.take k++q) r/\Only g w wr) (fun _ i _=>(intOf i+1).toNat)
 case atStart=>exact⟨n,0,[],κ _,rfl,rfl,B,rfl,by rw[aap (by rw[L.o];omega)];simp[val],by rw[ω (by rw[L.o];omega)];simpa using h,Only.refl _ _⟩
 case round=>
  obtain⟨k,rest,q,hk,rfl,rfl,N,hq,hv,F,I⟩:=hrel;have P:=aJ hv;clear hv;have O:=aJ hq;clear hq;by_cases S:k=0
  .subst S;go_wp2;go_ret;have hv:=P.o;simp only[φ] at hv;refine⟨aM ?_,q,by simpa using F,by have:=O.o;omega,?_,I⟩
   .rw[hv,adh,aaU N]
   .rw[hv,acv B,abo N,Bn]
  .obtain⟨j,rfl⟩:∃j,k=j+1:=⟨k-1,aa⟩;have G:j<(p.take (j+1)++q).length:=by rw[y9,A8,L.o];omega
   obtain⟨x,J,H,K,V⟩:=F.at_ G;have C:p[j]? =γ x:=by
    rw[kC (by rw[A8,L.o];omega),BB aa] at J;exact J
   clear J;have HX:=aJ C;clear C;have Q:=aJ F;clear F;have R:=aJ G;clear G;obtain⟨l,D⟩:∃l,l=x+4294967296*rest:=⟨_,rfl⟩;have WY:l<18446744073709551616:=aa;have e1:bits .or .u64 ((rest:Int)*4294967296) (x:Int)=(l:Int):=by rw[or_hi aa H,D]
   have M:l/d<4294967296:=TH H N D;have W:(l:Int)/(d:Int)<4294967296:=by rw[<-abp];omega
   have Y:(0:Int)<=(l:Int)/(d:Int):=acw aa aa;have U:=aJ D;clear D;go_wp2;go_roundw
   case rel=>
    refine⟨j,l%d,l/d::q,aa,au,rfl,q8 _ B,by have:=O.o;simp;omega,Mc HX.o U.o P.o,?_,I.trans (Only.set _ _ _ _)⟩;have:=Q.set (d:=l/d) R.o rfl M;rwa[RF (by rw[L.o];omega)] at this
   case measure=>simp[intOf]<;>omega
def Fy{q j y}:(List.replicate (j+1) 0++q).set j y=List.replicate j 0++(y::q):=by
 rw[List.replicate_succ',aab,abK _ _ ag];simp
def Jn(A)(n c d:Nat)(p w)(h:RM w A n c p)(hn:n<=1000000)(B:0<d)(hd:d<4294967296):
  Calls prog 205 #[.slice A n c,.int .u32 (d:Int)] w fun e w'=>∃v,e=.returned (.tuple #[v,.int .u32 ((val p%d:Nat):Int)])/\SlM (cu (val p/d)) v w'/\Ext w w':=by
 have W:=aJ h.len;have N:=jk (n:Int) n rfl aa;go_enter func205,ntmps205;go_wp2;clear N;go_loopw [7,8] (fun U i wr=>∃(k rest:Nat) (q:List Nat),k<=n/\i=.int .i64 ((k:Int)-1)/\U=.int .u64 (rest:Int)/\rest<d/\k+q.length=n/\val (p.drop k)=d*val q+rest/\gu wr w.heap.size (List.replicate k 0++q)/\Ext w wr) (fun _ i _=>(intOf i+1).toNat)
 case atStart=>exact⟨n,0,[],κ _,rfl,rfl,B,rfl,by rw[aap (by rw[W.o];omega)];simp[val],by rw[aaj];exact⟨Blk.new w _ _,Dig.replicate _⟩,Ext.new _ _⟩
 case round=>
  obtain⟨k,rest,q,hk,rfl,rfl,L,hq,hv,F,D⟩:=hrel;have S:=aJ hv;clear hv;have P:=aJ hq;clear hq;by_cases T:k=0
  .subst T;(go_wp2_with fail);simp only[aa0,ξ] at F;refine(iB _ n n q _ (F.rm (by have:=P.o;omega) aa) hn).mono ?_;rintro e w1 ⟨v1,rfl,hR,M⟩;have hv:=S.o;simp only[φ] at hv;have O:val p/d=val q:=by rw[hv,acv B,abo L,Bn]
   have R:rest=val p%d:=by rw[hv,adh,aaU L]
   have E1:=aJ O;have E2:=aJ R;clear O R hv;go_wp2
   go_ret2
   refine⟨v1,?_,by rw[E1.o];exact hR,D.trans M⟩;rw[<-E2.o];rfl
  .obtain⟨j,rfl⟩:∃j,k=j+1:=⟨k-1,aa⟩;obtain⟨ad,x,rfl,hb,J,H,K⟩:=(h.ext D).at_ (k:=j) aa;have HX:=aJ J;clear J;have G:j<(List.replicate (j+1) 0++q).length:=ae;obtain⟨z,_,_,Y,WO⟩:=F.at_ G;have Q:=aJ F;clear F G;obtain⟨l,C⟩:∃l,l=x+4294967296*rest:=⟨_,rfl⟩;have WY:l<18446744073709551616:=aa;have O:bits .or .u64 ((rest:Int)*4294967296) (x:Int)=(l:Int):=by rw[or_hi aa H,C]
   have I:l/d<4294967296:=TH H L C;have Z:(l:Int)/(d:Int)<4294967296:=by rw[<-abp];omega
   have Xd:(0:Int)<=(l:Int)/(d:Int):=acw aa aa;have V:=aJ C;clear C;go_wp2;go_roundw
   case rel=>
    refine⟨j,l%d,l/d::q,aa,au,rfl,q8 _ B,by have:=P.o;simp;omega,Mc HX.o V.o S.o,?_,D.setCell (κ _) _⟩;have:=Q.set (k:=j) (d:=l/d) rfl I;rwa[Fy] at this
   case measure=>simp[intOf]<;>omega
def wO{s}(hs:s<=32):2^s*2^(32-s)=4294967296:=by
 rw[<-aaD,show s+(32-s)=32 by omega]
def TY{x s}(J:x<4294967296)(hs:s<32):x*2^s<18446744073709551616:=by
 have j:2^s<=2^31:=Ab aa aa;have l:x*2^s<=x*2^31:=ib _ j;omega
def Mq{x s:Nat}(J:x<4294967296)(hs:s<32):IntKind.u64.wrap ((x:Int)*2^s)=((x*2^s:Nat):Int):=by
 have h:=TY J hs;have e:((x:Int)*2^s)=((x*2^s:Nat):Int):=by push_cast;rfl
 rw[e];exact aaN _ aa
def Jp{x s}(hs:s<=32):2^s∣x*2^s%4294967296:=by
 rw[Nat.dvd_mod_iff (show 2^s∣4294967296 from ⟨2^(32-s),(wO aa).symm⟩)];exact ac5 _ _
def BG{x s G}(hs:s<=32)(hc:G<2^s):G+x*2^s%4294967296<4294967296:=by
 obtain⟨a,ha⟩:=Jp (x:=x) hs;have hb:=wO (show s<=32 by omega);have Z:x*2^s%4294967296<4294967296:=q8 _ aa;rw[ha] at Z⊢;have l:a<2^(32-s):=by
  rw[<-hb] at Z;exact ab0 Z
 have j:2^s*(a+1)<=2^s*2^(32-s):=ib _ l;rw[hb,Δ,aav] at j;omega
def Ui{x s G:Nat}(J:x<4294967296)(hs:s<32)(hc:G<2^s):bits .or .u32 (G:Int) (IntKind.u64.wrap ((x:Int)*2^s)%4294967296)=((G+x*2^s%4294967296:Nat):Int):=by
 have j:=BG (x:=x) (aan hs) hc;obtain⟨a,ha⟩:=Jp (x:=x) (aan hs);rw[Mq J hs,show((x*2^s:Nat):Int)%4294967296=((x*2^s%4294967296:Nat):Int) from rfl];rw[adH .u32 32 aj ad8 s _ _ aa (by exact_mod_cast hc) aa aa ?_ aa]
 .omega
 .rw[ha];have:((2^s*a:Nat):Int)%2^s=((2^s*a%2^s:Nat):Int):=by push_cast;rfl
  rw[this,Nat.mul_mod_right];rfl
def oH{x s}(J:x<4294967296):x*2^s/4294967296<2^s:=by
 rw[aaV aa,pz];exact Nat.mul_lt_mul_of_pos_left J (NK aa)
def TT{x s:Nat}(J:x<4294967296)(hs:s<32):IntKind.u64.wrap ((x:Int)*2^s)/4294967296%4294967296=((x*2^s/4294967296:Nat):Int):=by
 have h:=TY J hs;rw[Mq J hs];omega
def FJ{o k n a b G}(j:o.length=k)(l:k<n):((o++G::List.replicate (n-k) 0).set k a).set (k+1) b=(o++[a])++b::List.replicate (n-(k+1)) 0:=by
 subst j;rw[show n-o.length=(n-(o.length+1))+1 by omega,aaP];simp
def KX{o p:List Nat}{k G x s}(j:o.length=k)(J:p[k]? =γ x)(h:val o+4294967296^k*G=val (p.take k)*2^s):
  val (o++[G+x*2^s%4294967296])+4294967296^(k+1)*(x*2^s/4294967296)=val (p.take (k+1))*2^s:=by
 rw[jI,bG J,j,y8,χ,Zb,<-h,Δ];have e:4294967296^k*(x*2^s%4294967296)+4294967296^k*(4294967296*(x*2^s/4294967296))=4294967296^k*(x*2^s):=by
  exact AbD
 rw[χ (4294967296^k) x];omega
def uO(A)(n c s:Nat)(p)(w:World)(h:RM w A n c p)(hn:n<=1000000)(hs:s<32):
  Calls prog 220 #[.slice A n c,.int .i64 (s:Int)] w fun e w'=>e=.returned (.slice (γ ⟨w.heap.size,0,δ⟩) (n+1) (n+1))/\∃q,gu w' w.heap.size q/\q.length=n+1/\val q=val p*2^s/\Ext w w':=by
 have U:=aJ h.len;have P:=jk ((n:Int)+1) (n+1) aa aa;go_enter func220,ntmps220;go_wp2;clear P;go_loopw [15] (fun i wr=>∃(k G:Nat) (o:List Nat),k<=n/\i=.int .i64 k/\o.length=k/\G<2^s/\val o+4294967296^k*G=val (p.take k)*2^s/\gu wr w.heap.size (o++G::List.replicate (n-k) 0)/\Ext w wr) (fun i _=>n-(intOf i).toNat)
 case atStart=>exact⟨0,0,[],y5 _,rfl,rfl,NK aa,by simp[val],⟨by simpa[aaP] using Blk.new w 208 (mg (List.replicate (n+1) 0)).toArray,by simpa[aaP] using Dig.replicate (n+1)⟩,Ext.new _ _⟩
 case round=>
  obtain⟨k,G,o,Z,rfl,R,M,hv,F,D⟩:=hrel;have S:=aJ hv;clear hv;have j:=aJ R;clear R;by_cases I:k<n
  .obtain⟨ad,x,rfl,_,J,H,K⟩:=(h.ext D).at_ I;have W:=aJ J;clear J;obtain⟨z,O,l,Y,V⟩:=F.at_ (k:=k) (by simp[j.o]);obtain⟨z1,N,B,L,C⟩:=F.at_ (k:=k+1) (by simp[j.o];omega);obtain rfl:z=G:=by
    exact Acf
   have Q:=aJ F;clear F O N;go_wp2;go_roundw
   case rel=>
    exact AaC
   case measure=>simp[intOf]<;>omega
  .obtain rfl:k=n:=aa;have Q:=aJ F;clear F;go_wp2;go_ret;refine⟨rfl,o++[G],by simpa using Q.o,by simp[j.o],?_,D⟩;rw[jI,j.o,S.o,ω (by rw[U.o];omega)]
def Ai(A)(n c s:Nat)(p)(w:World)(h:RM w A n c p)(hn:n<=1000000)(hs:s<32):
  Calls prog 206 #[.slice A n c,.int .i64 (s:Int)] w fun e w'=>e=.returned (.slice (γ ⟨w.heap.size,0,δ⟩) (n+1) (n+1))/\∃q,gu w' w.heap.size q/\q.length=n+1/\val q=val p*2^s/\Ext w w':=by
 have U:=aJ h.len;have P:=jk ((n:Int)+1) (n+1) aa aa;go_enter func206,ntmps206;go_wp2;clear P;go_loopw [6] (fun i wr=>∃(k G:Nat) (o:List Nat),k<=n/\i=.int .i64 k/\o.length=k/\G<2^s/\val o+4294967296^k*G=val (p.take k)*2^s/\gu wr w.heap.size (o++G::List.replicate (n-k) 0)/\Ext w wr) (fun i _=>n-(intOf i).toNat)
 case atStart=>exact⟨0,0,[],y5 _,rfl,rfl,NK aa,by simp[val],⟨by simpa[aaP] using Blk.new w 208 (mg (List.replicate (n+1) 0)).toArray,by simpa[aaP] using Dig.replicate (n+1)⟩,Ext.new _ _⟩
 case round=>
  obtain⟨k,G,o,Z,rfl,R,M,hv,F,D⟩:=hrel;have S:=aJ hv;clear hv;have j:=aJ R;clear R;by_cases I:k<n
  .obtain⟨ad,x,rfl,_,J,H,K⟩:=(h.ext D).at_ I;have W:=aJ J;clear J;obtain⟨z,O,l,Y,V⟩:=F.at_ (k:=k) (by simp[j.o]);obtain⟨z1,N,B,L,C⟩:=F.at_ (k:=k+1) (by simp[j.o];omega);obtain rfl:z=G:=by
    exact Acf
   have Q:=aJ F;clear F O N;go_wp2;go_roundw
   case rel=>
    exact AaC
   case measure=>simp[intOf]<;>omega
  .obtain rfl:k=n:=aa;have Q:=aJ F;clear F;go_wp2;go_ret;refine⟨rfl,o++[G],by simpa using Q.o,by simp[j.o],?_,D⟩;rw[jI,j.o,S.o,ω (by rw[U.o];omega)]
def Wu{x s}(hs:s<=32):x*4294967296/2^s=x*2^(32-s):=by
 rw[<-wO hs,abh,Nat.mul_div_cancel_left _ (NK aa)]
def Ul{x s:Nat}(hs:s<=32):(x:Int)*4294967296/2^s=((x*2^(32-s):Nat):Int):=by
 rw[<-Wu hs,abp,Int.natCast_mul,Int.natCast_pow];rfl
def zY{x s}(J:x<4294967296)(hs:s<=32):x*2^(32-s)/4294967296<4294967296:=by
 have l:=oH (x:=x) (s:=32-s) J;have j:2^(32-s)<=2^32:=Ab aa aa;omega
def NJ{y:Nat}(R:y<4294967296):bits .or .u32 ((0:Nat):Int) (y:Int)=(y:Int):=by
 rw[adH .u32 32 aj ad8 0 _ _ aa aa aa aa aa aa];omega
def TU{x s:Nat}(J:x<4294967296)(hs:s<=32):bits .or .u32 ((0:Nat):Int) ((x:Int)*4294967296/2^s/4294967296%4294967296)=((x*2^(32-s)/4294967296:Nat):Int):=by
 have h:=zY J hs;rw[Ul hs];have e:((x*2^(32-s):Nat):Int)/4294967296%4294967296=((x*2^(32-s)/4294967296:Nat):Int):=aa;rw[e,NJ h]
def VD{x s y:Nat}(hs:s<=32)(R:y<2^(32-s)):bits .or .u32 (y:Int) ((x:Int)*4294967296/2^s%4294967296)=((y+x*2^(32-s)%4294967296:Nat):Int):=by
 have j:=BG (x:=x) (s:=32-s) aa R;obtain⟨a,ha⟩:=Jp (x:=x) (s:=32-s) aa;rw[Ul hs,show((x*2^(32-s):Nat):Int)%4294967296=((x*2^(32-s)%4294967296:Nat):Int) from rfl];rw[adH .u32 32 aj ad8 (32-s) _ _ aa (by exact_mod_cast R) aa aa ?_ aa]
 .omega
 .rw[ha];have:((2^(32-s)*a:Nat):Int)%2^(32-s)=((2^(32-s)*a%2^(32-s):Nat):Int):=by push_cast;rfl
  rw[this,Nat.mul_mod_right];rfl
def Oo{x s}(hs:s<=32):x*2^(32-s)/4294967296=x/2^s:=by
 rw[<-wO hs,adr _ _ (NK aa)]
def SY{o p:List Nat}{j x y s}(hs:s<=32)(l:o.length=j+1)(R:o[j]? =γ y)(J:p[j+1]? =γ x)(h:val o=val (p.take (j+1))/2^s):
  val (o.set j (y+x*2^(32-s)%4294967296)++[x*2^(32-s)/4294967296])=val (p.take (j+2))/2^s:=by
 have C:=pU (y:=y+x*2^(32-s)%4294967296) R;rw[jI,abd,l,bG J];have B:4294967296^(j+1)*x=2^s*(4294967296^j*(x*2^(32-s))):=by
  rw[y8,<-χ,<-χ,pz (2^s*4294967296^j*x),<-χ,<-χ,pz (2^(32-s)) (2^s),wO hs,pz 4294967296]
 rw[B,adz _ _ (NK aa),<-h];have D:4294967296^j*(x*2^(32-s)%4294967296)+4294967296^(j+1)*(x*2^(32-s)/4294967296)=4294967296^j*(x*2^(32-s)):=by
  rw[y8,χ,<-Δ];congr 1;omega
 rw[Δ] at C;omega
def last_at{o:List Nat}{j y}(l:o.length=j+1)(R:o[j]? =γ y):o.getLast? =γ y:=by
 rw[abZ,l];exact R
def BS(A)(n c s:Nat)(p w)(h:RM w A n c p)(hn:n<=1000000)(hs:s<32):
  CV 222 #[.slice A n c,.int .i64 (s:Int)] w fun v w'=>SlM (cu (val p/2^s)) v w':=by
 have HL:=aJ h.len;have WQ:=jk (n:Int) n rfl aa;go_enter func222,ntmps222;go_wp2;clear WQ;go_loopw [14] (fun i wr=>∃(k:Nat) (o:List Nat),k<=n/\i=.int .i64 k/\o.length=k/\(∀y,o.getLast? =γ y->y<2^(32-s))/\val o=val (p.take k)/2^s/\gu wr w.heap.size (o++List.replicate (n-k) 0)/\Ext w wr) (fun i _=>n-(intOf i).toNat)
 case atStart=>exact⟨0,[],y5 _,rfl,rfl,ag,by simp[val],⟨by simpa using Blk.new w _ _,by simpa using Dig.replicate n⟩,Ext.new _ _⟩
 case round=>
  obtain⟨k,o,hk,rfl,ho,R,hv,F,D⟩:=hrel;have HV:=aJ hv;clear hv;have P:=aJ ho;clear ho;have HY:=aJ R;clear R;by_cases T:k<n
  .obtain⟨ad,x,rfl,_,J,H,K⟩:=(h.ext D).at_ T;have HX:=aJ J;clear J;obtain⟨z,Z,l,Y,WO⟩:=F.at_ (k:=k) (by simp[P.o];omega);by_cases h0:k=0
   .subst h0;have X7:wr.cell? ad=γ (.int .u32 (x:Int)):=K;have U:o=[]:=I4 P.o;have S:z=0:=by
     have:=y7 Z;rw[U] at this;simpa using ab6 this
    have Q:=aJ F;clear F Z;have O:=aJ U;clear U;have W:=aJ S;clear S;go_wp2;go_roundw
    case rel=>
     refine⟨1,[x*2^(32-s)/4294967296],aa,au,rfl,?_,?_,?_,D.setCell (κ _) _⟩
     .intro y R;simp at R;rw[<-R];exact oH H
     .rw[bG (k:=0) HX.o,Oo aa];simp[val]
     .have h1:=Q.set (k:=0) (d:=x*2^(32-s)/4294967296) (z:=bits .or .u32 (z:Int) ((x:Int)*4294967296/2^s/4294967296%4294967296)) (by rw[W.o];exact TU H aa) (zY H aa);rwa[O.o,tq (o:=[]) (k:=0) rfl T] at h1
    case measure=>simp[intOf]<;>omega
   .obtain⟨j,rfl⟩:∃j,k=j+1:=⟨k-1,aa⟩;obtain⟨z1,V,B,L,C⟩:=F.at_ (k:=j) (by simp[P.o];omega);have X7:wr.cell? ⟨ad.block,ad.off+(j+1),δ⟩=γ (.int .u32 (x:Int)):=by simpa[Addr.add] using K
    have S:z=0:=by
     rw[nV (by rw[P.o];exact κ _),P.o] at Z;exact ab6 (y7 Z)
    have G:o[j]? =γ z1:=by
     rw[kC (by rw[P.o];omega)] at V;exact V
    have Q:=aJ F;clear F Z V;have W:=aJ S;clear S;have N:=aJ G;clear G;have I:z1<2^(32-s):=HY.o z1 (last_at P.o N.o);go_wp2;go_roundw
    case rel=>
     refine⟨j+2,o.set j (z1+x*2^(32-s)%4294967296)++[x*2^(32-s)/4294967296],aa,au,by simp[P.o],?_,SY aa P.o N.o HX.o HV.o,?_,(D.setCell (κ _) _).setCell (κ _) _⟩
     .intro y R;simp at R;rw[<-R];exact oH H
     .have h1:=(Q.set (k:=j+1) (d:=x*2^(32-s)/4294967296) (z:=bits .or .u32 (z:Int) ((x:Int)*4294967296/2^s/4294967296%4294967296)) (by rw[W.o];exact TU H aa) (zY H aa)).set (k:=j) (VD (x:=x) aa I) (BG aa I);rw[tq P.o T,aab,ady _ _ (by rw[P.o];omega),<-aab] at h1;exact h1
    case measure=>simp[intOf]<;>omega
  .obtain rfl:k=n:=aa;simp only[aaY,aa0,aaj] at F;(go_wp2_with fail);refine(jL _ _ _ o _ (F.rm P.o aa)).mono ?_;rintro e w1 ⟨v1,rfl,hR,M⟩;rw[HV.o,ω (by rw[HL.o];omega)] at hR;go_wp2;go_ret;exact⟨_,rfl,hR,D.trans M⟩
def Jr{p k x}(hd:Dig p)(J:p[k]? =γ x):∃Y,val p/4294967296^k=x+4294967296*p.getD (k+1) 0+4294967296*(4294967296*Y):=by
 have D:k<p.length:=(ν.1 J).1;have B:=gJ p k aa;have l:=lY (hd.take k);rw[A8,aat aa] at l;have C:val p/4294967296^k=val (p.drop k):=by
  rw[B,aaZ,acv (NK aa),abo l,Bn]
 rw[C,vO J];by_cases j:k+1<p.length
 .have R:p[k+1]? =γ p[k+1]:=ο j;rw[vO R,zt R];exact⟨val (p.drop (k+1+1)),aa⟩
 .rw[aap aa];refine⟨0,?_⟩;have:p.getD (k+1) 0=0:=by simp[List.getD,wo (Nat.not_lt.1 j)]
  rw[this];simp[val]
def N9{p k x s}(hd:Dig p)(hs:s<=32)(J:p[k]? =γ x):val p/2^s/4294967296^k%4294967296=(x+4294967296*p.getD (k+1) 0)/2^s%4294967296:=by
 obtain⟨Y,l⟩:=Jr hd J;rw[adj,pz,<-adj,l];have e:4294967296*(4294967296*Y)=2^s*(4294967296*(2^(32-s)*Y)):=by
  rw[abh (2^s),<-χ (2^s),wO hs]
 rw[e,adz _ _ (NK aa),Nat.add_mul_mod_self_left]
def RV{o p k x s}(hd:Dig p)(hs:s<=32)(j:o.length=k)(J:p[k]? =γ x)(h:val o=val p/2^s%4294967296^k):
  val (o++[(x+4294967296*p.getD (k+1) 0)/2^s%4294967296])=val p/2^s%4294967296^(k+1):=by
 rw[jI,j,h,<-N9 hd hs J,Nat.mod_pow_succ]
def Qo(t s:Nat):(t:Int)/2^s%4294967296=((t/2^s%4294967296:Nat):Int):=by
 have e:(t:Int)/2^s=((t/2^s:Nat):Int):=by rw[abp,Int.natCast_pow];rfl
 rw[e];rfl
def MJ(A)(n c s:Nat)(p w)(h:RM w A n c p)(hn:n<=1000000)(hs:s<32):
  CV 210 #[.slice A n c,.int .i64 (s:Int)] w fun v w'=>SlM (cu (val p/2^s)) v w':=by
 have Z:=aJ h.len;have P:=jk (n:Int) n rfl aa;go_enter func210,ntmps210;go_wp2;clear P;go_loopw [6] (fun i wr=>∃(k:Nat) (o:List Nat),k<=n/\i=.int .i64 k/\o.length=k/\val o=val p/2^s%4294967296^k/\gu wr w.heap.size (o++List.replicate (n-k) 0)/\Ext w wr) (fun i _=>n-(intOf i).toNat)
 case atStart=>exact⟨0,[],y5 _,rfl,rfl,by simp[val,Nat.mod_one],⟨by simpa using Blk.new w _ _,by simpa using Dig.replicate n⟩,Ext.new _ _⟩
 case round=>
  obtain⟨k,o,hk,rfl,V,hv,F,D⟩:=hrel;have HV:=aJ hv;clear hv;have C:=aJ V;clear V;by_cases B:k<n
  .obtain⟨U,x,rfl,_,J,H,K⟩:=(h.ext D).at_ B;have HX:=aJ J;clear J;obtain⟨z,_,_,Y,WO⟩:=F.at_ (k:=k) (by simp[C.o];omega);have Q:=aJ F;clear F;have j:∀y t:Nat,p.getD (k+1) 0=y->t=x+4294967296*y->val (o++[t/2^s%4294967296])=val p/2^s%4294967296^(k+1):=fun y t G h2=>by
    rw[h2,<-G];exact RV h.dg aa C.o HX.o HV.o
   have S:=aJ j;clear j;by_cases T:k+1<n
   .obtain⟨WI,y,e1,_,R,I,O⟩:=(h.ext D).at_ T;cases e1
    have W:wr.cell? ⟨U.block,U.off+(k+1),δ⟩=γ (.int .u32 (y:Int)):=by simpa[Addr.add] using O
    have l:=aJ (S.o y _ (zt R) rfl);clear S R;obtain⟨t,N⟩:∃t,t=x+4294967296*y:=⟨_,rfl⟩;have e1:bits .or .u64 (x:Int) ((y:Int)*4294967296)=(t:Int):=by rw[TL H I,N]
    have XQ:t<18446744073709551616:=aa;rw[<-N] at l;clear N;go_wp2;go_roundw
    case rel=>
     refine⟨k+1,o++[t/2^s%4294967296],aa,au,by simp[C.o],l.o,?_,D.setCell (κ _) _⟩;have G:=Q.set (k:=k) (Qo t s) (q8 _ aa);rwa[tq C.o B] at G
    case measure=>simp[intOf]<;>omega
   .have l:=aJ (S.o 0 x (by simp[List.getD,wo (show p.length<=k+1 by rw[Z.o];omega)]) aa);clear S;go_wp2;go_roundw
    case rel=>
     refine⟨k+1,o++[x/2^s%4294967296],aa,au,by simp[C.o],l.o,?_,D.setCell (κ _) _⟩;have G:=Q.set (k:=k) (Qo x s) (q8 _ aa);rwa[tq C.o B] at G
    case measure=>simp[intOf]<;>omega
  .obtain rfl:k=n:=aa;simp only[aaY,aa0,aaj] at F;(go_wp2_with fail);refine(iB _ _ _ o _ (F.rm C.o aa) hn).mono ?_;rintro e w1 ⟨v1,rfl,hR,M⟩;have L:val p/2^s<4294967296^k:=by
    have:=lY h.dg;rw[Z.o] at this;exact Γ (acx _ _) this
   rw[HV.o,aaU L] at hR;go_wp2;go_ret;exact⟨_,rfl,hR,D.trans M⟩
def iJ (S V u2 u1 v1 g rest:Nat):Prop:=g*v1+rest=u2*4294967296+u1/\S/V<=g
section
variable {S V P u2 u1 u0 v1 v0 g rest:Nat}
def iJ.first(t:rz S V P u2 u1 u0 v1 v0):iJ S V u2 u1 v1 ((u2*4294967296+u1)/v1) ((u2*4294967296+u1)%v1):=
 ⟨by rw[pz];exact abA _ _,t.first⟩
def iJ.le(t:rz S V P u2 u1 u0 v1 v0)(h:iJ S V u2 u1 v1 g rest):g<=4294967299:=by
 have B:=t.LF;have j:=h.1;have C:=t.top;have l:=t.l1;rcases Ha 4294967299 g with hc|hc
 .exfalso;have:4294967300*v1<=g*v1:=q9 _ hc;omega
 .exact hc
def afF(t:rz S V P u2 u1 u0 v1 v0)(h:iJ S V u2 u1 v1 g rest)(l:4294967296<=g):iJ S V u2 u1 v1 (g-1) (rest+v1):=by
 have j:=t.UZ;refine⟨?_,aa⟩;rw[<-h.1,Nat.sub_mul,aaE];have:1*v1<=g*v1:=q9 _ aa;omega
def afx(t:rz S V P u2 u1 u0 v1 v0)(h:iJ S V u2 u1 v1 g rest)(B:g*v0>u0+4294967296*rest):0<g/\iJ S V u2 u1 v1 (g-1) (rest+v1):=by
 have l:=t.above ((BP (u0:=u0) (v0:=v0) h.1).1 aa);have j:0<g:=Γ (y5 _) l;refine⟨j,?_,aa⟩;rw[<-h.1,Nat.sub_mul,aaE];have:1*v1<=g*v1:=q9 _ j;omega
def iJ.pass(t:rz S V P u2 u1 u0 v1 v0)(h:iJ S V u2 u1 v1 g rest)(hb:g<4294967296)(j:¬g*v0>u0+4294967296*rest):S/V<=g/\g<=S/V+1:=by
 refine⟨h.2,t.close hb ?_⟩;have:=mt (BP (u0:=u0) (v0:=v0) h.1).2 aa;omega
def afg(t:rz S V P u2 u1 u0 v1 v0)(h:iJ S V u2 u1 v1 g rest)(l:4294967296<=rest):g<4294967296/\S/V<=g/\g<=S/V+1:=by
 have B:=t.LF;have j:=h.1;have hb:g<4294967296:=by
  rcases Ha g 4294967296 with hc|hc
  .exact hc
  .exfalso;have:4294967296*v1<=g*v1:=q9 _ hc;omega
 refine⟨hb,h.pass t hb ?_⟩;have:=uo hb t.l0;omega
end
def Jo(S V P u2 u1 u0 v1 v0 w)(t:rz S V P u2 u1 u0 v1 v0):
  Calls prog 207 #[.int .u64 (u2:Int),.int .u64 (u1:Int),.int .u64 (u0:Int),.int .u64 (v1:Int),.int .u64 (v0:Int)] w fun e w'=>(∃g:Nat,e=.returned (.int .u64 (g:Int))/\g<4294967296/\S/V<=g/\g<=S/V+1)/\w=w':=by
 have Z:=t.m2;have K:=t.m1;have U:=t.m0;have L:=t.l1;have T:=t.l0;have Yd:=t.top;have I:=aJ (iJ.first t);obtain⟨hd,C⟩:∃hd,hd=u2*4294967296+u1:=⟨_,rfl⟩;rw[<-C] at I;have XR:hd<18446744073709551616:=aa;have e0:bits .or .u64 ((u2:Int)*4294967296) (u1:Int)=(hd:Int):=by rw[or_hi Z K,C];omega
 have Yn:=aJ C;clear C;have X8:1<=v1:=aa;have Yo:(0:Int)<=(hd:Int)/(v1:Int):=acw aa aa;have Yc:(hd:Int)/(v1:Int)<=18446744073709551615:=by
  have:=acx hd v1;rw[<-abp];omega
 go_enter func207,ntmps207;go_wp2;clear e0;go_loop [11,12] (fun R rv=>∃g rest:Nat,R=.int .u64 (g:Int)/\rv=.int .u64 (rest:Int)/\rest<4294967296/\iJ S V u2 u1 v1 g rest) (fun R _=>(intOf R).toNat)
 case atStart=>exact⟨hd/v1,hd%v1,rfl,rfl,abn (q8 _ aa) L,I.o⟩
 case round=>
  obtain⟨g,rest,rfl,rfl,hr,W⟩:=hrel;have Yp:=iJ.le t W;have O:=aJ W;clear W;by_cases hb:4294967296<=g
  .have Y:(4294967296:Int)<=(g:Int):=aa;have j:=aJ (afF t O.o hb);by_cases M:4294967296<=rest+v1
   .have F:(4294967296:Int)<=(rest:Int)+(v1:Int):=aa;go_wp2;go_ret;obtain⟨s1,s2,s3⟩:=afg t j.o M;exact⟨⟨g-1,aM aa,s1,s2,s3⟩,rfl⟩
   .have F:decide ((4294967296:Int)<=(rest:Int)+(v1:Int))=ζ:=by rw[Z4];omega
    have J:decide (4294967296<=rest+v1)=ζ:=υ M;have B:=aJ M;clear M;go_wp2;go_round
    case rel=>exact⟨g-1,rest+v1,au,au,by have:=B.o;omega,j.o⟩
    case measure=>simp[intOf]<;>omega
  .obtain⟨D,l⟩:∃D,D=g*v0:=⟨_,rfl⟩;obtain⟨z,G⟩:∃z,z=u0+4294967296*rest:=⟨_,rfl⟩;have XQ:D<=18446744065119617025:=by rw[l];exact uo aa T
   have e1:IntKind.u64.wrap ((g:Int)*(v0:Int))=(D:Int):=by rw[aaN _ Abx,l];simp
   have e2:bits .or .u64 ((rest:Int)*4294967296) (u0:Int)=(z:Int):=by rw[or_hi hr U,G]
   have Yq:z<18446744073709551616:=aa;have Y:decide ((4294967296:Int)<=(g:Int))=ζ:=by rw[Z4];omega
   have WQ:decide (4294967296<=g)=ζ:=υ hb;have HB:=aJ hb;by_cases hc:z<D
   .obtain⟨N,H⟩:=afx (u0:=u0) (v0:=v0) t O.o (by rw[<-l,<-G];exact hc);have j:=aJ H;clear H;clear l G hb;have Q:(z:Int)<(D:Int):=aa;clear hc;by_cases M:4294967296<=rest+v1
    .have F:(4294967296:Int)<=(rest:Int)+(v1:Int):=aa;have B:=aJ M;clear M;go_wp2;go_ret;obtain⟨s1,s2,s3⟩:=afg t j.o B.o;exact⟨⟨g-1,aM aa,s1,s2,s3⟩,rfl⟩
    .have F:decide ((4294967296:Int)<=(rest:Int)+(v1:Int))=ζ:=by rw[Z4];omega
     have J:decide (4294967296<=rest+v1)=ζ:=υ M;have B:=aJ M;clear M;go_wp2;go_round
     case rel=>exact⟨g-1,rest+v1,au,au,by have:=B.o;omega,j.o⟩
     case measure=>simp[intOf]<;>omega
   .obtain⟨s2,s3⟩:=iJ.pass (u0:=u0) (v0:=v0) t O.o aa (by rw[<-l,<-G];omega);have S2:=aJ s2;have S3:=aJ s3;clear s2 s3 l G hb;have Q:(D:Int)<=(z:Int):=aa;clear hc;go_wp2;go_ret;exact⟨⟨g,rfl,by have:=HB.o;omega,S2.o,S3.o⟩,rfl⟩
def gu.sub{w g j m c p}(h:gu w g p)(C:j+m=p.length)(hc:m<=c)(l:c<=9223372036854775807):RM w (γ ⟨g,j,δ⟩) m c (p.drop j):=by
 refine⟨⟨by rw[qw,abM];omega,fun _=>⟨_,rfl,h.1.lt,fun i u B=> ?_⟩⟩,h.2.drop j,hc,l⟩;rw[add_plain,h.1.cell];simp only[mg,Nq,RS,abE] at B;obtain⟨x,J,rfl⟩:=B;simpa using oK J
def PG{g}(h:g<18446744073709551616):(cu g).length<=2:=eG (k:=2) aa
def kR{l}(h:Dig l)(k):val (l.take k)<4294967296^k:=by
 have j:=lY (h.take k);exact π j (Ab aa (by rw[A8];omega))
theorem kL{p q}:decide (mV p q<0)=decide (p<q):=by
 unfold mV;by_cases h:p<q
 .simp[h]
 .by_cases j:q<p<;>simp[h,j]
def MZ(A B)(n m c d g:Nat)(p v:List Nat)(w)(C:RM w A m c p)(L:RM w B n d v)(hn:n<=10000)(K:n+1<=m)(G:g<18446744073709551616):
  CE 208 #[.slice A m c,.slice B n d,.int .u64 (g:Int)] w (.bool (decide (val (p.take (n+1))<val v*g))):=by
 have Y:=C.nc;have D:=C.cm;have I:m<=9223372036854775807:=aa;obtain⟨J,_,rfl,_⟩:=C.at_ (k:=0) aa;go_enter func208,ntmps208;(go_wp2_with fail);refine(pX g _ G).mono ?_;rintro e w1 ⟨v1,rfl,⟨A1,n1,c1,rfl,H⟩,M⟩;have W:n1<=100000:=by have:=H.len;have:=PG G;omega
 (go_wp2_with fail);refine(Cr B A1 n n1 d c1 _ _ _ (L.ext M) H aa W).mono ?_;rintro e w2 ⟨S,rfl,⟨A2,n2,c2,rfl,l⟩,P⟩;rw[aL] at l;(go_wp2_with fail);have P:=M.trans P;refine(iB (γ J) (n+1) c (p.take (n+1)) _ ((C.ext P).take K aa D) aa).mono ?_;rintro e R ⟨Q,rfl,⟨A3,n3,c3,rfl,F⟩,j⟩;(go_wp2_with fail);refine(il A3 A2 n3 n2 c3 c2 _ _ _ F (l.ext j) (bL _) (bL _)).mono ?_;rintro e O ⟨rfl,N⟩;go_wp2;go_ret;refine⟨aS ?_,(P.trans j).trans N⟩;rw[aL,aL,kL]
def Over (U l B:List Nat) (j i:Nat):Prop:=
 l.length=U.length/\l.take j=U.take j/\(∀t,j+i<=t->l[t]? =U[t]?)/\val l+4294967296^j*val ((U.drop j).take i)=val U+4294967296^j*val (B.take i)
def afz(U l j):Over U U l j 0:=⟨rfl,rfl,fun _ _=>rfl,ag⟩
def Over.step{U D B j i x y}(h:Over U D B j i)(J:U[j+i]? =γ x)(R:val (B.take (i+1))=val (B.take i)+4294967296^i*y):Over U (D.set (j+i) y) B j (i+1):=by
 obtain⟨H,G,F,K⟩:=h;refine⟨by rw[abd];exact H,?_,fun t I=> ?_,?_⟩
 .rw[abu aa];exact G
 .rw[aao aa];exact F t aa
 .have C:D[j+i]? =γ x:=by rw[F _ (κ _)];exact J
  have L:=pU (y:=y) C;have l:(U.drop j)[i]? =γ x:=by rw[RS];exact J
  rw[bG l,R,Δ,Δ,<-χ,<-χ,<-aaD];omega
def Sq{j:List Nat}{i}(h:j.length<=i):val (j.take (i+1))=val (j.take i)+4294967296^i*0:=by rw[uM h];rfl
def MP(B gU j n m c d g U v w)(hU:gu w gU U)(hB:RM w B n d v)(hn:n<=10000)(hm:n+1<=m)(Xl:j+m=U.length)(Y:m<=c)(WS:c<=9223372036854775807)(hg:g<18446744073709551616)(D:val v*g<=val ((U.drop j).take (n+1))):
  Calls prog 209 #[.slice (γ ⟨gU,j,δ⟩) m c,.slice B n d,.int .u64 (g:Int)] w fun e w'=>e=.returned (.tuple #[])/\∃U',gu w' gU U'/\U'.length=U.length/\U'.take j=U.take j/\val U'+4294967296^j*(val v*g)=val U/\Only gU w w':=by
 have G:=hU.sub Xl Y WS;have WY:m<=9223372036854775807:=aa;have WJ:=aJ D;clear D;go_enter func209,ntmps209;(go_wp2_with fail);refine(iB (γ ⟨gU,j,δ⟩) (n+1) c ((U.drop j).take (n+1)) _ (G.take hm aa WS) aa).mono ?_;rintro e w1 ⟨v1,rfl,⟨A1,n1,c1,rfl,Xc⟩,M⟩;(go_wp2_with fail);refine(pX g _ hg).mono ?_;rintro e w2 ⟨v2,rfl,⟨A2,n2,c2,rfl,Xy⟩,P⟩;have Xe:n2<=100000:=by have:=Xy.len;have:=PG hg;omega
 have L:=P;have P:=M.trans P;(go_wp2_with fail);refine(Cr B A2 n n2 d c2 _ _ _ (hB.ext P) Xy aa Xe).mono ?_;rintro e w3 ⟨v3,rfl,⟨A3,n3,c3,rfl,WO⟩,WF⟩;rw[aL] at WO;have V:=P.trans WF;have S:=Xc.ext (L.trans WF);have WH:=S.len;have WP:=WO.len;have T:n3<=n1:=by
  have h1:=eG (n:=val v*g) (k:=n1) (Γ WJ.o (dS aa));omega
 have W:n1<=n+1:=by
  have h1:=eG (kR G.dg (n+1));omega
 (go_wp2_with fail);refine(vN A1 A3 n1 n3 c1 c3 _ _ _ S WO aa T (by rw[aL,aL];exact WJ.o)).mono ?_;rintro e w4 ⟨v4,rfl,⟨⟨A4,n4,c4,rfl,WM⟩,WL⟩,N⟩;rw[aL,aL] at WM;have N:=V.trans N;have Xj:=hU.1.lt;have WG:∀ad,A4=γ ad->ad.block≠gU:=fun ad e=>by
  have:=WL ad.block (by rw[e];rfl);have:=V.size;omega
 have WR:=aJ WG;clear WG WL;have O:=WM.len;have Xa:n4<=n+1:=by
  have h1:=eG (n:=val ((U.drop j).take (n+1))-val v*g) (k:=n+1) (Γ (Nat.sub_le _ _) (kR G.dg (n+1)));omega
 have Xd:n4<=9223372036854775807:=aa;have WK:=aJ O;have Xh:=aJ Xl;have HU:=aJ (show gu w4 gU U from hU.far N);clear WH WP O Xl hU G;obtain⟨wl,WN⟩:∃wl,wl=cu (val ((U.drop j).take (n+1))-val v*g):=⟨_,rfl⟩;rw[<-WN] at WM WK;have WZ:=aJ WN;clear WN;have W9:=WM.dg;have WX:=aJ WM;clear WM;have Xf:=WX.cm;go_wp2;go_loopw [7] (fun iv wr=>∃(i:Nat) (U':List Nat),i<=n+1/\iv=.int .i64 i/\Over U U' wl j i/\gu wr gU U'/\Only gU w4 wr) (fun iv _=>n+1-(intOf iv).toNat)
 case atStart=>exact⟨0,U,aa,rfl,afz _ _ _,HU.o,Only.refl _ _⟩
 case round=>
  obtain⟨i,U',hi,rfl,WQ,F,WT⟩:=hrel;have H:=aJ WQ;clear WQ;by_cases WE:i<=n
  .have Xb:j+i<U'.length:=by rw[H.o.1,<-Xh.o];omega
   obtain⟨x',_,_,K,Yg⟩:=F.at_ Xb;obtain⟨x,J⟩:∃x,U[j+i]? =γ x:=⟨_,ο (by rw[<-Xh.o];omega)⟩;have HX:=aJ J;clear J;have Q:=aJ F;clear F;have Xi:∀u,(wr.setCell ⟨gU,j+i,δ⟩ u).cell? ⟨gU,j+i,δ⟩=γ u:=fun u=>by
    have:=(Q.o.1.O5 (i:=j+i) u).cell (j+i);rw[this];have Z:j+i<(mg U').length:=by rw[qw];exact Xb
    simp[Z]
   have XH:∀u,(wr.setCell ⟨gU,j+i,δ⟩ u).frozen? ⟨gU,j+i,δ⟩=ζ:=fun u=>(Q.o.1.O5 (i:=j+i) u).frozen (j+i);clear Xb;by_cases O:i<n4
   .obtain⟨b4,o4,WV,_,WU⟩:=WX.rd.plain aa;have C:=WR.o _ WV;subst WV;obtain⟨WI,y,e1,_,R,I,_⟩:=WX.at_ O;have WW:∀u,(wr.setCell ⟨gU,j+i,δ⟩ u).cell? ⟨b4,o4+i,δ⟩=γ (.int .u32 (y:Int)):=fun u=>(WT.trans (Only.set _ _ _ _)).cell_ (WU i _ (oK R)) C;have HY:=aJ (bG R);clear R WU e1;go_wp2;go_roundw
    case rel=>
     refine⟨i+1,U'.set (j+i) y,aa,au,H.step HX.o HY.o,?_,(WT.trans (Only.set _ _ _ _)).trans (Only.set _ _ _ _)⟩;have h1:=(Q.set (k:=j+i) (d:=0) (z:=0) rfl aa).set (k:=j+i) (d:=y) rfl I;rwa[List.set_set] at h1
    case measure=>simp[intOf]<;>omega
   .go_wp2;go_roundw
    case rel=>
     refine⟨i+1,U'.set (j+i) 0,aa,au,H.step HX.o (Sq (by rw[WK.o];omega)),?_,WT.trans (Only.set _ _ _ _)⟩;exact Q.set (k:=j+i) (d:=0) (z:=0) rfl aa
    case measure=>simp[intOf]<;>omega
  .obtain rfl:i=n+1:=aa;go_wp2
   go_end0
   refine⟨rfl,U',F,H.o.1,H.o.2.1,?_,(aff N).trans WT⟩;have h1:=H.o.2.2.2;rw[ω (l:=wl) (by rw[WK.o];omega),WZ.o,aL] at h1;have h2:=WJ.o;have h3:4294967296^j*val ((U.drop j).take (n+1))=4294967296^j*(val ((U.drop j).take (n+1))-val v*g)+4294967296^j*(val v*g):=by
    rw[<-Δ,Nat.sub_add_cancel h2]
   omega
def zN{a n}(h:(cu a).length=n)(j:n≠0):4294967296^(n-1)<=a:=by
 have:=Jf (bL a) (by intro e;rw[e] at h;simp at h;omega);rwa[aL,h] at this
def IY(A B n m c d a b w)(l:RM w A n c (cu a))(D:RM w B m d (cu b))(j:a<b):
  Calls prog 180 #[.slice A n c,.slice B m d] w fun e w'=>∃q r,e=.returned (.tuple #[q,r])/\SlM (cu (a/b)) q w'/\SlM (cu (a%b)) r w'/\Ext w w':=by
 have C:decide (mV a b<0)=ε:=by rw[kL];exact Ξ j
 go_enter ad9,adI;(go_wp2_with fail);refine(il A B n m c d _ _ _ l D (bL _) (bL _)).mono ?_;rintro e w1 ⟨rfl,M⟩;rw[aL,aL];go_wp2
 go_ret2
 refine⟨_,_,rfl,⟨δ,0,0,rfl,?_⟩,⟨A,n,c,rfl,?_⟩,M⟩
 .rw[abo j,iw];exact afe
 .rw[aaU j];exact l.ext M
def Iy(A B n c d a b w)(Q:RM w A n c (cu a))(N:RM w B 1 d (cu b))(U:b<=a)(hn:n<=1000000):
  Calls prog 180 #[.slice A n c,.slice B 1 d] w fun e w'=>∃q r,e=.returned (.tuple #[q,r])/\SlM (cu (a/b)) q w'/\SlM (cu (a%b)) r w'/\Ext w w':=by
 have T:decide (mV a b<0)=ζ:=by rw[kL];exact υ aa
 obtain⟨R,x,rfl,_,J,H,K⟩:=N.at_ (k:=0) aa;have Z:=N.len;have C:cu b=[x]:=by
  match hd:cu b,Z,J with
  |[y],_,h=>simp at h;rw[h]
 have hb:b=x:=by rw[<-aL b,C];simp[val]
 subst hb;have F:0<b:=by
  exact AbA
 have V:=aJ K;clear K J Z C;go_enter ad9,adI;(go_wp2_with fail);refine(il A (γ R) n 1 c d _ _ _ Q N (bL _) (bL _)).mono ?_;rintro e w1 ⟨rfl,M⟩;rw[aL,aL];have O:w1.cell? R=γ (.int .u32 (b:Int)):=M.cell_ V.o;(go_wp2_with fail);refine(Jn A n c b _ _ (Q.ext M) hn F H).mono ?_;rintro e w2 ⟨v2,rfl,G,P⟩;rw[aL] at G;rw[aL];have D:a%b<4294967296:=abn (q8 _ F) H;generalize S:a%b=r at*
 have L:=aJ S;clear S;(go_wp2_with fail);refine(iB _ 1 1 [r] _ (RM.blk (Blk.new _ _ _) (Dig.one D) rfl aa) aa).mono ?_;rintro e Y ⟨W,rfl,I,l⟩;have j:=G.ext ((Ext.new w2 _).trans l);go_wp2
 go_ret2
 refine⟨_,_,rfl,j,by rw[L.o];simpa[val] using I,(M.trans P).trans ((Ext.new w2 _).trans l)⟩
def U2{y}(h:y<4294967296):y&&&2147483648=0↔y<2147483648:=by
 have hb:y.testBit 31=decide (y/2^31%2=1):=Nat.testBit_eq_decide_div_mod_eq;constructor
 .intro l;have j:(y&&&2^31).testBit 31=ζ:=by rw[show y&&&2^31=0 from l];simp
  rw[Nat.testBit_and,Nat.testBit_two_pow_self,adJ,hb,Z4] at j;omega
 .intro l;have j:y.testBit 31=ζ:=by rw[hb,Z4];omega
  refine Nat.eq_of_testBit_eq fun i=> ?_;rw[show(2147483648:Nat)=2^31 from rfl,Nat.testBit_and,Nat.testBit_two_pow];by_cases hi:31=i
  .subst hi;simp[j]
  .simp[hi]
def Vv{y:Nat}(h:y<4294967296):(bits .and .u32 (y:Int) 2147483648==0)=decide (y<2147483648):=by
 have e:bits .and .u32 (y:Int) ((2147483648:Nat):Int)=((y&&&2147483648:Nat):Int):=
  (bits_nat .u32 32 aj ad8 y 2147483648 aa aa).1
 rw[show(2147483648:Int)=((2147483648:Nat):Int) from rfl,e];have j:=U2 h;generalize y&&&2147483648=z at j;by_cases R:y<2147483648
 .rw[j.2 R,Ξ R];rfl
 .rw[υ R];have:z≠0:=fun e=>R (j.1 e);simp;exact this

structure FO (b n s:Nat) (x:Nat):Prop where
 len:(cu b).length=n+2
 top:(cu b)[n+1]? =γ x
 lo:2147483648<=x*2^s
 hi:x*2^s<4294967296
 hs:s<32
def FO.lt{b n s x}(h:FO b n s x):b*2^s<4294967296^(n+2):=by
 have C:=bG h.top;rw[jY (by rw[h.len];omega),aL] at C;have F:=kR (pE b) (n+1);have D:x*2^s+2^s<=4294967296:=by
  have e:=wO (show s<=32 by have:=h.hs;omega);have l:=h.hi;rw[<-e,pz x] at l;have B:=ab0 l;have j:2^s*(x+1)<=2^s*2^(32-s):=ib _ B;rw[e,Δ,aav,pz] at j;exact j
 have l:b*2^s<4294967296^(n+1)*(x+1)*2^s:=by
  refine aa6 ?_ (NK aa);rw[Δ,aav];omega
 have B:4294967296^(n+1)*(x+1)*2^s=4294967296^(n+1)*(x*2^s+2^s):=by rw[χ,Zb,aaE]
 have j:4294967296^(n+1)*(x*2^s+2^s)<=4294967296^(n+1)*4294967296:=ib _ D;rw[show n+2=(n+1)+1 from rfl,y8];omega
def FO.ge{b n s x}(h:FO b n s x):2147483648*4294967296^(n+1)<=b*2^s:=by
 have j:=bG h.top;rw[jY (by rw[h.len];omega),aL] at j;have B:4294967296^(n+1)*x*2^s<=b*2^s:=q9 _ aa;have l:4294967296^(n+1)*2147483648<=4294967296^(n+1)*(x*2^s):=ib _ h.lo;rw[<-χ] at l;omega
def FO.digits{b n s x q}(h:FO b n s x)(hq:q.length=n+3)(hd:Dig q)(hv:val q=b*2^s):val (q.take (n+2))=b*2^s/\∃v1 v0,(q.take (n+2))[n+1]? =γ v1/\(q.take (n+2))[n]? =γ v0/\2147483648<=v1:=by
 have B:=gJ q (n+2) aa;have G:=h.lt;have D:val (q.drop (n+2))=0:=by
  rcases Be (val (q.drop (n+2))) with j|j
  .exact j
  .have:4294967296^(n+2)*1<=4294967296^(n+2)*val (q.drop (n+2)):=ib _ j;omega
 have l:val (q.take (n+2))=b*2^s:=by rw[D] at B;omega
 have T:(q.take (n+2)).length=n+2:=by rw[A8];omega
 refine⟨l,_,_,ο aa,ο aa,?_⟩;have C:(q.take (n+2))[n+1]? =γ (q.take (n+2))[n+1]:=ο aa;have F:=bG C;rw[jY aa,l] at F;have H:=kR (hd.take (n+2)) (n+1);have I:=h.ge;generalize (q.take (n+2))[n+1]=v1 at*
 rcases Ha v1 2147483648 with hc|hc
 .exfalso;have:4294967296^(n+1)*(v1+1)<=4294967296^(n+1)*2147483648:=ib _ hc;rw[Δ,aav] at this;omega
 .exact hc
def mr (U qs:List Nat) (N V k:Nat):Prop:=val U+V*(4294967296^k*val qs)=N/\val (U.drop k)<V
def LB{U j x V}(hd:Dig U)(J:U[j]? =γ x)(h:val (U.drop (j+1))<V):val (U.drop j)<4294967296*V:=by
 rw[vO J];have:=hd.at_ J;have l:4294967296*(val (U.drop (j+1))+1)<=4294967296*V:=ib _ h;omega
def mr.step{U l qs N V j q}(h:mr U qs N V (j+1))(G:j<=U.length)(Z:l.length=U.length)(B:l.take j=U.take j)(hv:val l+4294967296^j*(V*q)=val U)(hq:q=val (U.drop j)/V)(hV:0<V):mr l (q::qs) N V j:=by
 have I:=gJ U j G;have D:=gJ l j aa;rw[B] at D;have F:4294967296^j*(val (l.drop j)+V*q)=4294967296^j*val (U.drop j):=by rw[Δ];omega
 have L:=abk (NK aa) F;refine⟨?_,?_⟩
 .rw[<-h.1,<-hv,val,Δ,Δ,y8];have J:V*(4294967296^j*q)=4294967296^j*(V*q):=abh _ _ _;have K:V*(4294967296^j*(4294967296*val qs))=V*(4294967296^j*4294967296*val qs):=by rw[χ (4294967296^j)]
  omega
 .have C:=abA (val (U.drop j)) V;have H:=q8 (val (U.drop j)) hV;rw[<-hq] at C;omega
def afL{U N V k}(h:val U=N)(j:val (U.drop k)<V):mr U [] N V k:=⟨by simp[val,h],j⟩
def mr.done{U qs N V}(h:mr U qs N V 0):val qs=N/V/\val U=N%V:=by
 obtain⟨l,j⟩:=h;simp only[Nat.pow_zero,aaE,φ] at l j;have hV:0<V:=aa;rw[<-l];constructor
 .rw[aaZ,acv hV,abo j,Bn]
 .rw[aaZ,adh,aaU j]
def Ma{U v j n v1 v0}(D:Dig U)(hv:Dig v)(T:j+n+3<=U.length)(C:v.length=n+2)(K:v[n+1]? =γ v1)(J:v[n]? =γ v0)(L:2147483648<=v1)(G:val (U.drop (j+1))<val v):
  ∃u2 u1 u0,U[j+n+2]? =γ u2/\U[j+n+1]? =γ u1/\U[j+n]? =γ u0/\rz (val (U.drop j)) (val v) (4294967296^n) u2 u1 u0 v1 v0:=by
 have H:U[j+n+2]? =γ U[j+n+2]:=ο aa;have I:U[j+n+1]? =γ U[j+n+1]:=ο aa;have F:U[j+n]? =γ U[j+n]:=ο aa;have B:U[j]? =γ U[j]:=ο aa;have hS:=LB D B G;have hV:=lY hv;rw[C] at hV;have l:val (U.drop j)<4294967296^(n+3):=by
  rw[show n+3=(n+2)+1 from rfl,y8,pz];have:4294967296*val v<=4294967296*4294967296^(n+2):=ib _ (aan hV);omega
 refine⟨_,_,_,H,I,F,NK aa,?_,?_,L,hv.at_ K,hv.at_ J,D.at_ H,D.at_ I,D.at_ F,hS⟩
 .exact Ww (D.drop j) l (by rw[RS];exact H) (by rw[RS];exact I) (by rw[RS];exact F)
 .exact WA hv C K J
def AY{a b s}:a*2^s/(b*2^s)=a/b:=adr _ _ (NK aa)
def Bb{a b s}:a*2^s%(b*2^s)=a%b*2^s:=Nat.mul_mod_mul_right _ _ _
def Fp{U n}(hd:Dig U)(hn:n<=U.length)(h:val U<4294967296^n):val (U.take n)=val U:=by
 have l:=gJ U n hn;have B:val (U.drop n)=0:=by
  rcases Be (val (U.drop n)) with j|j
  .exact j
  .have:4294967296^n*1<=4294967296^n*val (U.drop n):=ib _ j;omega
 rw[B] at l;omega
end Go.Proofs.YtbfnfkppkmpieaaGreat
