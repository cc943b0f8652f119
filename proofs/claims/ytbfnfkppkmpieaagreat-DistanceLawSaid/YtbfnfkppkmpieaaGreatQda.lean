import Derived.WalkKit
import Derived.WalkSpells
import Derived.WalkLawsBesides
import Derived.Lib.Hide
import Derived.Deep.QuietTactic
import Derived.BigQuiet
import Derived.Deep.AppendLies
import Derived.Deep.Draws
import Derived.Laws.OwnMore
import Derived.Laws.Rows
import Derived.KernelRfl
import Derived.Laws.BytesArg
import Derived.StillTailTactics
import Derived.OrdersHeld
import Derived.Test.YtbfnfkppkmpieaaGreatProg
import Derived.Lib.EndianBits
import Derived.Deep.CutBlock
import Derived.Deep.DeepCutAuto
import Derived.Deep.LoopGhost
import Derived.Shelf.Small.Bits
import Derived.Lib.ItoaNum
import Derived.Deep.WholeRow
import Derived.WalkMore
import Derived.Laws.CopyRow
import Derived.Deep.MidRow
import Derived.Deep.AppendSrc
import Derived.Lib.Strings
import Derived.Maps.OwnOps
import Derived.Maps.Views
import Derived.StringKeys
import Derived.Test.YtbfnfkppkmpieaaGreatChecked
import GoSem.Claim
import GoSem.ClaimJoined
import GoSem.ClaimMapViews
import Derived.JoinedTies
import Derived.Test.YtbfnfkppkmpieaaGreatRows
import Derived.ProofKit
import Derived.Lib.SmallJoins
import Derived.Deep.Slices
import Derived.Deep.Fields
import Derived.ChangeSame
import Derived.Deep.Strs
import Derived.Deep.Grids
set_option linter.unusedVariables false
set_option linter.unusedSimpArgs false
set_option maxHeartbeats 25600000
set_option maxRecDepth 200000
set_option linter.defProp false
namespace Go.Proofs
open Go.Shelf
def Tryz.lays128_ren : Go.Shelf.Ren := ⟨fun | 128 => 227 | n => n, fun | 51 => 208 | 3 => 3 | 4 => 4 | 46 => 236 | 5 => 5 | 9 => 9 | n => n, fun | n => n⟩
theorem Tryz.lays128 : Go.Proofs.Lays.n128 Tryz.prog Tryz.lays128_ren := {
 mixed := by kernel_rfl
 f128 := Tryz.func227.trans (congrArg some (by kernel_rfl))
 t3 := Tryz.underlying3
 a3 := Tryz.isAgg3
 z3 := Tryz.sizeOf3
 v3 := Tryz.zeroValue3
 t4 := Tryz.underlying4
 a4 := Tryz.isAgg4
 z4 := Tryz.sizeOf4
 v4 := Tryz.zeroValue4
 t5 := Tryz.underlying5
 a5 := Tryz.isAgg5
 z5 := Tryz.sizeOf5
 v5 := Tryz.zeroValue5
 t9 := Tryz.underlying9
 a9 := Tryz.isAgg9
 z9 := Tryz.sizeOf9
 v9 := Tryz.zeroValue9
 t46 := Tryz.underlying236
 a46 := Tryz.isAgg236
 z46 := Tryz.sizeOf236
 v46 := Tryz.zeroValue236
 t51 := Tryz.underlying208
 a51 := Tryz.isAgg208
 z51 := Tryz.sizeOf208
 v51 := Tryz.zeroValue208 }
theorem Tryz.bits_Len32 (x : Int) (w : World) (h0 : 0 ≤ x) (h1 : x ≤ 4294967295) :
   Calls Tryz.prog 227 #[.int .u32 x] w fun e w' => e = .returned (.int .i64 (Lib.bitLen x.toNat)) ∧ w' = w := Any.bits_Len32 Tryz.lays128 x w h0 h1
def Tryz.lays133_ren : Go.Shelf.Ren := ⟨fun | 133 => 219 | 128 => 227 | n => n, fun | 51 => 208 | 3 => 3 | 4 => 4 | 46 => 236 | 5 => 5 | 9 => 9 | n => n, fun | n => n⟩
theorem Tryz.lays133 : Go.Proofs.Lays.n133 Tryz.prog Tryz.lays133_ren := {
 mixed := by kernel_rfl
 f128 := Tryz.func227.trans (congrArg some (by kernel_rfl))
 f133 := Tryz.func219.trans (congrArg some (by kernel_rfl))
 t3 := Tryz.underlying3
 a3 := Tryz.isAgg3
 z3 := Tryz.sizeOf3
 v3 := Tryz.zeroValue3
 t4 := Tryz.underlying4
 a4 := Tryz.isAgg4
 z4 := Tryz.sizeOf4
 v4 := Tryz.zeroValue4
 t5 := Tryz.underlying5
 a5 := Tryz.isAgg5
 z5 := Tryz.sizeOf5
 v5 := Tryz.zeroValue5
 t9 := Tryz.underlying9
 a9 := Tryz.isAgg9
 z9 := Tryz.sizeOf9
 v9 := Tryz.zeroValue9
 t46 := Tryz.underlying236
 a46 := Tryz.isAgg236
 z46 := Tryz.sizeOf236
 v46 := Tryz.zeroValue236
 t51 := Tryz.underlying208
 a51 := Tryz.isAgg208
 z51 := Tryz.sizeOf208
 v51 := Tryz.zeroValue208 }
theorem Tryz.bits_LeadingZeros32 (x : Int) (w : World) (h0 : 0 ≤ x) (h1 : x ≤ 4294967295) :
   Calls Tryz.prog 219 #[.int .u32 x] w fun e w' => e = .returned (.int .i64 (32 - (Lib.bitLen x.toNat : Int))) ∧ w' = w := Any.bits_LeadingZeros32 Tryz.lays133 x w h0 h1
end Go.Proofs
namespace Go.Proofs.YtbfnfkppkmpieaaGreat
open Go.RowKit
open Go.Proofs.Tryz
open Option renaming some->γ,none->δ
open Bool renaming true->ε,false->ζ
open Inhabited renaming default->η
def θ:=@if_neg
def ι:=@if_pos
def κ:=@Nat.le_refl
def μ:=@List.getElem?_eq_some_iff
def ν:=@List.getElem?_eq_getElem
def ξ:=@List.cons_append
def ο:=@List.nil_append
def π:=@Nat.lt_of_lt_of_le
def ρ:=@List.drop_succ_cons
def σ:=@wpList_load_mid
def τ:=@wpQuiet_nil
def υ:=@Bool.and_eq_true
def φ:=@List.getD_eq_getElem?_getD
def χ:=@List.drop_zero
def ψ:=@List.mem_cons
def ω:=@Nat.mul_assoc
def Γ:=@decide_eq_false
def Δ:=@Nat.mul_add
def Θ:=@decide_eq_true_eq
def Λ:=@List.take_of_length_le
def Ξ:=@List.getElem?_toArray
def Ω:=@List.getElem?_append_left
def ib:=@List.mem_cons_of_mem
def kC:=@Proofs.Tryz.underlying44
def lh:=@Nat.mul_le_mul_left
def nk:=@Nat.le_trans
def nC:=@List.length_cons
def nG:=@List.getElem?_append_right
def nH:=@Nat.lt_of_le_of_lt
def nS:=@List.size_toArray
def nV:=@Int.mul_ne_zero
def pq:=@decide_eq_true
def pz:=@IntWalk.wrap64_in
def qa:=@List.setIfInBounds_toArray
def qb:=@Nat.mul_comm
def q8:=@List.length_append
def q9:=@List.mem_cons_self
def wo:=@List.all_eq_true
def xx:=@List.mem_of_getElem?
def Aa:=@Nat.mul_le_mul_right
def Ab:=@Nat.mod_lt
def Ad:=@if_true
def Be:=@List.getElem?_eq_none
def Bn:=@Proofs.Tryz.underlying102
def BB:=@Nat.pow_le_pow_right
def De:=@Nat.pow_succ
def Ej:=@Int.natAbs_mul
def Ex:=@Nat.zero_le
def Ha:=@List.append_assoc
def I4:=@Nat.gcd_dvd_left
def I5:=@List.getElem?_map
def I6:=@Int.toNat_natCast
def Na:=@Nat.eq_zero_or_pos
def Nq:=@Nat.add_zero
def NK:=@List.eq_nil_of_length_eq_zero
def PI:=@List.length_take
def RS:=@List.not_mem_nil
def Y0:=@Bool.false_eq_true
def Zb:=@List.getElem?_take_of_lt
def Z4:=@List.set_cons_succ
def Z5:=@List.set_cons_zero
def Z6:=@List.mem_singleton
def aaa:=@Nat.add_mul
def aab:=@Nat.lt_or_ge
def aac:=@Nat.mul_le_mul
def aad:=@List.mem_map
def aae:=@Int.ofNat_dvd_left
def aaf:=@List.getElem?_drop
def aag:=@List.mem_append
def aah:=@Nat.pow_pos
def aai:=@Nat.dvd_trans
def aaj:=@List.append_nil
def aak:=@bodyPost_ret
def aal:=@Nat.gcd_dvd_right
def aam:=@Proofs.Tryz.underlying45
def aan:=@Rat.intCast_mul
def aao:=@List.take_succ_cons
def aap:=@List.ext_getElem?
def aaq:=@results_none
def aar:=@Nat.mul_one
def aas:=@Proofs.Tryz.underlying167
def aat:=@RowKit.Below.heap_alloc
def aau:=@Region.noSelect_spec
def aav:=@List.getElem?_set_ne
def aaw:=@Nat.zero_add
def aax:=@Array.getElem?_eq_none
def aay:=@Nat.one_mul
def aaz:=@List.mem_range
def aaA:=@World.ownsRow_nil
def aaB:=@Result.andThen_ok
def aaC:=@Option.some.injEq
def aaD:=@List.getElem?_range
def aaE:=@Nat.min_eq_left
def aaF:=@List.drop_eq_getElem_cons
def aaG:=@Sem.run_bind
def aaH:=@Nat.le_of_lt
def aaI:=@Nat.lt_succ_self
def aaJ:=@Nat.pow_add
def aaK:=@getD_replicate_false
def aaL:=@DataW.trod_struct
def aaM:=@List.length_map
def aaN:=@List.map_append
def aaO:=@Ne.symm
def aaP:=@List.mem_map_of_mem
def aaQ:=@List.drop_eq_nil_of_le
def aaR:=@Int.mul_assoc
def aaS:=@List.take_succ_eq_append_getElem
def aaT:=@Region.free_spec
def aaU:=@or_false
def aaV:=@Proofs.Tryz.underlying4
def aaW:=@Nat.div_lt_iff_lt_mul
def aaX:=@Rat.mul_nonneg
def aaY:=@mem_ready
def aaZ:=@Lib.run_eql_slice_nil
def aa0:=@Nat.zero_mul
def aa1:=@bodyPost_end
def aa2:=@decide_eq_false_iff_not
def aa3:=@World.ownsRow.alloc
def aa4:=@Sem.run_pure
def aa5:=@Nat.mul_lt_mul_of_pos_right
def aa6:=@Nat.add_comm
def aa7:=@Nat.sub_self
def aa8:=@Nat.gcd_comm
def aa9:=@Proofs.Tryz.underlying187
def aba:=@Rat.intCast_add
def abb:=@List.mem_filter
def abd:=@Array.getElem?_eq_some_iff
def abe:=@Int.tmod_eq_emod_of_nonneg
def abf:=@of_decide_eq_true
def abg:=@Nat.eq_of_mul_eq_mul_left
def abh:=@run_underlying
def abj:=@List.take_zero
def abk:=@List.getElem_mem
def abl:=@Calls.quiet_of_same
def abm:=@List.replicate_succ
def abn:=@Nat.gcd_pos_of_pos_left
def abo:=@Rat.intCast_sub
def abp:=@Rat.mul_eq_zero
def abq:=@ready_mono
def abr:=@Nat.div_add_mod
def abt:=@List.length_set
def abu:=@Proofs.Tryz.underlying183
def abv:=@if_false
def abw:=@Nat.le_mul_of_pos_left
def abx:=@List.getElem?_set_self
def aby:=@Proofs.Tryz.underlying42
def abz:=@Int.mul_left_comm
def abA:=@Int.natAbs_sub_le
def abB:=@Nat.mul_left_comm
def abC:=@Proofs.Tryz.underlying99
def abD:=@Proofs.Tryz.underlying57
def abE:=@Int.ediv_eq_iff_eq_mul_right
def abF:=@IntWalk.u64_in
def abG:=@List.set_append_right
def abH:=@Int.mul_nonneg
def abI:=@Int.mul_le_mul
def abJ:=@Nat.gcd_mul_left
def abK:=@seqB_ready
def abL:=@info_parts
def abM:=@List.getElem?_of_mem
def abN:=@wpList_mapUpdate_own
def abO:=@Nat.add_assoc
def abP:=@List.all_cons
def abQ:=@Bool.true_and
def abR:=@Int.tdiv_eq_ediv_of_nonneg
def abS:=@getD_set_ne
def abT:=@Nat.le_succ
def abU:=@Nat.mul_two
def abV:=@List.replicate_zero
def abW:=@List.take_set_of_le
def abX:=@List.range_succ
def abY:=@List.getLast?_eq_getElem?
def abZ:=@Nat.lt_of_mul_lt_mul_left
def ab0:=@run_loadVar_row
def ab1:=@RowKit.Below.heap_setCell
def ab2:=@Array.setIfInBounds_comm
def ab3:=@wpAny_of_seq
def ab4:=@List.eq_of_mem_replicate
def ab5:=@plainElem_bool
def ab6:=@Int.natAbs_add_le
def ab7:=@Proofs.Tryz.underlying38
def ab8:=@World.ownsRow_lit
def ab9:=@Nat.lt_succ_of_lt
def aca:=@Proofs.Tryz.underlying92
def acb:=@Proofs.Tryz.underlying28
def acd:=@Option.map_eq_some_iff
def ace:=@Addr.mk.injEq
def acf:=@Nat.mod_eq_of_lt
def acg:=@List.take_append_drop
def ach:=@Int.mul_eq_zero
def aci:=@RowKit.Below.refl
def acj:=@Bool.or_eq_true
def ack:=@Nat.not_lt_zero
def acl:=@Array.eq_empty_of_size_eq_zero
def acm:=@Proofs.Tryz.ntmps77
def acn:=@Proofs.Tryz.ntmps79
def aco:=@Int.mul_le_mul_of_nonneg_left
def acp:=@World.news_of_block
def acr:=@List.length_pos_iff
def acs:=@List.map_congr_left
def acu:=@all_oneCell_toArray
def acv:=@List.getElem_of_mem
def acw:=@Nat.dvd_gcd
def acx:=@decide_true
def acy:=@Proofs.Tryz.func77
def acz:=@Proofs.Tryz.func79
def acA:=@wpOp_mono
def acB:=@Proofs.Tryz.underlying174
def acC:=@wp_region_any
def acD:=@Int.eq_of_mul_eq_mul_right
def acE:=@List.map_cons
def acF:=@Nat.gcd_assoc
def acG:=@Proofs.Tryz.ntmps134
def acH:=@Bool.eq_false_iff
def acI:=@Int.lt_trichotomy
def acJ:=@Nat.gcd_mul_right
def acK:=@Bool.not_eq_true'
def acL:=@List.take_add_one
def acM:=@List.foldl_append
def acN:=@Proofs.Tryz.underlying96
def acO:=@Proofs.Tryz.underlying31
def acP:=@Proofs.Tryz.underlying63
def acQ:=@Int.mul_neg_of_pos_of_neg
def acR:=@Int.eq_of_mul_eq_mul_left
def acS:=@List.length_drop
def acT:=@Nat.dvd_mul_left
def acU:=@Int.mul_comm
def acV:=@run_make
def acW:=@Nat.div_eq_of_lt
def acX:=@Int.natCast_ediv
def acY:=@Nat.lt_trans
def acZ:=@Int.mul_ediv_cancel_left
def ac0:=@List.mem_flatMap
def ac1:=@Proofs.Tryz.func134
def ac2:=@and_true
def ac3:=@ite_self
def ac4:=@Proofs.Tryz.ntmps68
def ac5:=@Proofs.Tryz.underlying9
def ac6:=@Proofs.Tryz.ntmps75
def ac7:=@List.getLast?_cons_cons
def ac8:=@List.getElem?_cons_zero
def ac9:=@List.drop_of_length_le
def ada:=@Proofs.Tryz.func68
def adb:=@Proofs.Tryz.func75
def adc:=@Int.natAbs_dvd_natAbs
def ade:=@getD_in
def adf:=@List.singleton_append
def adg:=@Bool.false_and
def adh:=@Nat.mul_div_mul_right
def adi:=@Nat.Coprime.mul_right
def adj:=@List.mem_of_mem_take
def adk:=@execOp_put
def adl:=@wanted_put
def adm:=@List.set_append_left
def adn:=@Int.ediv_emod_unique
def ado:=@List.forall_mem_cons
def adp:=@Proofs.Tryz.ntmps144
def adq:=@Proofs.Tryz.ntmps216
def adr:=@bits_join_low
def ads:=@Proofs.Tryz.ntmps204
def adt:=@Proofs.Tryz.ntmps136
def adu:=@Proofs.Tryz.ntmps132
def adv:=@Proofs.Tryz.ntmps189
def adw:=@Proofs.Tryz.ntmps155
def adx:=@WideShapes.okWide_struct
def ady:=@List.flatMap_append
def adz:=@Proofs.Tryz.func144
def adA:=@Proofs.Tryz.ntmps31
def adD:=@Rat.le_total
def adG:=@wpList_plain
def adH:=@List.map_set
def adJ:=@Proofs.Tryz.ntmps97
def adK:=@Proofs.Tryz.func216
def adM:=@decide_false
def adN:=@Proofs.Tryz.func204
def adP:=@Nat.ne_of_lt
def adT:=@Proofs.Tryz.func136
def adU:=@Proofs.Tryz.func132
def adV:=@Proofs.Tryz.func189
def adY:=@Classical.em
def ad1:=@Proofs.Tryz.ntmps63
def ad2:=@Proofs.Tryz.ntmps70
def ad3:=@Proofs.Tryz.ntmps67
def ad5:=@Proofs.Tryz.func155
def aen:=@Proofs.Tryz.func31
def aeo:=@Proofs.Tryz.func97
def aep:=@Int.neg_dvd
def aeq:=@setRow_heap
def aer:=@Rat.mul_pos
def aes:=@Proofs.Tryz.func63
def aet:=@Proofs.Tryz.func70
def aeu:=@Proofs.Tryz.func67
def aJ{p:Prop}(h:p):Hid p:=Lib.hid h
def _root_.Go.RowKit.Hid.o{p:Prop}(h:Hid p):p:=h.out
def Aby{p:Prop}(t:p:=by have:=nY (hd.take n);rwa[PI,aaE aa] at this):p:=t
def Aba{p:Prop}(t:p:=by rw[Ej,Int.natAbs_natCast] at this;exact this):p:=t
def AaD{p:Prop}(t:p:=by simp only[aan,aba];grind):p:=t
def Acb{p:Prop}(t:p:=by rw[GQ.aR,l.re,j.re,l.im,j.im];simp only[aan,abo];grind):p:=t
def Abn{p:Prop}(t:p:=by
 rcases aab j B.size with G|G
 .exact G
 .simp[aax G] at N):p:=t
def Aaz{p:Prop}(t:p:=by
 rcases aab j n with h|h
 .exact h
 .exact absurd hj (tail_waits hs hc hn inv _ i rfl K N j h)):p:=t
def AbJ{p:Prop}(t:p:=by
 have Ww:x≠j:=by
  rintro rfl;have Wj:x<B.size:=by
   rcases aab x B.size with G|G
   .exact G
   .simp[aax G] at R
  simp[Wj] at hx
 rw[abS ε (aaO Ww)] at hx;rcases Ws with rfl|⟨e,rfl⟩
 .exact hF x hx
 .rw[aeJ _ _ Ww];exact hF x hx):p:=t
def Acr{p:Prop}(t:p:=by
 refine Y k ok hk Wv ?_ Wm;by_cases WJ:j=k
 .subst WJ;exact R
 .rw[abS ε WJ] at Wq;exact Wq):p:=t
def AcP{p:Prop}(t:p:=by have h1:=J e U hb;rw[Wo,getD_both N] at h1;cases h1):p:=t
def Ac6{p:Prop}(t:p:=by rw[h] at hr;cases hr):p:=t
def Aa1{p:Prop}(t:p:=by
 rintro rfl;have R:x<B.size:=by
  rcases aab x B.size with G|G
  .exact G
  .simp[aax G] at N
 simp[R] at O):p:=t
def Ab9{p:Prop}(t:p:=by
 have:k=n:=by simpa using hk
 subst this;exact⟨by simpa[Region.lexHead] using hB,h⟩):p:=t
def AaJ{p:Prop}(t:p:=by rw[aaK] at Z;cases Z):p:=t
def Ab2{p:Prop}(t:p:=by cases h):p:=t
def Acv{p:Prop}(t:p:=by
 rw[K] at U;have e:n+(l.toArray.size-n)=l.toArray.size:=by simp at hn⊢;omega
 rw[e] at U;exact U):p:=t
def Aa6{p:Prop}(t:p:=by rw[wo];intro x L;have:=J (x+1) (by simp at L⊢;omega);rwa[show k+(x+1)=k+1+x by omega] at this):p:=t
def AcB{p:Prop}(t:p:=by simpa using N):p:=t
def Ab6{p:Prop}(t:p:=by simpa using h):p:=t
def Abb{p:Prop}(t:p:=by
 rcases aab j n with h|h
 .exact h
 .exact absurd T (tail_waits hs hc hn inv _ i rfl K N j h)):p:=t
def AbV{p:Prop}(t:p:=by
 rw[V] at K;have e:n+(l.toArray.size-n)=l.toArray.size:=by simp at hn⊢;omega
 rw[e] at K;refine acC R ?_;simpa using K):p:=t
def AbW{p:Prop}(t:p:=by
 rw[V] at M;have e:n+(l.toArray.size-n)=l.toArray.size:=by simp at hn⊢;omega
 rw[e] at M;refine acC T ?_;simpa using M):p:=t
def AaU{p:Prop}(t:p:=by go_enter func96,ntmps96;go_wp2;go_ret;exact⟨aU (by rw[F.o]),Ext.new _ _⟩):p:=t
def Abj{p:Prop}(t:p:=by rw[j];omega):p:=t
def AaQ{p:Prop}(t:p:=by refine(jK _ (k+1) (k+1) (o++[J]) _ (RM.blk Q (W.append (Dig.one aa)) (by simp[L.o]) aa)).mono ?_;rintro e w1 ⟨v1,rfl,hR,H⟩;rw[F] at hR;go_wp2;go_ret;exact⟨_,rfl,hR,G.trans H⟩):p:=t
def AbX{p:Prop}(t:p:=by have:=V.o;rw[Λ (by rw[HA.o];omega),Λ (by rw[Y.o];omega)] at this;rw[mf,L.o];exact this):p:=t
def Abq{p:Prop}(t:p:=by go_wp2;go_ret;exact⟨_,rfl,hR,M.trans H⟩):p:=t
def Aa2{p:Prop}(t:p:=by go_enter func217,ntmps217;go_wp2;go_ret;exact⟨_,rfl,⟨_,_,_,rfl,by simpa[val,iQ] using aff⟩,Ext.refl _⟩):p:=t
def AaK{p:Prop}(t:p:=by intro v1 w1 F D;go_wp2;go_ret;exact⟨_,rfl,by simpa using F,jW D (Ext.new _ _) (by simp[Value.ownBlock])⟩):p:=t
def AbZ{p:Prop}(t:p:=by go_ret;exact⟨_,rfl,aaA _ _ _ _,Ext.refl _⟩):p:=t
def Aar{p:Prop}(t:p:=by rintro e w2 ⟨v2,rfl,⟨u,rfl,A2,n2,c2,rfl,N⟩,P⟩;rw[bD,bD,bD] at N;rw[bD,bD,bD];have P:=H.trans P;go_wp2;refine J _ _ ⟨⟨w2,P⟩,rfl⟩ ?_;clear J K;refine aV [8,9] [] _ ah ?_;simp only[cZ,aZ,ξ,ο];(repeat (go_big_quiet_step (fail)));refine τ ?_;have P:=G.trans P;simp only[bT,ρ,χ];have b4:=qI P;have c4:=b4.cell;have f4:=b4.frozen;obtain⟨C,Q,M⟩:=ou (jH P) aa b4 _ A2 n2 c2;have W:=aJ C;have V:=aJ Q;have Y:=aJ (M _ _ _ _ N);clear C Q M;go_wp2;exact kT rfl rfl rfl V.o ⟨_,rfl,⟨_,rfl,_,_,_,rfl,Y.o⟩,W.o⟩):p:=t
def AaC{p:Prop}(t:p:=by have j:=P.trans j;have b4:=qI j;have c4:=b4.cell;have W:=b4.frozen;obtain⟨C,N,K⟩:=ou (jH j) aa b4 _ A2 n2 c2;have Q:=aJ C;have O:=aJ N;have R:=aJ (K _ _ _ _ M);clear C N K;go_wp2;exact kT rfl rfl rfl O.o ⟨_,rfl,⟨_,rfl,_,_,_,rfl,R.o⟩,Q.o⟩):p:=t
def AcQ{p:Prop}(t:p:=by have:=Xl.o;omega):p:=t
def Aah{p:Prop}(t:p:=by
 obtain⟨u6,rfl,A6,n6,c6,rfl,R⟩:=j;have e6:=K1.trans I;have J:=K2.ext I;have K:=Wt.ext I;have M:=Wq.ext I;have Xq:=J.cell;have Wy:=J.frozen;have Xl:=K.cell;have Wz:=K.frozen;clear Wx f4;(go_wp2_with fail);obtain⟨m1,m2,m3⟩:=ou e6 aa K (decide (N<0)) A6 n6 c6;have m4:=(J.far (p:=⟨w.heap.size+3,0,δ⟩) ag (.bool (decide (N<0)))).far (p:=⟨w.heap.size+3,1,δ⟩) ag (.slice A6 n6 c6);have m5:=m3 _ _ _ _ M;have m6:=m3 _ _ _ _ R;clear m3 Xq Wy Xl Wz J K M R Wq Xg Wt K1 K2 e6;rw[show w.heap.size+1+1+1=w.heap.size+3 from rfl];generalize (w6.setCell ⟨w.heap.size+3,0,δ⟩ (.bool (decide (N<0)))).setCell ⟨w.heap.size+3,1,δ⟩ (.slice A6 n6 c6)=w7 at*
 have p4:w7.cell? ⟨w.heap.size+1+1,0,δ⟩=γ (.bool (decide (zq<0))):=by have:=m4.cell 0;simpa using this
 have WL:w7.cell? ⟨w.heap.size+1+1,1,δ⟩=γ (.slice A4 n4 c4):=by have:=m4.cell 1;simpa using this
 have p5:w7.cell? ⟨w.heap.size+3,0,δ⟩=γ (.bool (decide (N<0))):=by have:=m2.cell 0;simpa using this
 have WO:w7.cell? ⟨w.heap.size+3,1,δ⟩=γ (.slice A6 n6 c6):=by have:=m2.cell 1;simpa using this
 have g4:w7.frozen? ⟨w.heap.size+1+1,0,δ⟩=ζ:=m4.frozen 0;have WN:w7.frozen? ⟨w.heap.size+1+1,1,δ⟩=ζ:=m4.frozen 1;have g5:w7.frozen? ⟨w.heap.size+3,0,δ⟩=ζ:=m2.frozen 0;have WM:w7.frozen? ⟨w.heap.size+3,1,δ⟩=ζ:=m2.frozen 1;go_region;go_wp2;obtain⟨n1,n2,n3⟩:=ou m1 aa m4 (decide (zq<0)) A4 n4 c4;have WB:=(m2.far (p:=⟨w.heap.size+2,0,δ⟩) ag (.bool (decide (zq<0)))).far (p:=⟨w.heap.size+2,1,δ⟩) ag (.slice A4 n4 c4);obtain⟨o1,o2,o3⟩:=ou n1 aa WB (decide (N<0)) A6 n6 c6;have o4:=(n2.far (p:=⟨w.heap.size+3,0,δ⟩) ag (.bool (decide (N<0)))).far (p:=⟨w.heap.size+3,1,δ⟩) ag (.slice A6 n6 c6);have r4:=o3 _ _ _ _ (n3 _ _ _ _ m5);have r5:=o3 _ _ _ _ (n3 _ _ _ _ m6);rw[<-WF.o,<-Wj.o];exact Lg rfl rfl rfl (o4.ext (Ext.refl _).drew) rfl (o2.ext (Ext.refl _).drew) ⟨_,rfl,⟨_,_,rfl,⟨_,_,_,rfl,r4.ext (Ext.refl _).drew⟩,⟨_,_,_,rfl,r5.ext (Ext.refl _).drew⟩⟩,o1.drew⟩):p:=t
def AaA{p:Prop}(t:p:=by have b4:=qI Wl;have c4:=b4.cell;have f4:=b4.frozen;obtain⟨C,k2,k3⟩:=ou (jH Wl) aa b4 (decide (Z<0)) A2 n2 c2;have K1:=aJ C;have K2:=aJ k2;have K3:=aJ (k3 _ _ _ _ hI);clear C k2 k3;go_wp2;rw[<-WB.o,<-HZ.o];exact kT rfl rfl rfl K2.o ⟨_,rfl,⟨_,rfl,_,_,_,rfl,K3.o⟩,K1.o⟩):p:=t
def Aa9{p:Prop}(t:p:=by simp[World.setCell]):p:=t
def Aa3{p:Prop}(t:p:=by have J:=aJ I;clear I hs V;go_enter adz,adp;go_wp2;go_ret;exact⟨aU (by simpa using J.o),Ext.new _ _⟩):p:=t
def Aax{p:Prop}(t:p:=by rintro e w1 ⟨v1,rfl,j,H⟩;rw[I.o] at j;obtain⟨u1,rfl,T⟩:=j;(go_wp2_with fail);refine(uw g u1 z _ ((hc.ext Y).ext H) T).mono ?_;rintro e w2 ⟨U,rfl,M,P⟩;obtain⟨s2,A2,n2,c2,rfl,M⟩:=M.opn;have G:=H.trans P;have b4:=qI G;have c4:=b4.cell;have V:=b4.frozen;obtain⟨C,O,J⟩:=qJ (jH G) aa b4 s2 A2 n2 c2;have R:=aJ C;have Q:=aJ O;have S:=aJ (J _ _ M);clear C O J;go_wp2;exact jf rfl rfl rfl Q.o ⟨_,rfl,S.o,R.o⟩):p:=t
def Aaw{p:Prop}(t:p:=by obtain⟨s2,A2,n2,c2,rfl,M⟩:=M.opn;have S:=H.trans P;have b4:=qI S;have c4:=b4.cell;have f4:=b4.frozen;obtain⟨C,R,O⟩:=qJ (jH S) aa b4 s2 A2 n2 c2;have W:=aJ C;have V:=aJ R;have Z:=aJ (O _ _ M);clear C R O;go_wp2;exact jf rfl rfl rfl V.o ⟨_,rfl,Z.o,W.o⟩):p:=t
def AaN{p:Prop}(t:p:=by go_wp2;replace hS:=hS.pt 2 0 [.bool WN,.slice WK WO WM,.bool Xe,.slice WU WW Xg,.bool Xw,.slice WR XG Xt] o8;exact dE rfl rfl rfl (hS.aH 2) ⟨_,rfl,RG.mk (hS.aF 2) (hS.aF 1) (hS.aF 0),hS.ext⟩):p:=t
def Aa5{p:Prop}(t:p:=by
 rcases R with h|h
 .left;intro e;rw[e] at S;simp at S;exact h S
 .right;intro e;rw[e] at eq;simp at eq;exact h eq):p:=t
def Ab1{p:Prop}(t:p:=by
 rcases hy with h|h
 .left;intro e;rw[e] at B;simp at B;exact h B
 .right;intro e;rw[e] at j;simp at j;exact h j):p:=t
def AcC{p:Prop}(t:p:=by
 have:=e6.symm;rcases ach.1 this with h|h
 .exact absurd h XB
 .exact h):p:=t
def AaP{p:Prop}(t:p:=by replace hS:=hS.mv F;clear F;go_wp2;go_ret;exact⟨aU (rfl),hS.ext⟩):p:=t
def Aaj{p:Prop}(t:p:=by rintro e w4 ⟨v_,rfl,M,F⟩;replace hS:=hS.mv F;clear F;obtain⟨Xn,Xh,Xo,Xl,Xj,Xb,Xk,Xm,Xq,Xg,Xp,Xi,rfl,U,N,J⟩:=M;replace hS:=hS.aX U;clear U;replace hS:=hS.aX N;clear N;replace hS:=hS.aX J;clear J;(go_wp2_with fail);refine(nQ g6 _ V Wv WA _ (hS.aH 0) (RG.mk (hS.aF 2) (hS.aF 1) (hS.aF 0))).mono ?_;rintro e w5 ⟨v_,rfl,M,F⟩;replace hS:=hS.mv F;clear F;obtain⟨_,rfl,WP,WI,WR,WO,WT,WM,WU,W9,WS,WL,WN,WQ,rfl,j,T,K⟩:=M;replace hS:=hS.aX j;clear j;replace hS:=hS.aX T;clear T;replace hS:=hS.aX K;clear K;have WZ:=(hS.aH 2).cell;have Xc:=(hS.aH 2).frozen;go_wp2;replace hS:=hS.pt 2 0 [.bool WP,.slice WI WR WO,.bool WT,.slice WM WU W9,.bool WS,.slice WL WN WQ] o4;exact lQ rfl rfl rfl (hS.aH 2) ⟨_,rfl,⟨_,rfl,⟨_,_,_,RG.mk (hS.aF 2) (hS.aF 1) (hS.aF 0),WK,Xa⟩⟩,hS.ext⟩):p:=t
def Abx{p:Prop}(t:p:=by rw[acH];intro e;exact h (F.zero.1 e)):p:=t
def Aam{p:Prop}(t:p:=by rintro e w5 ⟨v_,rfl,M,F⟩;replace hS:=hS.mv F;clear F;obtain⟨WQ,WL,Xa,WS,WP,WN,WO,Xg,WT,WM,WR,WU,rfl,N,J,j⟩:=M;replace hS:=hS.aX N;clear N;replace hS:=hS.aX J;clear J;replace hS:=hS.aX j;clear j;(go_wp2_with fail);refine(nQ g6 _ WI Wv WA _ (hS.aH 0) (RG.mk (hS.aF 2) (hS.aF 1) (hS.aF 0))).mono ?_;rintro e w6 ⟨v_,rfl,M,F⟩;replace hS:=hS.mv F;clear F;obtain⟨_,rfl,Xq,W9,Xt,Xx,Xy,Xb,Xo,Xm,Xu,V,Xp,Xv,rfl,K,T,U⟩:=M;replace hS:=hS.aX K;clear K;replace hS:=hS.aX T;clear T;replace hS:=hS.aX U;clear U;have Xc:=(hS.aH 2).cell;have Xj:=(hS.aH 2).frozen;go_wp2;replace hS:=hS.pt 2 0 [.bool Xq,.slice W9 Xt Xx,.bool Xy,.slice Xb Xo Xm,.bool Xu,.slice V Xp Xv] o4;exact lQ rfl rfl rfl (hS.aH 2) ⟨_,rfl,⟨_,rfl,⟨_,_,_,RG.mk (hS.aF 2) (hS.aF 1) (hS.aF 0),WK,Xi⟩⟩,hS.ext⟩):p:=t
theorem AaV{p:Prop}(t:p:=by refine⟨_,rfl,π B m.size,fun j u N=> ?_⟩;rw[add_plain];have F:=hc j u N;unfold World.cell? at F⊢;have G:=m.block b B C;simp only[G];exact F):p:=t
def Abo{p:Prop}(t:p:=by rw[abX,ady];simp):p:=t
def AbU{p:Prop}(t:p:=by rw[aW];omega):p:=t
def Aca{p:Prop}(t:p:=by rw[aaa,Δ,Δ];omega):p:=t
def Aai{p:Prop}(t:p:=by
 intro Wx Wq Wy Xx WW Wo Xm Ww Xq Ws WJ Xt XC XB;refine dR rf rf rf ?_ ?_
 .intro T J;have hW:=J.1;have XG:RI T (iv Xv Wp WV W9) Y:=RG.at1 (J.2 3 ((gv Xv Wp WV W9 Xy Wt Xl Xu Xw Wu Xp Xo),XA,Xz) rf ah);have XH:RI T (iv Xy Wt Xl Xu) Wm:=RG.at2 (J.2 3 ((gv Xv Wp WV W9 Xy Wt Xl Xu Xw Wu Xp Xo),XA,Xz) rf ah);have XK:RI T (iv Xw Wu Xp Xo) Z:=RG.at3 (J.2 3 ((gv Xv Wp WV W9 Xy Wt Xl Xu Xw Wu Xp Xo),XA,Xz) rf ah);have XJ:RI T (iv Wx Wq Wy Xx) Wj:=RG.at1 (J.2 7 ((gv Wx Wq Wy Xx WW Wo Xm Ww Xq Ws WJ Xt),XC,XB) rf ah);have XI:RI T (iv WW Wo Xm Ww) Wn:=RG.at2 (J.2 7 ((gv Wx Wq Wy Xx WW Wo Xm Ww Xq Ws WJ Xt),XC,XB) rf ah);have XL:RI T (iv Xq Ws WJ Xt) Wl:=RG.at3 (J.2 7 ((gv Wx Wq Wy Xx WW Wo Xm Ww Xq Ws WJ Xt),XC,XB) rf ah);clear J;go_simp;exact⟨rfl,(qR g6 _ Y Wm Z _ Wj Wn Wl _ (Blk.ext (hS.aH 2) hW) (RG.mk XG XH XK) (RG.mk XJ XI XL)).mono fun e w' ⟨v,U,hR,hx⟩=>⟨v,U,hx,hR⟩⟩
 intro v_ XU X4 WA;obtain⟨T,Wv⟩:=WA;have M:Fc.holds (.retp (Y) (Wm) (Z) (Wj) (Wn) (Wl) 0) XU X4 v_ T:=Wv.get;clear Wv;obtain⟨_,rfl,Yh,XZ,Yk,Yc,Yi,XW,Yj,Ym,X6,XT,Yt,Yo,Ye,XR,Yu,Yb,Yp,XM,Yd,Yr,Yq,X3,Yl,Yn,rfl,-,-,-,-,-,-⟩:=M;clear T;refine Qp ?_;refine Qs ?_;refine bz ?_;intro w7 J;have j:=hS.lt;replace hS:=hS.mv J.ext;replace hS:=hS.aG J 3;replace hS:=hS.aG J 7;replace hS:=hS.aP J 8;clear J j N Y8 Y7;have XD:=(hS.aH 4).cell;have XF:=(hS.aH 4).frozen;go_wp2;replace hS:=hS.pt 4 0 [.bool Yh,.slice XZ Yk Yc,.bool Yi,.slice XW Yj Ym,.bool X6,.slice XT Yt Yo,.bool Ye,.slice XR Yu Yb,.bool Yp,.slice XM Yd Yr,.bool Yq,.slice X3 Yl Yn] o4;exact lS rfl rfl rfl (hS.aH 4) ⟨_,rfl,⟨_,rfl,⟨_,_,_,_,_,_,RP.mk (hS.aF 5) (hS.aF 4) (hS.aF 3) (hS.aF 2) (hS.aF 1) (hS.aF 0),XY,YI,XV,YD⟩⟩,hS.ext⟩):p:=t
def Abk{p:Prop}(t:p:=by rw[Ej,Ej] at this;omega):p:=t
def Aad{p:Prop}(t:p:=by obtain⟨WH,WB,WG,Wz,WC,Wy,WA,WI,Wu,WF,Wx,WE,rfl⟩:=hv.opn;have k6:=j.cell;have f6:=j.frozen;obtain⟨p1,p2,p3⟩:=eH Y aa j hv;have P1:=aJ p1;have P2:=aJ p2;have P3:=aJ p3;clear p1 p2 p3 Y j hv;(go_wp2_with fail);exact dE rfl rfl rfl P2.o ⟨_,rfl,P3.o,P1.o⟩):p:=t
def AbE{p:Prop}(t:p:=by rintro e w2 ⟨v,rfl,⟨u,rfl,N⟩,J⟩;clear k0;replace Y:=Y.trans J;replace j:=j.ext J;replace I:=I.ext J;clear J T C;(go_wp2_with fail);refine(sW g u _ _ _ I N).mono ?_;rintro e w3 ⟨v,rfl,hv,J⟩;replace Y:=Y.trans J;replace j:=j.ext J;clear J N I;exact Aad):p:=t
def AaE{p:Prop}(t:p:=by go_enter func190,ntmps190;(go_wp2_with fail);go_ret;exact⟨rfl,Ext.refl _⟩):p:=t
theorem Aa4{p:Prop}(t:p:=by unfold nE;rw[θ aa,θ aa];simp only[ng];exact W.o.2 aa _ _ (V.o D aa G).1 (V.o D aa G).2 F.o.1 F.o.2 WR.o):p:=t
def Ab0{p:Prop}(t:p:=by
 go_roundw
 case rel=>
  refine⟨D+1,aa,aa,au,?_,WI.o⟩;rw[<-Ci _ aa];exact Q.o
 case measure=>simp[intOf];omega):p:=t
theorem Acz{p:Prop}(t:p:=by intro j hj;unfold nE;rw[θ aa];exact W.o.1 aa _ _ (V.o D aa G).1 (V.o D aa G).2 hj):p:=t
theorem AcT{p:Prop}(t:p:=by intro j hj;unfold nE;rw[θ aa];simp only[ng];exact W.o.1 aa _ _ F.o.1 F.o.2 hj):p:=t
theorem Ac9{p:Prop}(t:p:=by intro j hj;unfold nE;rw[θ aa];simp only[ng];exact HZ.o _ _ F.o.1 F.o.2 hj):p:=t
def Abh{p:Prop}(t:p:=by exact⟨_,hp.1.1,hp.1.2,(aeI Q).trans hp.2⟩):p:=t
def Ab7{p:Prop}(t:p:=by subst e;rw[upd_same];exact⟨rfl,⟨f,WK.o,WJ.o⟩,by have:=WR.o;show w.heap.size<=g;omega⟩):p:=t
def Acy{p:Prop}(t:p:=by
 by_cases e:D=i
 .subst e;rw[upd_same];exact⟨rfl,rfl⟩
 .rw[upd_ne e];exact HD.o.len D aa):p:=t
def Abl{p:Prop}(t:p:=by rintro g ⟨i,hi,rfl⟩ ⟨j,hj,e⟩;have h1:=XA.o i hi;have h2:=(WZ.o j hj).1;omega):p:=t
def Abe{p:Prop}(t:p:=by assumption):p:=t
def AbC{p:Prop}(t:p:=by rintro e w2 ⟨v,rfl,⟨u,rfl,N⟩,hx⟩;clear k0 k4 k5;replace Y:=Y.trans hx;replace j:=j.ext hx;replace I:=I.ext hx;have XW:=hx.size;clear hx T C;obtain⟨WR,WS,WQ,WN,WL,WK,WJ,WT,WU,WP,WM,WO,rfl⟩:=N.opn;obtain⟨J,Wv⟩:=an1 w2 42 #[.bool WR,.slice WS WQ WN,.bool WL,.slice WK WJ WT,.bool WU,.slice WP WM WO];have HU:=aJ (N.ext J);clear N;replace Y:=Y.trans J;replace j:=j.ext J;replace I:=I.ext J;have k7:=Wv.cell;(go_wp2_with fail);refine(qP g _ _ _ _ I HU.o).mono ?_;rintro e w3 ⟨v,rfl,hv,hx⟩;replace Y:=Y.trans hx;replace j:=j.ext hx;clear hx;exact Aad):p:=t
def Acl{p:Prop}(t:p:=by rintro e w3 ⟨v,rfl,hv,hx⟩;replace Y:=Y.trans hx;replace j:=j.ext hx;clear hx;exact Aad):p:=t
def Abc{p:Prop}(t:p:=by have e:cO b.u (part r0 bs b L)=fun _=>GQ.i 0 0:=funext fun l=>xQ r0 bs b L l;rw[e];exact lN _ cs):p:=t
def Abr{p:Prop}(t:p:=by rw[nC];omega):p:=t
def Aav{p:Prop}(t:p:=by rintro e w3 ⟨v,rfl,hv,M⟩;have I:=W.trans M;have C:=aJ I;clear M;obtain⟨WH,WB,WG,Wz,WC,Wy,WA,WI,Wu,WF,Wx,WE,rfl⟩:=hv.opn;have HV:=aJ hv;(go_wp2_with fail);refine J _ _ ⟨⟨w3,I⟩,rfl⟩ ?_;clear J K I hv N Y1;simp only[bT,ρ,χ];have k6:=(l.ext C.o).cell;have f6:=(l.ext C.o).frozen;obtain⟨p1,p2,p3⟩:=eH (HE.trans C.o) (show w.heap.size<=w.heap.size+1 by omega) (l.ext C.o) HV.o;have P1:=aJ p1;have P2:=aJ p2;have P3:=aJ p3;clear p1 p2 p3;(go_wp2_with fail);exact dE rfl rfl rfl P2.o ⟨_,rfl,P3.o,P1.o⟩):p:=t
def AaY{p:Prop}(t:p:=by rw[M];simp only[qF,Dm];exact⟨fun h=>(by rw[hS] at h;cases h),fun L T B U=>(by rw[hS] at B;cases B;rw[hF] at U;cases U;exact⟨hs,hp⟩),I _ _ _ _⟩):p:=t
theorem Abi{p:Prop}(t:p:=by unfold execOp;simp only[B,F,C];simp only[aaG,aa4,W,aaB]):p:=t
def Abm{p:Prop}(t:p:=by rw[aa0,aaw] at this;rw[hb.cell,Ξ,this];exact N):p:=t
def Abt{p:Prop}(t:p:=by rw[l];exact Wp.o):p:=t
def Abz{p:Prop}(t:p:=by exact⟨0,0,by ext<;>simp only[GQ.bX,GQ.cu,GQ.bU,GQ.bS]<;>grind,aj⟩):p:=t
def AbA{p:Prop}(t:p:=by have:=(hb b h).a;omega):p:=t
def Aaa{p:Prop}(t:p:=by
 obtain⟨k,hk,rfl,ht⟩:=hrel;have HT:=aJ ht;clear ht;by_cases Wj:k<s.size
 .have Wl:=KV Wj;obtain⟨l,Wm⟩:∃n,vC s k=n:=⟨_,rfl⟩;have Wq:l<256:=by rw[<-Wm];exact Cw s k
  have Y:=aJ (KE Wm);rw[Wm] at Wl;clear Wm;by_cases WT:k=0
  .subst WT;by_cases Q:l<=47
   .skip;obtain⟨U,M,Z,C,N,D,G,B,R,H,V,K,O,L,T,F,P,W,J⟩:=nc0 l aa aa;have S:Hid (iA s 0=ζ):=aJ (by rw[Y.o];simp[dI,eG];omega);go_wp2;go_ret;exact⟨aU (dG Wj S.o).symm,rfl⟩
   have g0:47<l:=aa;clear Q;by_cases Wn:l<=57
   .skip;obtain⟨U,M,Z,C,N,D,G,B,R,H,V,K,O,L,T,F,P,W,J⟩:=nc1 l aa aa;have S:Hid (iA s 0=ζ):=aJ (by rw[Y.o];simp[dI,eG];omega);go_wp2;go_ret;exact⟨aU (dG Wj S.o).symm,rfl⟩
   have g1:57<l:=aa;clear Wn;by_cases WM:l<=64
   .skip;obtain⟨U,M,Z,C,N,D,G,B,R,H,V,K,O,L,T,F,P,W,J⟩:=nc2 l aa aa;have S:Hid (iA s 0=ζ):=aJ (by rw[Y.o];simp[dI,eG];omega);go_wp2;go_ret;exact⟨aU (dG Wj S.o).symm,rfl⟩
   have g2:64<l:=aa;clear WM;by_cases WS:l<=90
   .skip;obtain⟨U,M,Z,C,N,D,G,B,R,H,V,K,O,L,T,F,P,W,J⟩:=nc3 l aa aa;have S:Hid (iA s 0=ε):=aJ (by rw[Y.o];simp[dI,eG];omega);go_wp2_with fail
    go_round
    case rel=>exact⟨1,aa,au,jl HT.o S.o⟩
    case measure=>simp[intOf]<;>omega
   have g3:90<l:=aa;clear WS;by_cases Wp:l<=94
   .skip;have U:decide ((97:Int)<=(l:Int))=ζ:=ae;have M:¬(97:Int)<=(l:Int):=aa;have Z:decide ((65:Int)<=(l:Int))=ε:=ae;have C:(65:Int)<=(l:Int):=aa;have N:decide ((48:Int)<=(l:Int))=ε:=ae;have D:(48:Int)<=(l:Int):=aa;have G:decide ((l:Int)<=122)=ε:=ae;have B:(l:Int)<=122:=aa;have R:decide ((l:Int)<=90)=ζ:=ae;have H:¬(l:Int)<=90:=aa;have V:decide ((l:Int)<=57)=ζ:=ae;have K:¬(l:Int)<=57:=aa;have O:decide ((l:Int)<48)=ζ:=ae;have L:¬(l:Int)<48:=aa;have T:decide ((57:Int)<(l:Int))=ε:=ae;have F:(57:Int)<(l:Int):=aa;have P:((l:Int)==95)=ζ:=ae;have W:((l:Int) !=95)=ε:=ae;have J:¬(l:Int)=95:=aa;have S:Hid (iA s 0=ζ):=aJ (by rw[Y.o];simp[dI,eG];omega);go_wp2;go_ret;exact⟨aU (dG Wj S.o).symm,rfl⟩
   have g4:94<l:=aa;clear Wp;by_cases Wo:l<=95
   .skip;obtain⟨U,M,Z,C,N,D,G,B,R,H,V,K,O,L,T,F,P,W,J⟩:=nc4 l aa aa;have S:Hid (iA s 0=ζ):=aJ (by rw[Y.o];simp[dI,eG];omega);go_wp2;go_ret;exact⟨aU (dG Wj S.o).symm,rfl⟩
   have g5:95<l:=aa;clear Wo;by_cases WH:l<=96
   .skip;have U:decide ((97:Int)<=(l:Int))=ζ:=ae;have M:¬(97:Int)<=(l:Int):=aa;have Z:decide ((65:Int)<=(l:Int))=ε:=ae;have C:(65:Int)<=(l:Int):=aa;have N:decide ((48:Int)<=(l:Int))=ε:=ae;have D:(48:Int)<=(l:Int):=aa;have G:decide ((l:Int)<=122)=ε:=ae;have B:(l:Int)<=122:=aa;have R:decide ((l:Int)<=90)=ζ:=ae;have H:¬(l:Int)<=90:=aa;have V:decide ((l:Int)<=57)=ζ:=ae;have K:¬(l:Int)<=57:=aa;have O:decide ((l:Int)<48)=ζ:=ae;have L:¬(l:Int)<48:=aa;have T:decide ((57:Int)<(l:Int))=ε:=ae;have F:(57:Int)<(l:Int):=aa;have P:((l:Int)==95)=ζ:=ae;have W:((l:Int) !=95)=ε:=ae;have J:¬(l:Int)=95:=aa;have S:Hid (iA s 0=ζ):=aJ (by rw[Y.o];simp[dI,eG];omega);go_wp2;go_ret;exact⟨aU (dG Wj S.o).symm,rfl⟩
   have g6:96<l:=aa;clear WH;by_cases Xf:l<=122
   .skip;obtain⟨U,M,Z,C,N,D,G,B,R,H,V,K,O,L,T,F,P,W,J⟩:=nc5 l aa aa;have S:Hid (iA s 0=ε):=aJ (by rw[Y.o];simp[dI,eG];omega);go_wp2_with fail
    go_round
    case rel=>exact⟨1,aa,au,jl HT.o S.o⟩
    case measure=>simp[intOf]<;>omega
   have g7:122<l:=aa;clear Xf;obtain⟨U,M,Z,C,N,D,G,B,R,H,V,K,O,L,T,F,P,W,J⟩:=nc6 l aa aa;have S:Hid (iA s 0=ζ):=aJ (by rw[Y.o];simp[dI,eG];omega);go_wp2;go_ret;exact⟨aU (dG Wj S.o).symm,rfl⟩
  .have z1:((k:Int)==0)=ζ:=ae;have z2:¬(k:Int)=0:=aa;by_cases Q:l<=47
   .skip;obtain⟨U,M,Z,C,N,D,G,B,R,H,V,K,O,L,T,F,P,W,J⟩:=nc0 l aa aa;have S:Hid (iA s k=ζ):=aJ (by rw[Y.o];simp[dI,eG];omega);go_wp2;go_ret;exact⟨aU (dG Wj S.o).symm,rfl⟩
   have g0:47<l:=aa;clear Q;by_cases Wn:l<=57
   .skip;obtain⟨U,M,Z,C,N,D,G,B,R,H,V,K,O,L,T,F,P,W,J⟩:=nc1 l aa aa;have S:Hid (iA s k=ε):=aJ (by rw[Y.o];simp[dI,eG];omega);go_wp2_with fail
    go_round
    case rel=>exact⟨k+1,aa,au,jl HT.o S.o⟩
    case measure=>simp[intOf]<;>omega
   have g1:57<l:=aa;clear Wn;by_cases WM:l<=64
   .skip;obtain⟨U,M,Z,C,N,D,G,B,R,H,V,K,O,L,T,F,P,W,J⟩:=nc2 l aa aa;have S:Hid (iA s k=ζ):=aJ (by rw[Y.o];simp[dI,eG];omega);go_wp2;go_ret;exact⟨aU (dG Wj S.o).symm,rfl⟩
   have g2:64<l:=aa;clear WM;by_cases WS:l<=90
   .skip;obtain⟨U,M,Z,C,N,D,G,B,R,H,V,K,O,L,T,F,P,W,J⟩:=nc3 l aa aa;have S:Hid (iA s k=ε):=aJ (by rw[Y.o];simp[dI,eG];omega);go_wp2_with fail
    go_round
    case rel=>exact⟨k+1,aa,au,jl HT.o S.o⟩
    case measure=>simp[intOf]<;>omega
   have g3:90<l:=aa;clear WS;by_cases Wp:l<=94
   .skip;have U:decide ((97:Int)<=(l:Int))=ζ:=ae;have M:¬(97:Int)<=(l:Int):=aa;have Z:decide ((65:Int)<=(l:Int))=ε:=ae;have C:(65:Int)<=(l:Int):=aa;have N:decide ((48:Int)<=(l:Int))=ε:=ae;have D:(48:Int)<=(l:Int):=aa;have G:decide ((l:Int)<=122)=ε:=ae;have B:(l:Int)<=122:=aa;have R:decide ((l:Int)<=90)=ζ:=ae;have H:¬(l:Int)<=90:=aa;have V:decide ((l:Int)<=57)=ζ:=ae;have K:¬(l:Int)<=57:=aa;have O:decide ((l:Int)<48)=ζ:=ae;have L:¬(l:Int)<48:=aa;have T:decide ((57:Int)<(l:Int))=ε:=ae;have F:(57:Int)<(l:Int):=aa;have P:((l:Int)==95)=ζ:=ae;have W:((l:Int) !=95)=ε:=ae;have J:¬(l:Int)=95:=aa;have S:Hid (iA s k=ζ):=aJ (by rw[Y.o];simp[dI,eG];omega);go_wp2;go_ret;exact⟨aU (dG Wj S.o).symm,rfl⟩
   have g4:94<l:=aa;clear Wp;by_cases Wo:l<=95
   .skip;obtain⟨U,M,Z,C,N,D,G,B,R,H,V,K,O,L,T,F,P,W,J⟩:=nc4 l aa aa;have S:Hid (iA s k=ε):=aJ (by rw[Y.o];simp[dI,eG];omega);go_wp2_with fail
    go_round
    case rel=>exact⟨k+1,aa,au,jl HT.o S.o⟩
    case measure=>simp[intOf]<;>omega
   have g5:95<l:=aa;clear Wo;by_cases WH:l<=96
   .skip;have U:decide ((97:Int)<=(l:Int))=ζ:=ae;have M:¬(97:Int)<=(l:Int):=aa;have Z:decide ((65:Int)<=(l:Int))=ε:=ae;have C:(65:Int)<=(l:Int):=aa;have N:decide ((48:Int)<=(l:Int))=ε:=ae;have D:(48:Int)<=(l:Int):=aa;have G:decide ((l:Int)<=122)=ε:=ae;have B:(l:Int)<=122:=aa;have R:decide ((l:Int)<=90)=ζ:=ae;have H:¬(l:Int)<=90:=aa;have V:decide ((l:Int)<=57)=ζ:=ae;have K:¬(l:Int)<=57:=aa;have O:decide ((l:Int)<48)=ζ:=ae;have L:¬(l:Int)<48:=aa;have T:decide ((57:Int)<(l:Int))=ε:=ae;have F:(57:Int)<(l:Int):=aa;have P:((l:Int)==95)=ζ:=ae;have W:((l:Int) !=95)=ε:=ae;have J:¬(l:Int)=95:=aa;have S:Hid (iA s k=ζ):=aJ (by rw[Y.o];simp[dI,eG];omega);go_wp2;go_ret;exact⟨aU (dG Wj S.o).symm,rfl⟩
   have g6:96<l:=aa;clear WH;by_cases Xf:l<=122
   .skip;obtain⟨U,M,Z,C,N,D,G,B,R,H,V,K,O,L,T,F,P,W,J⟩:=nc5 l aa aa;have S:Hid (iA s k=ε):=aJ (by rw[Y.o];simp[dI,eG];omega);go_wp2_with fail
    go_round
    case rel=>exact⟨k+1,aa,au,jl HT.o S.o⟩
    case measure=>simp[intOf]<;>omega
   have g7:122<l:=aa;clear Xf;obtain⟨U,M,Z,C,N,D,G,B,R,H,V,K,O,L,T,F,P,W,J⟩:=nc6 l aa aa;have S:Hid (iA s k=ζ):=aJ (by rw[Y.o];simp[dI,eG];omega);go_wp2;go_ret;exact⟨aU (dG Wj S.o).symm,rfl⟩
 .have WC:k=s.size:=aa;subst WC;go_wp2;go_ret;exact⟨aU (Ch hp hm HT.o).symm,rfl⟩):p:=t
def Ab5{p:Prop}(t:p:=by go_wp2;go_ret;exact⟨aU I.symm,rfl⟩):p:=t
def AaZ{p:Prop}(t:p:=by go_enter func66,ntmps66;(go_wp2_with (go_at_call 109;refine(bC _ _ _ _).mono ?_;rintro e w1 ⟨rfl,rfl⟩));go_ret;exact⟨aU V.symm,rfl⟩):p:=t
def AaW{p:Prop}(t:p:=by go_enter func115,ntmps115;(go_wp2_with (go_at_call 116;refine(dC _ _ _ _).mono ?_;rintro e w1 ⟨rfl,rfl⟩));go_ret;exact⟨aU V.symm,rfl⟩):p:=t
def Aaf{p:Prop}(t:p:=by go_enter func117,ntmps117;(go_wp2_with (first|(go_at_call 116;refine(dC _ _ _ _).mono ?_;rintro e w1 ⟨rfl,rfl⟩)|(go_at_call 115;refine(bP ⟨_,_⟩ _).mono ?_;rintro e w1 ⟨rfl,rfl⟩)));go_ret;exact⟨aU V.symm,Ext.new _ _⟩):p:=t
def AbD{p:Prop}(t:p:=by go_enter func117,ntmps117;(go_wp2_with (first|(go_at_call 116;refine(dC _ _ _ _).mono ?_;rintro e w1 ⟨rfl,rfl⟩)|(go_at_call 115;refine(bP ⟨_,_⟩ _).mono ?_;rintro e w1 ⟨rfl,rfl⟩)));go_ret;exact⟨aU V.symm,(Ext.new _ _).trans (Ext.new _ _)⟩):p:=t
def AcG{p:Prop}(t:p:=by simp[bZ,h,D,F,H]):p:=t
def Aac{p:Prop}(t:p:=by go_enter func111,ntmps111;(go_wp2_with (first|(go_at_call 109;refine(bC _ _ _ _).mono ?_;rintro e w1 ⟨rfl,rfl⟩)|(go_at_call 66;refine(bK ⟨_,_⟩ _).mono ?_;rintro e w1 ⟨rfl,rfl⟩)));go_quiet (fail);(go_wp2_with (first|(go_at_call 109;refine(bC _ _ _ _).mono ?_;rintro e w1 ⟨rfl,rfl⟩)|(go_at_call 66;refine(bK ⟨_,_⟩ _).mono ?_;rintro e w1 ⟨rfl,rfl⟩)));go_ret;exact⟨aU V.symm,(Ext.new _ _).drewN _⟩):p:=t
def AbB{p:Prop}(t:p:=by go_enter func111,ntmps111;(go_wp2_with (first|(go_at_call 109;refine(bC _ _ _ _).mono ?_;rintro e w1 ⟨rfl,rfl⟩)|(go_at_call 66;refine(bK ⟨_,_⟩ _).mono ?_;rintro e w1 ⟨rfl,rfl⟩)));go_quiet (fail);(go_wp2_with (first|(go_at_call 109;refine(bC _ _ _ _).mono ?_;rintro e w1 ⟨rfl,rfl⟩)|(go_at_call 66;refine(bK ⟨_,_⟩ _).mono ?_;rintro e w1 ⟨rfl,rfl⟩)));go_ret;exact⟨aU V.symm,((Ext.new _ _).drewN _).trans (Ext.new _ _)⟩):p:=t
def AaG{p:Prop}(t:p:=by clear hc;go_enter func64,ntmps64;(go_wp2_with (first|(go_at_call 63;refine(Q _).mono ?_;rintro e w1 ⟨rfl,rfl⟩)|(go_at_call 108;refine(BL _ _ _ _ _ _ h j).mono ?_;rintro e w1 ⟨rfl,rfl⟩)));go_ret;exact⟨aO I.symm,rfl⟩):p:=t
def Aao{p:Prop}(t:p:=by go_enter func110,ntmps110;go_wp2;go_ret;exact⟨aO V.symm,(Ext.new _ _).trans (Ext.new _ _)⟩):p:=t
def AbR{p:Prop}(t:p:=by simp[jc,btw]<;>omega):p:=t
def AcA{p:Prop}(t:p:=by have V:Hid (jc n1 n2 ⟨D,1,obj,en,⟨r,x⟩,B,l,ct,vt,sat,j⟩=9):=aJ AbR;exact Aao):p:=t
def AcS{p:Prop}(t:p:=by have V:Hid (jc n1 n2 ⟨D,2,obj,en,⟨r,x⟩,B,l,ct,vt,sat,j⟩=9):=aJ AbR;exact Aao):p:=t
def AaI{p:Prop}(t:p:=by
 generalize (b.links.getD 0 η).bus=b0 at f0 B;have T:((bus:Int)==b0)=ζ:=ae;clear B;go_wp2;go_quiet (fail);go_wp2;go_roundw
 case rel=>exact⟨2,aa,rfl,fP P.o I.o,(M.alloc _).drewN _⟩
 case measure=>simp[intOf];omega):p:=t
def AbN{p:Prop}(t:p:=by go_enter func112,ntmps112;go_wp2;go_ret;exact⟨aO V.symm,(Ext.new _ _).trans (Ext.new _ _)⟩):p:=t
def Ack{p:Prop}(t:p:=by rw[V.o];exact dB P.o I.o aj L):p:=t
def AcO{p:Prop}(t:p:=by rw[B] at f0;clear B;have T:((bus:Int)==bus)=ε:=ag;go_wp2;go_quiet (fail);go_wp2;go_ret;exact⟨aO Ack,((D.trans M.o).alloc _).drewN _⟩):p:=t
def Ac3{p:Prop}(t:p:=by
 go_wp2;go_quiet (fail);go_wp2;go_roundw
 case rel=>exact⟨1,aa,rfl,fP P.o I.o,(M.alloc _).drewN _⟩
 case measure=>simp[intOf];omega):p:=t
def Ade{p:Prop}(t:p:=by rw[fe];omega):p:=t
def Adk{p:Prop}(t:p:=by have:=hc 0 _ rfl;rwa[aa0] at this):p:=t
def Ado{p:Prop}(t:p:=by have I:Hid (gT n0 b k=9):=aJ (by rw[F.o,θ Ade]);go_wp2;go_ret;exact⟨aO Ack,(D.trans M.o).alloc _⟩):p:=t
def Adu{p:Prop}(t:p:=by have:=H.o;omega):p:=t
def Acj{p:Prop}(t:p:=by rw[nS,aW];omega):p:=t
def Abp{p:Prop}(t:p:=by rw[fU _ _ (by rw[aW,aW])] at this;exact this):p:=t
def Aa0{p:Prop}(t:p:=by exact Bd.mono (m:=1) (Dn aj aj (κ 1)) aa):p:=t
def Abg{p:Prop}(t:p:=by rw[rF];omega):p:=t
def AbI{p:Prop}(t:p:=by rw[nS,aW,aW];omega):p:=t
def Abd{p:Prop}(t:p:=by intro u N;obtain⟨x,_,rfl⟩:=aad.1 N;rfl):p:=t
def AaX{p:Prop}(t:p:=by
 go_roundw
 case rel=>exact⟨k+1,aa,au,J.o,W.o⟩
 case measure=>simp[intOf];omega):p:=t
def Ab3{p:Prop}(t:p:=by rw[K.o,<-abO];simpa using T):p:=t
def AcI{p:Prop}(t:p:=by simp[Value.oneCell']):p:=t
def Adj{p:Prop}(t:p:=by simp<;>omega):p:=t
theorem Ads{p:Prop}(t:p:=by unfold maxLen;omega):p:=t
def AaL{p:Prop}(t:p:=by (go_wp2_with fail);refine(vH nm A0 n0 c0 A1 n1 c1 A2 n2 c2 _ n3 c3 b h.A h.n h.c _ (R.ext (D.trans H.o))).mono ?_;rintro e w3 ⟨rfl,F⟩;(go_wp2_with fail);go_ret;exact⟨aO l.symm,(D.trans H.o).trans F⟩):p:=t
def AbK{p:Prop}(t:p:=by have:=Z.o;omega):p:=t
def Aan{p:Prop}(t:p:=by go_enter aen,adA;(go_wp2_with (first|(go_at_call 63;refine(Q _).mono ?_;rintro e w1 ⟨rfl,rfl⟩)));go_quiet (fail);(go_wp2_with fail);go_ret;exact⟨aO V.symm,(Ext.new _ _).drewN _⟩):p:=t
def AbQ{p:Prop}(t:p:=by rw[<-h];exact HV.o):p:=t
def Acs{p:Prop}(t:p:=by rw[O.o];rfl):p:=t
theorem AcR{p:Prop}(t:p:=by
 intro h;have:rZ s=ε:=by
  unfold rZ;rw[Wl,S,T,Wx];simp;omega
 rw[hc] at this;cases this):p:=t
def Ac7{p:Prop}(t:p:=by have d4:decide ((16:Int)<(n3:Int))=ζ:=ae;exact absurd ⟨aa,aa,aa,aa,aa⟩ HC.o):p:=t
def AcY{p:Prop}(t:p:=by intro e;injection e with e;omega):p:=t
def Aat{p:Prop}(t:p:=by clear J K Y1 Y2;simp only[bT,ρ,χ];go_wp2;go_ret;have hm:=step_mod (B:=B) (i:=2) (u:=.slice (γ ⟨g,0,δ⟩) (m1+1) F) G2.o G3.o;refine⟨aO HV.symm,WS.trans (kv R1.o N Wp hm),fun _=>⟨N,?_,_,_,_,_,Wm.qg 2 _,⟨_,iM R0.o R1.o aj N hm⟩,⟨_,lZ Ws.o (Mod.only (S:=fun k=>k=B) (Only.set _ _ _ _) rfl) (fun g' Y=>by have:=(Ws.lt g' Y).1;omega)⟩,⟨_,iM R2.o R1.o aj N hm⟩,iM R3.o R1.o aj N hm⟩⟩;have hn:=oI (B:=B) (i:=2) (u:=.slice (γ ⟨g,0,δ⟩) (m1+1) F) (Nam.put D1.o D2.o D3.o WV.o) RR.o N G3.o;simpa using hn):p:=t
def AbS{p:Prop}(t:p:=by simp at hb;rcases hb with rfl|rfl<;>first|exact Wu|exact Q):p:=t
def Acd{p:Prop}(t:p:=by (go_wp2_with fail);refine(bP x.z1 _).mono ?_;rintro e w1 ⟨rfl,rfl⟩;rw[C.o];(go_wp2_with fail);refine(bP x.z0 _).mono ?_;rintro e w1 ⟨rfl,rfl⟩;rw[WJ.o];go_wp2;go_ret;exact⟨aO HV.symm,WW.trans (((Ext.new _ _).alloc _).mono ae),fun e=>absurd (HV.symm.trans e) aj⟩):p:=t
def Adc{p:Prop}(t:p:=by (go_wp2_with fail);refine(bP x.z1 _).mono ?_;rintro e w1 ⟨rfl,rfl⟩;rw[C.o];go_wp2;go_ret;exact⟨aO HV.symm,WW.trans ((Ext.new _ _).mono ae),fun e=>absurd (HV.symm.trans e) aj⟩):p:=t
def Adn{p:Prop}(t:p:=by (go_wp2_with fail);refine(iH HB.o x.name).mono ?_;rintro e w1 ⟨rfl,rfl⟩;rw[WM.o];go_wp2;go_ret;exact⟨aO V.symm,WW.o,fun e=>absurd (V.symm.trans e) HN.o⟩):p:=t
def Adv{p:Prop}(t:p:=by rw[<-HE.o,ι rfl]):p:=t
def Aau{p:Prop}(t:p:=by clear J K Y1 Y2;simp only[bT,ρ,χ];go_wp2;go_ret;have hm:=step_mod (B:=B) (i:=3) (u:=.slice (γ ⟨g,0,δ⟩) (m2+1) F) G2.o G3.o;refine⟨aO HV.symm,WS.trans (kv R2.o N Wp hm),fun _=>⟨N,?_,_,_,_,_,Wm.qg 3 _,⟨_,iM R0.o R2.o aj N hm⟩,⟨_,iM R1.o R2.o aj N hm⟩,⟨_,lZ Ws.o (Mod.only (S:=fun k=>k=B) (Only.set _ _ _ _) rfl) (fun g' Y=>by have:=(Ws.lt g' Y).1;omega)⟩,iM R3.o R2.o aj N hm⟩⟩;have hn:=oI (B:=B) (i:=3) (u:=.slice (γ ⟨g,0,δ⟩) (m2+1) F) (Nam.put D1.o D2.o D3.o WV.o) RR.o N G3.o;simpa using hn):p:=t
def AbH{p:Prop}(t:p:=by simp at hb;rcases hb with rfl|rfl<;>first|exact Wu|exact WR):p:=t
def Aak{p:Prop}(t:p:=by
 by_cases WT:k=0
 · subst WT;rw[aa0,Nq] at e0 e1;(go_wp2_with fail);go_quiet ((go_at_call 116;exact abl (HW.o _)));clear I;(go_wp2_with fail);go_ret;exact⟨aO (by rw[V.o];exact dB HZ.o HE.o aj Wj),((D.trans HX.o).alloc _).drewN _⟩
 · obtain rfl:k=1:=aa;rw[show lo+1*2=lo+2 from rfl] at e0 e1;(go_wp2_with fail);go_quiet ((go_at_call 116;exact abl (HW.o _)));clear I;(go_wp2_with fail);go_ret;exact⟨aO (by rw[V.o];exact dB HZ.o HE.o aj Wj),((D.trans HX.o).alloc _).drewN _⟩):p:=t
def AbG{p:Prop}(t:p:=by
 generalize (b.links.getD 0 η).bus=b0 at f0 W;have T:((b0:Int)==bus)=ζ:=ae;clear W;(go_wp2_with fail);go_quiet ((go_at_call 116;exact abl (HW.o _)));clear I;(go_wp2_with fail);go_quiet (fail);go_wp2;go_roundw
 case rel=>exact⟨2,aa,rfl,fP HZ.o HE.o,(HX.alloc _).drewN _⟩
 case measure=>simp[intOf];omega):p:=t
def Acc{p:Prop}(t:p:=by rw[W] at f0;clear W;have T:((bus:Int)==bus)=ε:=ag;(go_wp2_with fail);go_quiet ((go_at_call 116;exact abl (HW.o _)));clear I;(go_wp2_with fail);go_quiet (fail);go_wp2;go_ret;exact⟨aO (by rw[V.o];exact dB HZ.o HE.o aj Wj),(((D.trans HX.o).alloc _).drewN _).drewN _⟩):p:=t
def AcJ{p:Prop}(t:p:=by
 (go_wp2_with fail);go_quiet ((go_at_call 116;exact abl (HW.o _)));clear I;(go_wp2_with fail);go_quiet (fail);go_wp2;go_roundw
 case rel=>exact⟨1,aa,rfl,fP HZ.o HE.o,(HX.alloc _).drewN _⟩
 case measure=>simp[intOf];omega):p:=t
def Ac1{p:Prop}(t:p:=by go_enter func118,ntmps118;go_wp2;go_ret;exact⟨aO V.symm,Ext.new _ _⟩):p:=t
def Aap{p:Prop}(t:p:=by
 clear J K Y1 Y2;simp only[bT,ρ,χ];go_wp2;go_ret;have WC:=step_mod (B:=B) (i:=4) (u:=.slice (γ ⟨g,0,δ⟩) (bs.length+1) F) G2.o G3.o;have Wn:=lZ Ws.o (Mod.only (S:=fun k=>k=B) (Only.set _ B 4 (.slice (γ ⟨g,0,δ⟩) (bs.length+1) F)) rfl) (fun g' Y=>by have:=(Ws.lt g' Y).1;omega);refine⟨rfl,WS.trans (kv WY.o N Wp WC),⟨N,?_,_,_,_,_,Wm.qg 4 _,⟨_,iM R0.o WY.o aj N WC⟩,⟨_,iM R1.o WY.o aj N WC⟩,⟨_,iM R2.o WY.o aj N WC⟩,?_⟩⟩
 · have hn:=oI (B:=B) (i:=4) (u:=.slice (γ ⟨g,0,δ⟩) (bs.length+1) F) (Nam.put D1.o D2.o D3.o WV.o) RR.o N G3.o;simpa using hn
 · rw[ady,q8];exact Wn):p:=t
def Acp{p:Prop}(t:p:=by rintro e w1 ⟨rfl,rfl⟩;go_wp2;go_ret;exact⟨aO HV.symm,WW.o,fun e=>absurd (HV.symm.trans e) aj⟩):p:=t
def Adq{p:Prop}(t:p:=by simpa using q3):p:=t
def AaB{p:Prop}(t:p:=by
 go_roundw
 case rel=>exact⟨k+1,aa,au,fP HZ.o I.o,WR.o,W.o⟩
 case measure=>simp[intOf];omega):p:=t
def Acg{p:Prop}(t:p:=by (go_wp2_with fail);go_ret;exact⟨aO Y.o,W.o,fun e=>absurd (Y.trans e) HE.o⟩):p:=t
def AcL{p:Prop}(t:p:=by (go_wp2_with fail);go_ret;exact⟨aO (dh HZ.o).symm,HX.o,fun _=>HB.o⟩):p:=t
def Ac5{p:Prop}(t:p:=by have:=Wz.o;omega):p:=t
def Adi{p:Prop}(t:p:=by have:=F.o;omega):p:=t
def Aaq{p:Prop}(t:p:=by go_enter func40,ntmps40;(go_wp2_with fail);refine(NM.o _).mono ?_;rintro e w1 ⟨rfl,rfl⟩;go_wp2;go_ret;exact⟨aO V.symm,D.o⟩):p:=t
def AbP{p:Prop}(t:p:=by clear h0;go_wp2;go_ret;exact⟨aO HV.symm,D.trans (R.mono (by rw[<-HM.o];exact κ _))⟩):p:=t
def Acn{p:Prop}(t:p:=by rw[HM.o];exact κ _):p:=t
def Aag{p:Prop}(t:p:=by go_enter func41,ntmps41;go_wp2;go_ret;exact⟨aO L.symm,(Ext.new _ _).trans (Ext.new _ _)⟩):p:=t
def AbF{p:Prop}(t:p:=by
 by_cases g1:f.r<0
 .have dr:decide (f.r<0)=ε:=ae;have L:Hid (iF n0 n1 f=2):=aJ (by rw[I.o,ι (.inl g1)]);exact Aag
 have dr:decide (f.r<0)=ζ:=ae;by_cases g2:1000<f.r
 .have D:decide (1000<f.r)=ε:=ae;have L:Hid (iF n0 n1 f=2):=aJ (by rw[I.o,ι (.inr g2)]);exact Aag
 have D:decide (1000<f.r)=ζ:=ae;have L:Hid (iF n0 n1 f=0):=aJ (by rw[I.o,θ aa]);exact Aag):p:=t
def Ace{p:Prop}(t:p:=by have L:Hid (iF n0 n1 f=10):=aJ (uO M (by have:=V.o;omega));exact Aag):p:=t
def Aay{p:Prop}(t:p:=by intro T hW J;clear J;go_simp;exact⟨Ext.new _ _,fun _=>⟨ag,Blk.new _ _ _⟩,rfl,ag⟩):p:=t
theorem Acf{p:Prop}(t:p:=by have Q:=(WT.o _ _ _ H.o).up (show 64<=4400 by omega);unfold gP;rw[θ (show ¬f.kind<=3 by have:=Z.o;omega),θ (show ¬f.kind<=6 by have:=Z.o;omega),θ (show ¬f.kind<=9 by have:=Z.o;omega),θ aj];exact Q):p:=t
theorem AcN{p:Prop}(t:p:=by have Q:=(WT.o _ _ _ WX.o).up (show 2600<=4400 by omega);unfold gP;rw[ι Z.o];exact Q):p:=t
def Ac2{p:Prop}(t:p:=by intro T hW J;clear J;go_simp;exact⟨Ext.refl _,fun h=>absurd h aj,rfl⟩):p:=t
def Aa7{p:Prop}(t:p:=by ext<;>simp only[aeF,GQ.bf,GQ.aY]<;>grind):p:=t
def Aal{p:Prop}(t:p:=by have Xe:=aJ (j ▸ I.s);clear j;(go_wp2_with (refine σ rfl 102 _ rfl g7 (0) rf (aM 3 fr) _ Wn.o Bn rfl (jA _) (Hid.o ?_)));refine aJ ?_;refine Qp ?_;refine aL rfl 102 (.tmp 6) (.tmp 46) rfl g6 (0) (aM 3 fr) rf rf O.o (jA _) (bY 3 _) (fun we Q=> ?_);refine Qp ?_;replace Q:=Hid.o Q;have Y:=aJ (Xe.fin Q);clear Q;(go_wp2_with fail);exact iC rfl rfl rf Y.o.1 Bn rfl (nI _) ⟨_,rfl,fun k hk=>Y.o.2.2 _ _ _ (WW.o k hk),Y.o.2.1⟩):p:=t
def AbL{p:Prop}(t:p:=by
 go_roundw
 case rel=>exact⟨n+1,aa,au,_,Wq.o⟩
 case measure=>simp[intOf];omega):p:=t
def AcU{p:Prop}(t:p:=by rw[XX];rfl):p:=t
def Ac8{p:Prop}(t:p:=by rw[XW];rfl):p:=t
def Adg{p:Prop}(t:p:=by intro T J;go_simp;exact⟨Ext.refl _,by show _=_;simp[Xp]⟩):p:=t
def Abu{p:Prop}(t:p:=by go_enter func80,ntmps80;go_wp2;go_ret;exact⟨aO HV.symm,D.o⟩):p:=t
def AbT{p:Prop}(t:p:=by obtain rfl:n3=k:=aa;have HV:Hid (jb s p=0):=aJ (J8 H3.o Wn.o WK.o HZ.o WY.o);(go_wp2_with fail);go_ret;exact⟨aO HV.symm,D.trans HX.o⟩):p:=t
def Acw{p:Prop}(t:p:=by rw[WS.o];exact h3):p:=t
def AaS{p:Prop}(t:p:=by have HV:Hid (jb s p=16):=aJ (tK H3.o Wn.o WK.o HZ.o I (by rw[M.o];exact J) (by rw[R.o];exact sV aa (.inr ⟨aa,aa⟩)));go_wp2;go_ret;exact⟨aO HV.symm,D.trans HX.o⟩):p:=t
def AcX{p:Prop}(t:p:=by go_enter func39,ntmps39;go_wp2;go_ret;exact⟨aO HV.symm,D.o⟩):p:=t
def AcD{p:Prop}(t:p:=by
 rcases Na n with j|j
 .exact j
 .obtain⟨_,_,e,_⟩:=h j;cases e):p:=t
def AaR{p:Prop}(t:p:=by have:=WC.o;omega):p:=t
def AbY{p:Prop}(t:p:=by have:=B.o.2;show q1≠q3;omega):p:=t
theorem AcH{p:Prop}(t:p:=by unfold sides;rw[θ (by rw[hk];decide),hk];rfl):p:=t
def Aco{p:Prop}(t:p:=by
 go_roundw
 case rel=>exact⟨j+1,_,aa,au,Wt.o,by rw[HJ.o];exact Xn.o,WM.o⟩
 case measure=>simp[intOf];omega):p:=t
def AbM{p:Prop}(t:p:=by have:=WJ.o;omega):p:=t
def Aab{p:Prop}(t:p:=by
 (go_wp2_with fail);go_quiet (fail);generalize Wp:we.drewN nq=wq;have WJ:Ext we wq:=by rw[<-Wp];exact(Ext.refl _).drewN _
 replace Wq:=Wq.aA WJ;replace Wl:=Wl.aA WJ;clear WJ Wp WQ WO WE WN;have WQ:wq.cell? ⟨WI,0,δ⟩=γ (.int .i64 (b.a:Int)):=(Wl.cell 0).trans (by rw[<-U.o.1];rfl);have WO:wq.cell? ⟨WI,1,δ⟩=γ (.int .i64 (b.b:Int)):=(Wl.cell 1).trans (by rw[<-U.o.2];rfl);clear hq Wl;(go_wp2_with fail);clear WQ WO;go_loopw [2,44] (fun cv jv wx=>∃(j:Nat) (F:Bool),j<=2/\jv=.int .i64 j/\cv=.bool F/\Rv w wx gx C E bs (stp b G j)/\cnt L 18<=cnt (stp b G j) 18/\(F=ζ->ch=ζ/\stp b G j=G)/\(F=ε->cnt L 18<cnt (stp b G j) 18)) (fun _ jv _=>2-(intOf jv).toNat)
 case atStart=>exact⟨0,ch,aa,rfl,rfl,Wq.o,T.le,fun h=>⟨h,rfl⟩,T.yes⟩
 case round=>
  rename World=>wx;obtain⟨j,F,hj,rfl,rfl,WM,WP,Wm,Wt⟩:=hrel;have Y:=aJ WM;have WC:=aJ WP;have W:=aJ Wm;have Wn:=aJ Wt;clear WM WP Wm Wt Wq;by_cases M:j<2
  .have WA:decide ((j:Int)<2)=ε:=ae;have Yp:=Ry (a:=b.a) (b:=b.b) M wx;obtain⟨n,hn⟩:∃n,(if j=0 then b.a else b.b)=n:=⟨_,rfl⟩;rw[hn] at Yp;have WW:n<=17:=by rw[<-hn];split<;>omega
   have J:=wR b G M;rw[hn,WF.o] at J;have l:=aJ J;have WG:=aJ hn;clear J hn;have O:n≠17->JoinD bs n:=fun D=>by
    rw[<-WG.o] at D⊢;split
    .exact Jh HM.o Xg.sub Q.o WF.o
    .rename_i h0;rw[θ h0] at D;exact JJ HM.o Xg.sub Q.o WF.o D
   have Wo:=aJ O;clear O;have Wv:=Y.g.cell_ (k:=15+n) aa ((dz aa).trans (mD aa));have r1:(0:Int)<=(n:Int):=aa;have r2:(n:Int)<18:=aa;by_cases N:n=17
   .have WY:((n:Int)==17)=ε:=by rw[N];rfl
    have B:=aJ (oM (lb:=ε) (n:=n) (L:=stp b G j) (Or.inr (Or.inl N)));go_wp2_with fail
    go_roundw
    case rel=>exact⟨j+1,F,aa,au,rfl,by rw[l.o,B.o];exact Y.o,by rw[l.o,B.o];exact WC.o,fun h=>by rw[l.o,B.o];exact W.o h,fun h=>by rw[l.o,B.o];exact Wn.o h⟩
    case measure=>simp[intOf];omega
   .have WY:((n:Int) !=17)=ε:=ae;have Xe:¬((n:Int)=17):=aa;cases Wx:stp b G j n with
    |true=>
     rw[Wx] at Wv;have Z:=aJ Wx;clear Wx;have B:=aJ (oM (lb:=ε) (n:=n) (L:=stp b G j) (Or.inr (Or.inr Z.o)));go_wp2_with fail
     go_roundw
     case rel=>exact⟨j+1,F,aa,au,rfl,by rw[l.o,B.o];exact Y.o,by rw[l.o,B.o];exact WC.o,fun h=>by rw[l.o,B.o];exact W.o h,fun h=>by rw[l.o,B.o];exact Wn.o h⟩
     case measure=>simp[intOf];omega
    |false=>
     rw[Wx] at Wv;have Z:=aJ Wx;clear Wx;have Xf:=Y.g.frozen (15+n);have WV:=aJ (Y.set (n:=n) aa (Wo.o N));have V:=yU Z.o 18;rw[ι aa] at V;have Ww:=aJ V;clear V;have R:=aJ N;clear N;go_wp2_with fail
     go_roundw
     case rel=>exact⟨j+1,ε,aa,au,rfl,by rw[l.o,jQ rfl R.o Z.o];exact WV.o,by rw[l.o,jQ rfl R.o Z.o,Ww.o];have:=WC.o;omega,(fun h=>by cases h),fun _=>by rw[l.o,jQ rfl R.o Z.o,Ww.o];have:=WC.o;omega⟩
     case measure=>simp[intOf];omega
  .obtain rfl:j=2:=aa;have WA:decide ((2:Int)<2)=ζ:=aj
   go_wp2_with fail
   go_roundw
   case rel=>exact⟨i+1,stp b G 2,F,aa,by rw[K.o];rfl,rfl,Y.o,DL Q.o 2,T.next WZ.o WC.o (W.o) (Wn.o)⟩
   case measure=>rw[K.o];simp[intOf];omega):p:=t
def Acm{p:Prop}(t:p:=by rw[WT];exact(Blk.new wz 167 zBr).there (show 0+(Bv i).cs.length<=zBr.size from κ 20)):p:=t
def Abv{p:Prop}(t:p:=by
 rintro(e|e)
 .exact Blk.eF h.b7 h.g.r.g aj e
 .exact h.g.r.own.ne h.b7 aj e):p:=t
theorem Abs{p:Prop}(t:p:=by
 unfold oC at hp;split at hp
 .rename_i x j;exact(hn ⟨x,j⟩).elim
 .exact hp):p:=t
def AaH{p:Prop}(t:p:=by rintro(e|e);exact Blk.eF XE L.g.r.g aj e;exact L.g.r.own.ne XE aj e):p:=t
def Ach{p:Prop}(t:p:=by rw[nS,aW];exact κ 12):p:=t
def AcM{p:Prop}(t:p:=by have:=WK.o;omega):p:=t
def Ac0{p:Prop}(t:p:=by
 go_roundw
 case rel=>exact⟨l+1,aa,rf,_,_,_,by rw[WF.o,<-Ha,WR.o,<-YF.o,show 2*(l+1)=2*l+1+1 by omega];exact Wq.o⟩
 case measure=>simp[intOf];omega):p:=t
def Adf{p:Prop}(t:p:=by have:=Wo.o;omega):p:=t
def Adm{p:Prop}(t:p:=by have:=Xm.o;omega):p:=t
def Adr{p:Prop}(t:p:=by rw[nS,iJ,q8,fJ,fJ];omega):p:=t
def Aas{p:Prop}(t:p:=by
 go_roundw
 case rel=>exact⟨i+1,aa,by rw[Xy.o];rfl,_,_,_,Wq.o⟩
 case measure=>rw[Xy.o];simp[intOf];omega):p:=t
def Ac4{p:Prop}(t:p:=by rw[WO.o];exact H1.o):p:=t
def Adh{p:Prop}(t:p:=by have:=YH.o;omega):p:=t
theorem Aae{p:Prop}(t:p:=by
 clear Z;rename World=>wr;obtain⟨i3,WS,rfl,hR⟩:=hrel;have I:=aJ hR;clear hR;by_cases Ww:i3<18
 .have Xc:decide ((i3:Int)<18)=ε:=ae;have WE:=KR (L:=lv brs) Ww wr;have q1:(0:Int)<=(i3:Int):=aa;have q2:(i3:Int)<18:=aa;cases hL:lv brs i3 with
  |false=>
   rw[hL] at WE;have HL:=aJ hL;go_wp2_with fail
   go_roundw
   case rel=>exact⟨i3+1,aa,au,I.skip HL.o⟩
   case measure=>simp[intOf];omega
  |true=>
   rw[hL] at WE;have HL:=aJ hL;have Wt:∃r,rwx (lv brs) i3=r:=⟨_,rfl⟩;obtain⟨r3,WR⟩:=Wt;have Xi:r3<n:=by rw[<-WR,<-Q.o];exact(ae2 (fun k hk=>sI HN.ok hk)).lt _ HL.o
   have Xh:wr.cell? ⟨g10,i3,δ⟩=γ (.int .i64 (r3:Int)):=I.b10.cell_ (k:=i3) aa (by simp only[ι Ww,WR]);have Y:=aJ WR;clear WR;have kh:=I.hd Xi;obtain⟨e3,XB,Xk⟩:=I.en Xi;have Xw:wr.rangeAt (RX r3).b 0 e3.cells:=fun t v hv=>(by rw[aaw];exact Xk t v hv);have WV:=aJ XB;have XD:=aJ Xw;clear XB Xk Xw;have O:=aJ (I.there Ww);have q3:(0:Int)<=(r3:Int):=aa;have q4:(r3:Int)<(n:Int):=aa;(go_wp2_with (refine σ rfl 42 _ rfl (RX r3).b 0 rf e3.cells _ XD.o aby rfl bE (Hid.o ?_)));refine aJ ?_;refine Qp ?_;(go_wp2_with (refine aN rfl 42 (.tmp 143) (.tmp 142) rfl g9 (i3*6) e3.cells rf rf O.o bE (dM e3) (fun wb l=>Hid.o ?_)));refine aJ ?_;refine Qp ?_;have Wq:=aJ (I.put Ww HL.o (by rw[Y.o];exact WV.o) (wr':=puts wr g9 (i3*6) e3.cells) rfl);clear I WV XD O Xh kh WE;go_wp2_with fail
   go_roundw
   case rel=>exact⟨i3+1,aa,au,Wq.o⟩
   case measure=>simp[intOf];omega
 .obtain rfl:i3=18:=aa;have Xc:decide ((18:Int)<18)=ζ:=aj;obtain⟨f9,XE,WW⟩:=I.b9;have XF:wr.rangeAt g9 0 (aM 18 f9):=fun t v hv=>(by rw[aaw];exact(XE.cell t).trans (by rw[Ξ];exact hv));have XC:wr.there g8 0 (aM 18 f9).length:=I.b8.there (by rw[nS,aW,aW];omega);have WG:=aJ XE;have WU:=aJ WW;have Xz:=aJ XF;have O:=aJ XC;clear XE WW XF XC;(go_wp2_with (refine σ rfl 100 _ rfl g9 0 rf (aM 18 f9) _ Xz.o underlying100 rfl (kP f9) (Hid.o ?_)));refine aJ ?_;refine Qp ?_;refine aN rfl 100 (.tmp 8) (.tmp 145) rfl g8 0 (aM 18 f9) rf rf O.o (kP f9) (bY 18 f9) ?_;intro wb l;refine Qp ?_;have WF:=aJ (I.fin WG.o WU.o l);clear I WG WU Xz O l;(go_wp2_with fail);refine iC rfl rfl rf WF.o.1 underlying100 rfl (Ca f9) ⟨f9,rfl,fun k hk=> ?_,WF.o.2.1⟩;have h1:=WF.o.2.2 k hk;unfold nJ;rw[Q.o];(try simp only[Y0,abv,Ad]);exact h1.to (Kl HN.ok HN.l23 Xx.o Q.o (k:=k) hk)):p:=t
def AbO{p:Prop}(t:p:=by
 go_roundw
 case rel=>exact⟨i+1,aa,by rw[K.o];rfl,by rw[Dy (by have:=Xm.o;omega) Xp.o,Ep (by have:=Xm.o;omega) Xp.o];exact I.ext ((Ext.refl _).drewN _)⟩
 case measure=>rw[K.o];simp[intOf];omega):p:=t
def AcW{p:Prop}(t:p:=by rw[l];exact Blk.new _ _ _):p:=t
def Adt{p:Prop}(t:p:=by have:=Xd.o;omega):p:=t
def AaO{p:Prop}(t:p:=by rw[q8,B,C];omega):p:=t
def Acx{p:Prop}(t:p:=by simp only[q8,PI,acS,I,C];omega):p:=t
def AaM{p:Prop}(t:p:=by have h:=(I.ext R.o).g.there (e:=18+i) aa;rw[show 33+(18+i)*6=141+i*6 by omega] at h;exact h):p:=t
def Aci{p:Prop}(t:p:=by have h:=(I.ext R.o).g.there (e:=36+i) aa;rw[show 33+(36+i)*6=249+i*6 by omega] at h;exact h):p:=t
def AcK{p:Prop}(t:p:=by
 go_roundw
 case rel=>exact⟨i+1,aa,au,_,I.to (fun e U hd=>xC Wj U hd)⟩
 case measure=>simp[intOf];omega):p:=t
def AcZ{p:Prop}(t:p:=by have h:=(I.ext R.o).g.there (e:=i) aa;rw[show 33+(i)*6=33+i*6 by omega] at h;exact h):p:=t
def Adl{p:Prop}(t:p:=by
 go_roundw
 case rel=>exact⟨i+1,aa,au,_,I.to (fun e U _=>⟨U,FN U⟩)⟩
 case measure=>simp[intOf];omega):p:=t
def Adp{p:Prop}(t:p:=by rw[l];exact(Blk.new w2 100 _).there AbI):p:=t
theorem Aa8{p:Prop}(t:p:=by unfold xA at this;rw[ι ⟨j,B⟩] at this;exact this):p:=t
def AcE{p:Prop}(t:p:=by rw[Q];exact((((Ext.new _ _).alloc _).alloc _).alloc _)):p:=t
def AcV{p:Prop}(t:p:=by rw[Q];exact(((Blk.new _ _ _).alloc _).alloc _).alloc _):p:=t
def Ada{p:Prop}(t:p:=by rw[Q];exact((aeE _ _ (bF _ _)).alloc _).alloc _):p:=t
theorem Abw{p:Prop}(t:p:=by unfold chunk;rw[ι aa,show(j*6+t)%6=t by omega];exact(U t F).mod D hS):p:=t
def Abf{p:Prop}(t:p:=by intro T J;go_simp;rw[JW _ (by have:=YH.o;omega)];exact⟨Ext.new _ _,rfl,ag,Blk.new _ _ _⟩):p:=t
def Ab8{p:Prop}(t:p:=by rw[nS,iK,iK];omega):p:=t
def AaT{p:Prop}(t:p:=by have:=Wo.d;omega):p:=t
def Ab4{p:Prop}(t:p:=by rintro W ⟨x,rfl⟩;exact(Wn.ext x.ext).Di (m:=a) (by have:=HA.o;omega) rfl):p:=t
def Acu{p:Prop}(t:p:=by rintro W ⟨x,rfl⟩;exact(K.ext x.ext).Di (m:=a) (by have:=HA.o;omega) rfl):p:=t
def Adb{p:Prop}(t:p:=by have:=Xp.o;omega):p:=t
def AaF{p:Prop}(t:p:=by go_enter func38,ntmps38;(go_wp2_with fail);go_ret;exact LgP.yes (Ext.new _ _)):p:=t
def AcF{p:Prop}(t:p:=by
 go_roundw
 case rel=>exact⟨i+1,aa,au,I.o⟩
 case measure=>simp[intOf];omega):p:=t
def aa{p:Prop}(h:p:=by omega):p:=h
def ae{p:Prop}(h:p:=by simp;omega):p:=h
def ag{p:Prop}(h:p:=by simp):p:=h
def rf{p:Prop}(h:p:=by rfl):p:=h
def ah{p:Prop}(h:p:=by kernel_rfl):p:=h
def aj{p:Prop}(h:p:=by decide):p:=h
def ak{p:Prop}(h:p:=by grind):p:=h
def au{p:Prop}(h:p:=by go_num):p:=h
def Gw{p q : Prop}(h : q)(t : Hid q -> p := by intro h;go_wp2_with fail;exact h.o): p := t h
def Gm{p : Prop}{P : Program}{f : FuncId}{a : Array Value}{w : World}{G q : Ending -> World -> Prop}(c : Calls P f a w G)(h : ∀ e w', G e w' -> q e w')(t : Hid (Calls P f a w G) -> Hid (∀ e w', G e w' -> q e w') -> p := by intro c h;go_wp2_with fail;exact c.o.mono h.o): p := t c h
def val:List Nat->Nat
 |[]=>0
 |d::l=>d+4294967296*val l
def Dig (l:List Nat):Prop:=∀d∈l,d<4294967296
def ae0:Dig []:=by intro d h;cases h
def Dig.cons{d l}(hd:d<4294967296)(Z:Dig l):Dig (d::l):=by
 intro x j;cases j with
 |head=>exact hd
 |tail _ h=>exact Z x h
def Dig.head{d l}(h:Dig (d::l)):d<4294967296:=h d ag
def Dig.tail{d l}(h:Dig (d::l)):Dig l:=fun x j=>h x (by simp[j])
def Dig.append{a b}(ha:Dig a)(hb:Dig b):Dig (a++b):=by
 intro x j;rcases aag.1 j with h|h
 .exact ha x h
 .exact hb x h
def Dig.one{d}(h:d<4294967296):Dig [d]:=Dig.cons h ae0
def Dig.take{l}(h:Dig l)(k):Dig (l.take k):=fun x j=>h x (adj j)
def Dig.drop{l}(h:Dig l)(k):Dig (l.drop k):=fun x j=>h x (List.mem_of_mem_drop j)
def Dig.at_{l}(h:Dig l){k x:Nat}(j:l[k]? =γ x):x<4294967296:=h x (xx j)
def Dig.replicate(k):Dig (List.replicate k 0):=by
 intro x j;rw[List.mem_replicate] at j;omega
def Dig.set{l}(h:Dig l)(k){x}(C:x<4294967296):Dig (l.set k x):=by
 intro y B;rcases List.mem_or_eq_of_mem_set B with j|j
 .exact h y j
 .omega
def val_append(a b):val (a++b)=val a+4294967296^a.length*val b:=by
 induction a with
 |nil=>simp[val]
 |cons d l ih=>simp only[ξ,val,ih,nC,De,Δ];rw[qb (4294967296^l.length) 4294967296,ω];omega
def uJ(k):val (List.replicate k 0)=0:=by
 induction k with
 |zero=>rfl
 |succ k ih=>simp[abm,val,ih]
def mf(a x):val (a++[x])=val a+4294967296^a.length*x:=by rw[val_append];simp[val]
def bW{l:List Nat}{k x}(B:l[k]? =γ x):val (l.take (k+1))=val (l.take k)+4294967296^k*x:=by
 obtain⟨j,rfl⟩:=μ.1 B;rw[aaS j,mf];simp[aaE (aaH j)]
def jR{l k}(h:l.length<=k):val (l.take k)=val l:=by rw[Λ h]
def BR{l:List Nat}{k}(h:l.length<=k):val (l.take (k+1))=val (l.take k):=by rw[jR h,jR aa]
def gV(l k)(j:k<=l.length):val l=val (l.take k)+4294967296^k*val (l.drop k):=by
 have:=val_append (l.take k) (l.drop k);rw[acg] at this;rw[this];simp[aaE j]
def nY{l}(h:Dig l):val l<4294967296^l.length:=by
 induction l with
 |nil=>simp[val]
 |cons d l ih=>
  have j:=ih h.tail;have B:=h.head;simp only[val,nC,De];omega
def qZ{l k x y}(j:l[k]? =γ x):val (l.set k y)+4294967296^k*x=val l+4294967296^k*y:=by
 induction l generalizing k with
 |nil=>simp at j
 |cons d l ih=>
  cases k with
  |zero=>simp at j;subst j;simp[val];omega
  |succ k=>
   have:=ih (k:=k) (by simpa using j);simp only[Z4,val,De];have e:∀z,4294967296^k*4294967296*z=4294967296*(4294967296^k*z):=fun z=>by rw[qb (4294967296^k) 4294967296,ω]
   rw[e,e];omega
def Canon (l:List Nat):Prop:=∀x,l.getLast? =γ x->x≠0
def afx:Canon []:=by intro x h;simp at h
def rO{d l}(h:Canon (d::l)):Canon l:=by
 intro x j;cases l with
 |nil=>simp at j
 |cons e m=>exact h x (by rw[ac7];exact j)
def Lf{l}(h:Canon l)(Z:l≠[]):0<val l:=by
 induction l with
 |nil=>exact absurd rfl Z
 |cons d l ih=>
  cases l with
  |nil=>have:=h d ag;simp[val];omega
  |cons e m=>
   have:=ih (rO h) ag;simp only[val] at this⊢;omega
def Iz{l}(h:Canon l)(Z:l≠[]):4294967296^(l.length-1)<=val l:=by
 induction l with
 |nil=>exact absurd rfl Z
 |cons d l ih=>
  cases l with
  |nil=>have:=h d ag;simp[val];omega
  |cons e m=>
   have:=ih (rO h) ag;simp only[val,nC,Nat.add_sub_cancel] at this⊢;rw[De];omega
def QA{a b}(ha:Dig a)(hb:Dig b)(C:Canon a)(j:Canon b)(h:val a=val b):a=b:=by
 induction a generalizing b with
 |nil=>
  cases b with
  |nil=>rfl
  |cons d l=>have:=Lf j ag;rw[<-h] at this;simp[val] at this
 |cons d l ih=>
  cases b with
  |nil=>have:=Lf C ag;rw[h] at this;simp[val] at this
  |cons e m=>
   simp only[val] at h;have G:=ha.head;have F:=hb.head;have D:d=e:=aa;have B:val l=val m:=aa;rw[D,ih ha.tail hb.tail (rO C) (rO j) B]
def dV (n:Nat):List Nat:=if h:n=0 then [] else n%4294967296::dV (n/4294967296)
termination_by n
decreasing_by omega
def iQ:dV 0=[]:=by rw[dV];simp
def wL{n}(h:n≠0):dV n=n%4294967296::dV (n/4294967296):=by rw[dV];simp[h]
def bD(n):val (dV n)=n:=by
 induction n using Nat.strongRecOn with
 |_ n ih=>
  by_cases h:n=0
  .subst h;rw[iQ];rfl
  .rw[wL h];have:=ih (n/4294967296) aa;simp only[val,this];omega
def tL(n):Dig (dV n):=by
 induction n using Nat.strongRecOn with
 |_ n ih=>
  by_cases h:n=0
  .subst h;rw[iQ];exact ae0
  .rw[wL h];exact Dig.cons aa (ih (n/4294967296) aa)
def JN{d l}(h:Canon l)(hd:l=[]->d≠0):Canon (d::l):=by
 intro x j;cases l with
 |nil=>simp at j;subst j;exact hd rfl
 |cons e m=>rw[ac7] at j;exact h x j
def oL{n}:dV n=[]↔n=0:=by
 constructor
 .intro h;by_cases j:n=0
  .exact j
  .rw[wL j] at h;cases h
 .rintro rfl;exact iQ
def eu(n):Canon (dV n):=by
 induction n using Nat.strongRecOn with
 |_ n ih=>
  by_cases h:n=0
  .subst h;rw[iQ];exact afx
  .rw[wL h];refine JN (ih (n/4294967296) aa) fun j=> ?_;have:=oL.1 j;omega
def EU{l}(h:Dig l)(c:Canon l):dV (val l)=l:=QA (tL _) h (eu _) c (bD _)
def jG (l:List Nat):Nat->Nat
 |0=>0
 |k+1=>if l.getD k 0=0 then jG l k else k+1
theorem NV(l k):jG l k<=k:=by
 induction k with
 |zero=>simp[jG]
 |succ k ih=>unfold jG;split<;>omega
theorem GI(l k):∀j,jG l k<=j->j<k->l.getD j 0=0:=by
 induction k with
 |zero=>intro j _ h;omega
 |succ k ih=>
  intro j B F;unfold jG at B;split at B
  .rename_i D
   by_cases C:j=k
   .subst C;exact D
   .exact ih j B aa
  .omega
theorem JD(l k)(h:0<jG l k):l.getD (jG l k-1) 0≠0:=by
 induction k with
 |zero=>simp[jG] at h
 |succ k ih=>
  unfold jG at h⊢;split
  .rename_i j
   rw[ι j] at h;exact ih h
  .rename_i j
   simpa using j
def NG{l}(h:∀j,j<l.length->l.getD j 0=0):l=List.replicate l.length 0:=by
 apply aap;intro i;by_cases hi:i<l.length
 .have:=h i hi;simp[hi] at this⊢;exact this
 .simp[Nat.not_lt.1 hi]
def Rk{l}(h:Dig l):l.take (jG l l.length)=dV (val l):=by
 have C:=NV l l.length;have G:l.drop (jG l l.length)=List.replicate (l.length-jG l l.length) 0:=by
  have:=NG (l:=l.drop (jG l l.length)) (fun j D=>by
   have:=GI l l.length (jG l l.length+j) aa (by simp at D;omega);simpa using this)
  simpa using this
 have hv:val l=val (l.take (jG l l.length)):=by
  have:=gV l _ C;rw[this,G,uJ];simp
 rw[hv];refine(EU (h.take _) fun x B=> ?_).symm;by_cases F:jG l l.length=0
 .rw[F] at B;simp at B
 .have:=JD l l.length aa;rw[abY,PI,aaE C] at B;rw[Zb aa] at B;simpa[List.getD,B] using this
def kK{n k}(h:n<4294967296^k):(dV n).length<=k:=by
 by_cases l:dV n=[]
 .simp[l]
 .have:=Iz (eu n) l;rw[bD] at this;rcases aab ((dV n).length-1) k with j|j
  .omega
  .have:=BB (n:=4294967296) aa j;omega
def il{n k}(h:(dV n).length<=k):n<4294967296^k:=by
 have:=nY (tL n);rw[bD] at this;exact π this (BB aa h)
def V7{l n a b c}(hd:Dig l)(B:val l<4294967296^(n+3))(ha:l[n+2]? =γ a)(hb:l[n+1]? =γ b)(hc:l[n]? =γ c):
  ∃r,r<4294967296^n/\val l=(a*(4294967296*4294967296)+b*4294967296+c)*4294967296^n+r:=by
 have hn:n+2<l.length:=(μ.1 ha).1;have j:=gV l (n+3) aa;have F:val (l.drop (n+3))=0:=by
  rcases Na (val (l.drop (n+3))) with h|h
  .exact h
  .have:4294967296^(n+3)*1<=4294967296^(n+3)*val (l.drop (n+3)):=lh _ h;omega
 rw[F,Nat.mul_zero,Nq,bW ha,bW hb,bW hc] at j;refine⟨val (l.take n),?_,?_⟩
 .exact Aby
 .rw[j];have C:4294967296^(n+2)=4294967296^n*(4294967296*4294967296):=by rw[aaJ]
  have D:4294967296^(n+1)=4294967296^n*4294967296:=by rw[De]
  rw[C,D,aaa,aaa,qb (a*(4294967296*4294967296)),qb (b*4294967296),qb c,ω,ω,qb a,qb b];omega
def Wd{l n b c}(hd:Dig l)(Z:l.length=n+2)(hb:l[n+1]? =γ b)(hc:l[n]? =γ c):
  ∃r,r<4294967296^n/\val l=(b*4294967296+c)*4294967296^n+r:=by
 have j:=jR (l:=l) (k:=n+2) aa;rw[bW hb,bW hc] at j;refine⟨val (l.take n),?_,?_⟩
 .exact Aby
 .rw[<-j,De,aaa,qb (b*4294967296),qb c,ω,qb b];omega
section
variable {S V P u2 u1 u0 v1 v0 r s g rest:Nat}
structure rT (S V P u2 u1 u0 v1 v0:Nat):Prop where
 pos:0<P
 hS:∃r,r<P/\S=(u2*(4294967296*4294967296)+u1*4294967296+u0)*P+r
 hV:∃s,s<P/\V=(v1*4294967296+v0)*P+s
 top:2147483648<=v1
 l1:v1<4294967296
 l0:v0<4294967296
 m2:u2<4294967296
 m1:u1<4294967296
 m0:u0<4294967296
 fits:S<4294967296*V
def rT.Rh(t:rT S V P u2 u1 u0 v1 v0):0<V:=by
 rcases Na V with h|h
 .have:=t.fits;rw[h] at this;omega
 .exact h
def rT.Vs(t:rT S V P u2 u1 u0 v1 v0):S/V<4294967296:=by
 rw[aaW t.Rh];exact t.fits
def rT.KC(t:rT S V P u2 u1 u0 v1 v0):u2*4294967296+u1<4294967296*(v1+1):=by
 obtain⟨r,F,hS⟩:=t.hS;obtain⟨s,hs,hV⟩:=t.hV;have C:=t.fits;have H:=t.l0;rcases aab (u2*4294967296+u1) (4294967296*(v1+1)) with h|h
 .exact h
 .exfalso;have G:4294967296*(v1+1)*(4294967296*P)<=(u2*4294967296+u1)*(4294967296*P):=Aa _ h;have D:(u2*4294967296+u1)*(4294967296*P)<=S:=by
   rw[hS];have:(u2*4294967296+u1)*(4294967296*P)=(u2*(4294967296*4294967296)+u1*4294967296)*P:=by rw[<-ω,aaa (u2*4294967296) u1 4294967296,ω u2]
   rw[this];have:(u2*(4294967296*4294967296)+u1*4294967296)*P<=(u2*(4294967296*4294967296)+u1*4294967296+u0)*P:=Aa _ aa;omega
  have l:V<=(v1+1)*(4294967296*P):=by
   rw[hV];have e:(v1+1)*(4294967296*P)=(v1*4294967296+4294967296)*P:=by rw[<-ω,aaa v1 1,aay]
   rw[e];have:(v1*4294967296+v0+1)*P<=(v1*4294967296+4294967296)*P:=Aa _ aa;rw[aaa _ 1,aay] at this;omega
  have j:4294967296*V<=4294967296*((v1+1)*(4294967296*P)):=lh _ l;rw[<-ω] at j;omega
def rT.above(t:rT S V P u2 u1 u0 v1 v0)(h:u2*(4294967296*4294967296)+u1*4294967296+u0<g*(v1*4294967296+v0)):S/V<g:=by
 obtain⟨r,B,hS⟩:=t.hS;obtain⟨s,hs,hV⟩:=t.hV;rw[aaW t.Rh];have j:(u2*(4294967296*4294967296)+u1*4294967296+u0+1)*P<=g*(v1*4294967296+v0)*P:=Aa _ h;rw[aaa _ 1,aay] at j;have l:g*(v1*4294967296+v0)*P<=g*V:=by
  rw[ω];exact lh _ (by rw[hV];omega)
 omega
def rT.first(t:rT S V P u2 u1 u0 v1 v0):S/V<=(u2*4294967296+u1)/v1:=by
 obtain⟨r,C,hS⟩:=t.hS;obtain⟨s,hs,hV⟩:=t.hV;have hv:=t.top;have l:=t.m0;rw[Nat.le_div_iff_mul_le aa];have D:S/V*V<=S:=Nat.div_mul_le_self S V;have B:S/V*(v1*(4294967296*P))<=S/V*V:=by
  refine lh _ ?_;rw[hV];have e:v1*(4294967296*P)=v1*4294967296*P:=by rw[ω]
  have:v1*4294967296*P<=(v1*4294967296+v0)*P:=Aa _ aa;omega
 have F:S<(u2*4294967296+u1+1)*(4294967296*P):=by
  rw[hS];have e:(u2*4294967296+u1+1)*(4294967296*P)=(u2*(4294967296*4294967296)+u1*4294967296+4294967296)*P:=by rw[<-ω,aaa (u2*4294967296+u1) 1 4294967296,aaa (u2*4294967296) u1 4294967296,ω u2,aay]
  rw[e];have:(u2*(4294967296*4294967296)+u1*4294967296+u0+1)*P<=(u2*(4294967296*4294967296)+u1*4294967296+4294967296)*P:=Aa _ aa;rw[aaa _ 1,aay] at this;omega
 have j:S/V*v1*(4294967296*P)<(u2*4294967296+u1+1)*(4294967296*P):=by
  rw[ω];omega
 have:=Nat.lt_of_mul_lt_mul_right j;omega
def rT.close(t:rT S V P u2 u1 u0 v1 v0)(B:g<4294967296)(h:g*(v1*4294967296+v0)<=u2*(4294967296*4294967296)+u1*4294967296+u0):g<=S/V+1:=by
 obtain⟨r,C,hS⟩:=t.hS;obtain⟨s,hs,hV⟩:=t.hV;have hv:=t.top;have D:g*V<=(u2*(4294967296*4294967296)+u1*4294967296+u0)*P+g*P:=by
  rw[hV,Δ,<-ω];have j:g*(v1*4294967296+v0)*P<=(u2*(4294967296*4294967296)+u1*4294967296+u0)*P:=Aa _ h;have l:g*s<=g*P:=lh _ (aaH hs);omega
 have F:g*P<V:=by
  rw[hV];have j:g*P<4294967296*P:=aa5 B t.pos;have l:4294967296*P<=(v1*4294967296+v0)*P:=Aa _ aa;omega
 have G:g*V<S+V:=aa;rcases aab (S/V+1) g with hc|hc
 .exfalso;have j:(S/V+2)*V<=g*V:=Aa _ hc;have l:=Nat.lt_div_mul_add (a:=S) (b:=V) t.Rh;have H:(S/V+2)*V=S/V*V+V+V:=by rw[aaa];omega
  omega
 .exact hc
end
def UK{A C D R u0 X:Nat}(e:X=C+D)(l:A=C+R):D>R+u0↔A+u0<X:=by
 subst e l;constructor
 .intro j;omega
 .intro j;omega
def Bh{u2 u1 u0 v1 v0 g rest}(h:g*v1+rest=u2*4294967296+u1):g*v0>rest*4294967296+u0↔u2*(4294967296*4294967296)+u1*4294967296+u0<g*(v1*4294967296+v0):=
 UK (C:=g*v1*4294967296) (by rw[Δ,<-ω]) aa
def g3 (a b d:Int):Nat:=Nat.gcd (Nat.gcd d.natAbs a.natAbs) b.natAbs
def sgZ (d:Int):Int:=if d<0 then-1 else 1
def gZ (a b d:Int):Int:=sgZ d*(g3 a b d:Int)
def nf (a b d:Int):Int×Int×Int:=(a/gZ a b d,b/gZ a b d,d/gZ a b d)
theorem Iw{a b d}(hd:d≠0):0<g3 a b d:=by
 unfold g3;exact abn _ (abn _ aa)
theorem N7(a b d):(g3 a b d:Int)∣a/\(g3 a b d:Int)∣b/\(g3 a b d:Int)∣d:=by
 unfold g3;refine⟨?_,?_,?_⟩
 .exact aae.2 (aai (I4 _ _) (aal _ _))
 .exact aae.2 (aal _ _)
 .exact aae.2 (aai (I4 _ _) (I4 _ _))
theorem CG{a b d}(hd:d≠0):gZ a b d≠0:=by
 unfold gZ sgZ;have:=Iw (a:=a) (b:=b) hd;split<;>omega
theorem ut{a b d}(hd:d≠0):∃M J I:Int,nf a b d=(M,J,I)/\a=gZ a b d*M/\b=gZ a b d*J/\d=gZ a b d*I/\0<I/\g3 M J I=1:=by
 have H:=CG (a:=a) (b:=b) hd;obtain⟨⟨D,ha⟩,⟨C,hb⟩,⟨B,j⟩⟩:=N7 a b d;have R:=Iw (a:=a) (b:=b) hd;have l:sgZ d*sgZ d=1:=by unfold sgZ;split<;>rfl
 have fac:∀{x Q:Int},x=(g3 a b d:Int)*Q->x=gZ a b d*(sgZ d*Q):=by
  intro x Q h;unfold gZ;rw[h,aaR,abz (g3 a b d:Int),<-aaR,l,Int.one_mul]
 have P:=fac ha;have L:=fac hb;have Z:=fac j;refine⟨sgZ d*D,sgZ d*C,sgZ d*B,?_,P,L,Z,?_,?_⟩
 .unfold nf;have N:a/gZ a b d=sgZ d*D:=by rw[abE H ⟨_,P⟩];exact P
  have K:b/gZ a b d=sgZ d*C:=by rw[abE H ⟨_,L⟩];exact L
  have O:d/gZ a b d=sgZ d*B:=by rw[abE H ⟨_,Z⟩];exact Z
  rw[N,K,O]
 .have S:(0:Int)<(g3 a b d:Int):=aa;unfold sgZ;by_cases hn:d<0
  .rw[ι hn];have:B<0:=by
    rcases acI B 0 with h|h|h
    .exact h
    .rw[h] at j;simp at j;exact absurd j hd
    .have:=Int.mul_pos S h;omega
   omega
  .rw[θ hn];have:0<B:=by
    rcases acI B 0 with h|h|h
    .have:=acQ S h;omega
    .rw[h] at j;simp at j;exact absurd j hd
    .exact h
   omega
 .have F:∀x:Int,(sgZ d*x).natAbs=x.natAbs:=by
   intro x;rw[Ej];unfold sgZ;split<;>simp
  have V:g3 (sgZ d*D) (sgZ d*C) (sgZ d*B)=g3 D C B:=by unfold g3;rw[F,F,F]
  rw[V];have U:g3 a b d=g3 a b d*g3 D C B:=by
   have N:a.natAbs=g3 a b d*D.natAbs:=by
    have:=congrArg Int.natAbs ha;exact Aba
   have K:b.natAbs=g3 a b d*C.natAbs:=by
    have:=congrArg Int.natAbs hb;exact Aba
   have O:d.natAbs=g3 a b d*B.natAbs:=by
    have:=congrArg Int.natAbs j;exact Aba
   have Y:g3 a b d=Nat.gcd (Nat.gcd d.natAbs a.natAbs) b.natAbs:=rfl;generalize g3 a b d=G at*
   have T:Nat.gcd (Nat.gcd d.natAbs a.natAbs) b.natAbs=G*g3 D C B:=by
    rw[N,K,O,abJ,abJ];rfl
   exact Y.trans T
  have W:g3 a b d*1=g3 a b d*g3 D C B:=by rw[aar];exact U
  exact(abg R W).symm
theorem wQ{a b d a' b' d'}(l:a*d'=a'*d)(j:b*d'=b'*d)(C:g3 a b d=1):d∣d':=by
 have h:(g3 (a*d') (b*d') (d*d'):Nat)=d'.natAbs:=by
  unfold g3;rw[Ej,Ej,Ej,acJ,acJ];have:Nat.gcd (Nat.gcd d.natAbs a.natAbs) b.natAbs=1:=C;rw[this,aay]
 have ha:d.natAbs∣(a*d').natAbs:=by rw[l,Ej];exact acT _ _
 have hb:d.natAbs∣(b*d').natAbs:=by rw[j,Ej];exact acT _ _
 have hc:d.natAbs∣(d*d').natAbs:=by rw[Ej];exact Nat.dvd_mul_right _ _
 have B:d.natAbs∣d'.natAbs:=by
  rw[<-h];unfold g3;exact acw (acw hc ha) hb
 exact adc.1 B
def nR{a b d a' b' d'}(hd:d≠0)(hd':d'≠0)(S:a*d'=a'*d)(R:b*d'=b'*d):nf a b d=nf a' b' d':=by
 obtain⟨N,L,I,U,ea,W,T,hp,V⟩:=ut (a:=a) (b:=b) hd;obtain⟨O,K,J,e1,B,j,D,M,Y⟩:=ut (a:=a') (b:=b') hd';have Z:=CG (a:=a) (b:=b) hd;have F:=CG (a:=a') (b:=b') hd';generalize gZ a b d=G at*
 generalize gZ a' b' d'=H at*
 have l:G*H≠0:=nV Z F;have c1:N*J=O*I:=by
  rw[ea,D,B,T] at S;have:(G*H)*(N*J)=(G*H)*(O*I):=by
   calc (G*H)*(N*J)=G*N*(H*J):=by rw[aaR,aaR,abz H N J]
    _=H*O*(G*I):=S
    _=(G*H)*(O*I):=by rw[acU G H,aaR,aaR,abz G O I]
  exact acR l this
 have c2:L*J=K*I:=by
  rw[W,D,j,T] at R;have:(G*H)*(L*J)=(G*H)*(K*I):=by
   calc (G*H)*(L*J)=G*L*(H*J):=by rw[aaR,aaR,abz H L J]
    _=H*K*(G*I):=R
    _=(G*H)*(K*I):=by rw[acU G H,aaR,aaR,abz G K I]
  exact acR l this
 have C:I∣J:=wQ c1 c2 V;have k2:J∣I:=wQ c1.symm c2.symm Y;have Q:I=J:=Int.le_antisymm (Int.le_of_dvd M C) (Int.le_of_dvd hp k2);subst Q;have P:I≠0:=aa;have ha:N=O:=acD P c1;have hb:L=K:=acD P c2;rw[U,e1,ha,hb]
def Low (a b d:Int):Prop:=0<d/\g3 a b d=1
theorem Du{a b d}(h:Low a b d):nf a b d=(a,b,d):=by
 obtain⟨l,j⟩:=h;unfold nf gZ sgZ;rw[j,θ aa];simp
def UV{a b d}(hd:d≠0):Low (nf a b d).1 (nf a b d).2.1 (nf a b d).2.2:=by
 obtain⟨C,D,B,j,_,_,_,hp,l⟩:=ut (a:=a) (b:=b) hd;rw[j];exact⟨hp,l⟩

@[ext] structure GQ where
 re:Rat
 im:Rat
namespace GQ
instance:Add GQ:=⟨fun x y=>⟨x.re+y.re,x.im+y.im⟩⟩
instance:Sub GQ:=⟨fun x y=>⟨x.re-y.re,x.im-y.im⟩⟩
instance:Neg GQ:=⟨fun x=>⟨-x.re,-x.im⟩⟩
instance:Mul GQ:=⟨fun x y=>⟨x.re*y.re-x.im*y.im,x.re*y.im+x.im*y.re⟩⟩
def nrm (y:GQ):Rat:=y.re*y.re+y.im*y.im
instance:Div GQ:=⟨fun x y=>⟨(x.re*y.re+x.im*y.im)/y.nrm,(x.im*y.re-x.re*y.im)/y.nrm⟩⟩
def i (a b:Int):GQ:=⟨a,b⟩
def bf(x y:GQ):(x+y).re=x.re+y.re:=rfl
def aY(x y:GQ):(x+y).im=x.im+y.im:=rfl
def bX(x y:GQ):(x-y).re=x.re-y.re:=rfl
def cu(x y:GQ):(x-y).im=x.im-y.im:=rfl
def ky(x:GQ):(-x).re= -x.re:=rfl
def kE(x:GQ):(-x).im= -x.im:=rfl
def aR(x y:GQ):(x*y).re=x.re*y.re-x.im*y.im:=rfl
def aQ(x y:GQ):(x*y).im=x.re*y.im+x.im*y.re:=rfl
def Af(x y:GQ):(x/y).re=(x.re*y.re+x.im*y.im)/y.nrm:=rfl
def vg(x y:GQ):(x/y).im=(x.im*y.re-x.re*y.im)/y.nrm:=rfl
def bU(a b):(i a b).re=a:=rfl
def bS(a b):(i a b).im=b:=rfl
def dX(x y:GQ):x*y=y*x:=by ext<;>simp only[aR,aQ]<;>grind
def cK(x y z:GQ):x*y*z=x*(y*z):=by ext<;>simp only[aR,aQ]<;>grind
theorem Bi{y}(h:y≠i 0 0):y.nrm≠0:=by
 intro e;apply h;have C:0<=y.re*y.re:=by
  rcases adD (a:=0) (b:=y.re) with h|h
  .exact aaX h h
  .have:=aaX (a:= -y.re) (b:= -y.re) ak ak;grind
 have B:0<=y.im*y.im:=by
  rcases adD (a:=0) (b:=y.im) with h|h
  .exact aaX h h
  .have:=aaX (a:= -y.im) (b:= -y.im) ak ak;grind
 unfold nrm at e;have j:y.re*y.re=0:=ak;have l:y.im*y.im=0:=ak;ext<;>simp only[bU,bS]
 .rcases abp.1 j with h|h<;>simpa using h
 .rcases abp.1 l with h|h<;>simpa using h
theorem Ki{x y}(h:y≠i 0 0):x*y/y=x:=by
 have hn:=Bi h;unfold nrm at hn;ext<;>simp only[aR,aQ,Af,vg,nrm]<;>grind
end GQ
structure Is (q:GQ) (a b d:Int):Prop where
 low:Low a b d
 re:q.re=(a:Rat)/(d:Rat)
 im:q.im=(b:Rat)/(d:Rat)
def fZ{d:Int}(h:d≠0):(d:Rat)≠0:=by exact_mod_cast h
def Kj{a b d}(hd:d≠0):(nf a b d).1.natAbs<=a.natAbs/\(nf a b d).2.1.natAbs<=b.natAbs/\(nf a b d).2.2.natAbs<=d.natAbs:=by
 obtain⟨J,F,H,j,C,l,B,hp,D⟩:=ut (a:=a) (b:=b) hd;have I:=CG (a:=a) (b:=b) hd;rw[j];generalize gZ a b d=G at*
 have V:∀x y:Int,x=G*y->y.natAbs<=x.natAbs:=by
  intro x y h;rw[h,Ej];exact abw _ aa
 exact⟨V _ _ C,V _ _ l,V _ _ B⟩
def Qg{a b d:Int}(hd:d≠0):Is ⟨(a:Rat)/(d:Rat),(b:Rat)/(d:Rat)⟩ (nf a b d).1 (nf a b d).2.1 (nf a b d).2.2:=by
 refine⟨UV hd,?_,?_⟩;all_goals
  obtain⟨H,I,j,l,C,D,F,hp,J⟩:=ut (a:=a) (b:=b) hd;have K:=fZ (CG (a:=a) (b:=b) hd);have B:(j:Rat)≠0:=fZ aa;rw[l];generalize gZ a b d=G at*
  subst C D F;simp only[aan];grind
def Is.FM{q:GQ}{a b d a' b' d':Int}(h:Is q a' b' d')(hd:d≠0)(B:q.re=(a:Rat)/(d:Rat))(hi:q.im=(b:Rat)/(d:Rat)):nf a b d=(a',b',d'):=by
 have hd':d'≠0:=by have:=h.low.1;omega
 rw[<-Du h.low];have C:=fZ hd;have l:=fZ hd';have j:=h.re;have D:=h.im;apply nR hd hd'
 .have:(a:Rat)*d'=a'*d:=ak
  exact_mod_cast this
 .have:(b:Rat)*d'=b'*d:=ak
  exact_mod_cast this
def Is.unique{q a b d a' b' d'}(h:Is q a b d)(G:Is q a' b' d'):a=a'/\b=b'/\d=d':=by
 have e:=G.FM (by have:=h.low.1;omega) h.re h.im;rw[Du h.low] at e;simpa using e
structure Sz (n:Nat) (a b d:Int):Prop where
 a:a.natAbs<2^n
 b:b.natAbs<2^n
 d:d.natAbs<2^n
def Sz.mono{m n a b d}(h:Sz m a b d)(j:m<=n):Sz n a b d:=
 ⟨π h.a (BB aa j),π h.b (BB aa j),π h.d (BB aa j)⟩
def Is.size{q:GQ}{a b d A B D:Int}{n:Nat}(h:Is q a b d)(j:D≠0)(l:q.re=(A:Rat)/(D:Rat))(hi:q.im=(B:Rat)/(D:Rat))(hs:Sz n A B D):Sz n a b d:=by
 have e:=h.FM j l hi;have N:=Kj (a:=A) (b:=B) j;rw[e] at N;exact⟨nH N.1 hs.a,nH N.2.1 hs.b,nH N.2.2 hs.d⟩
def bN{x y:Int}{m n}(l:x.natAbs<2^m)(j:y.natAbs<2^n):(x*y).natAbs<2^(m+n):=by
 rw[Ej,aaJ];exact Nat.mul_lt_mul'' l j
def jh{x y:Int}{m}(l:x.natAbs<2^m)(j:y.natAbs<2^m):(x+y).natAbs<2^(m+1):=by
 have:=ab6 x y;rw[De];omega
def sF{x y:Int}{m}(l:x.natAbs<2^m)(j:y.natAbs<2^m):(x-y).natAbs<2^(m+1):=by
 have:=abA x y;rw[De];omega
def iU{x:Int}{m n}(j:x.natAbs<2^m)(h:m<=n):x.natAbs<2^n:=π j (BB aa h)
def Is.dne{q a b d}(h:Is q a b d):d≠0:=by have:=h.low.1;omega
section
variable {x y q:GQ} {a b d a' b' d' u v t:Int} {m n:Nat}
def Is.OU(l:Is x a b d)(sx:Sz m a b d)(j:Is y a' b' d')(sy:Sz n a' b' d')(h:Is (x+y) u v t):Sz (m+n+1) u v t:=by
 have F:=fZ l.dne;have C:=fZ j.dne;refine h.size (A:=a*d'+a'*d) (B:=b*d'+b'*d) (D:=d*d') (nV l.dne j.dne) ?_ ?_ ⟨jh (bN sx.a sy.d) ?_,jh (bN sx.b sy.d) ?_,iU (bN sx.d sy.d) aa⟩
 .rw[GQ.bf,l.re,j.re];exact AaD
 .rw[GQ.aY,l.im,j.im];exact AaD
 .rw[aa6];exact bN sy.a sx.d
 .rw[aa6];exact bN sy.b sx.d
def Is.OW(l:Is x a b d)(sx:Sz m a b d)(j:Is y a' b' d')(sy:Sz n a' b' d')(h:Is (x*y) u v t):Sz (m+n+1) u v t:=by
 have F:=fZ l.dne;have C:=fZ j.dne;refine h.size (A:=a*a'-b*b') (B:=a*b'+b*a') (D:=d*d') (nV l.dne j.dne) ?_ ?_ ⟨sF (bN sx.a sy.a) (bN sx.b sy.b),jh (bN sx.a sy.b) (bN sx.b sy.a),iU (bN sx.d sy.d) aa⟩
 .exact Acb
 .rw[GQ.aQ,l.re,j.re,l.im,j.im];exact AaD
end
theorem Qk(a b):Is (GQ.i a b) a b 1:=by
 refine⟨⟨aa,?_⟩,?_,?_⟩
 .unfold g3;simp
 .simp only[GQ.bU];grind
 .simp only[GQ.bS];grind

@[ext] structure PQ where
 u:GQ
 v:GQ
namespace PQ
instance:Add PQ:=⟨fun x y=>⟨x.u+y.u,x.v+y.v⟩⟩
instance:Mul PQ:=⟨fun x y=>⟨x.u*y.u+GQ.i 3 0*(x.v*y.v),x.u*y.v+x.v*y.u⟩⟩
def plain (x:GQ):PQ:=⟨x,GQ.i 0 0⟩
def one:PQ:=plain (GQ.i 1 0)
def half:GQ:=⟨1/2,0⟩
def z:PQ:=⟨half*GQ.i 0 1,half⟩
def zp:Nat->PQ
 |0=>one
 |n+1=>zp n*z
def iZ(x y:PQ):(x+y).u=x.u+y.u:=rfl
def iR(x y:PQ):(x+y).v=x.v+y.v:=rfl
def tT(x y:PQ):(x*y).u=x.u*y.u+GQ.i 3 0*(x.v*y.v):=rfl
def sZ(x y:PQ):(x*y).v=x.u*y.v+x.v*y.u:=rfl
def cK(x y z:PQ):x*y*z=x*(y*z):=by
 ext<;>simp only[tT,sZ,GQ.aR,GQ.aQ,GQ.bf,GQ.aY,GQ.bU,GQ.bS]<;>grind
def dX(x y:PQ):x*y=y*x:=by
 ext<;>simp only[tT,sZ,GQ.aR,GQ.aQ,GQ.bf,GQ.aY,GQ.bU,GQ.bS]<;>grind
def qo(x):x*one=x:=by
 ext<;>simp only[tT,sZ,one,plain,GQ.aR,GQ.aQ,GQ.bf,GQ.aY,GQ.bU,GQ.bS]<;>grind
def IL(m n):zp (m+n)=zp m*zp n:=by
 induction n with
 |zero=>exact(qo _).symm
 |succ n ih=>rw[<-abO];show zp (m+n)*z=zp m*(zp n*z);rw[ih,cK]
def mk4 (a b c d:Rat):PQ:=⟨⟨a,b⟩,⟨c,d⟩⟩
def pR(a b c d:Rat):mk4 a b c d*z=mk4 (3/2*c-b/2) (a/2+3/2*d) (a/2-d/2) (b/2+c/2):=by
 ext<;>simp only[mk4,tT,sZ,z,half,GQ.aR,GQ.aQ,GQ.bf,GQ.aY,GQ.bU,GQ.bS]<;>grind
def zp0:zp 0=mk4 1 0 0 0:=by
 ext<;>simp only[zp,one,plain,mk4,GQ.bU,GQ.bS]<;>grind
def zp1:zp 1=mk4 0 (1/2) (1/2) 0:=by rw[zp,zp0,pR];congr 1<;>grind
def zp2:zp 2=mk4 (1/2) 0 0 (1/2):=by rw[zp,zp1,pR];congr 1<;>grind
def zp3:zp 3=mk4 0 1 0 0:=by rw[zp,zp2,pR];congr 1<;>grind
def zp4:zp 4=mk4 (-1/2) 0 0 (1/2):=by rw[zp,zp3,pR];congr 1<;>grind
def zp5:zp 5=mk4 0 (1/2) (-1/2) 0:=by rw[zp,zp4,pR];congr 1<;>grind
def zp6:zp 6=mk4 (-1) 0 0 0:=by rw[zp,zp5,pR];congr 1<;>grind
def zp7:zp 7=mk4 0 (-1/2) (-1/2) 0:=by rw[zp,zp6,pR];congr 1<;>grind
def zp8:zp 8=mk4 (-1/2) 0 0 (-1/2):=by rw[zp,zp7,pR];congr 1<;>grind
end PQ
theorem Ey(a:Addr)(n:Nat):(a.add n).block=a.block:=by unfold Addr.add;split<;>rfl
abbrev Ext (w w':World):Prop:=Below w.heap.size w w'
def _root_.Go.RowKit.Hid.aA{p q r:Prop}(h:Hid p)(e:r)(t:p->r->q:=by intro h e;exact h.ext e):Hid q:=Lib.hid (t h.o e)
def _root_.Go.RowKit.Hid.aC{p q r:Prop}(h:Hid p)(e:r)(t:p->r->q:=by intro h e;exact h.trans e):Hid q:=Lib.hid (t h.o e)
def CV (f:FuncId) (a:Array Value) (w:World) (G:Value->World->Prop):Prop:=Calls prog f a w fun e w'=>∃v,e=.returned v/\G v w'/\Ext w w'
def CE (f:FuncId) (a:Array Value) (w:World) (v:Value):Prop:=Calls prog f a w fun e w'=>e=.returned v/\Ext w w'
def Ext.refl(w):Ext w w:=aci _ _
def Ext.trans{a b c}(h:Ext a b)(k:Ext b c):Ext a c:=Below.trans h (k.mono h.size)
def Ext.alloc{a w}(h:Ext a w)(o:Obj):Ext a (w.alloc o):=Below.alloc h h.size o
def Ext.drew{a w}(h:Ext a w):Ext a w.drew:=Below.drew h
def Ext.drewN{a w}(h:Ext a w)(n):Ext a (w.drewN n):=⟨h.os,h.tape,h.output,h.size,h.block⟩
def Ext.setCell{a w}(h:Ext a w){p}(hp:a.heap.size<=p.block)(u):Ext a (w.setCell p u):=Below.setCell h hp u
def Ext.new(w)(o:Obj):Ext w (w.alloc o):=(Ext.refl w).alloc o
def Reads (w:World) (B size:Nat) (A:Option Addr) (n:Nat) (xs:List Value):Prop:=
 xs.length=n*size/\(0<n->∃R,A=γ R/\R.block<B/\∀j u,xs[j]? =γ u->w.cell? (R.add j)=γ u)
section
variable {w w':World} {B B' size n:Nat} {A:Option Addr} {xs:List Value}
def afa:Reads w B size A 0 []:=⟨ag,fun h=>absurd h aa⟩
def Reads.at_{k}(h:Reads w B 1 A n xs)(j:k<n):∃R u,A=γ R/\R.block<B/\xs[k]? =γ u/\w.cell? (R.add k)=γ u:=by
 obtain⟨R,e,hb,hc⟩:=h.2 aa;have Z:k<xs.length:=by have:=h.1;omega
 exact⟨R,xs[k],e,hb,ν Z,hc k _ (ν Z)⟩
def Reads.keep(h:Reads w B size A n xs)(l:∀p:Addr,p.block<B->w'.cell? p=w.cell? p):Reads w' B size A n xs:=
 ⟨h.1,fun hn=>by
  obtain⟨R,e,hb,hc⟩:=h.2 hn;exact⟨R,e,hb,fun j u N=>(l _ (by rw[Ey];exact hb)).trans (hc j u N)⟩⟩
def Reads.more(h:Reads w B size A n xs)(O:B<=B'):Reads w B' size A n xs:=
 ⟨h.1,fun hn=>by
  obtain⟨R,e,hb,hc⟩:=h.2 hn;exact⟨R,e,aa,hc⟩⟩
def Reads.below(h:Reads w B size A n xs)(hb:Below B w w'):Reads w' B size A n xs:=h.keep fun _ hp=>hb.cell hp
def Reads.ext(h:Reads w w.heap.size size A n xs)(hb:Ext w w'):Reads w' w'.heap.size size A n xs:=(h.below hb).more hb.size
end
def Blk (w:World) (g:Nat) (t:TypeId) (cs:Array Value):Prop:=w.heap[g]? =γ (.cells cs t (0,0))
section
variable {w w':World} {g:Nat} {t:TypeId} {cs:Array Value}
theorem Blk.lt(h:Blk w g t cs):g<w.heap.size:=by
 rcases aab g w.heap.size with j|l
 .exact j
 .unfold Blk at h;rw[aax l] at h;cases h
def Blk.cell(h:Blk w g t cs)(i):w.cell? ⟨g,i,δ⟩=cs[i]? :=cell_of_row w g i cs t (0,0) h
theorem Blk.frozen(h:Blk w g t cs)(i):w.frozen? ⟨g,i,δ⟩=ζ:=by
 unfold Blk at h;simp[World.frozen?,h]
def Blk.new(w:World)(t:TypeId)(cs:Array Value):Blk (w.alloc (.cells cs t)) w.heap.size t cs:=heap_alloc_new w _
def aeE{w:World}{g:Nat}(t:TypeId)(cs:Array Value)(h:w.heap.size=g):Blk (w.alloc (.cells cs t)) g t cs:=by subst h;exact Blk.new w t cs
def Blk.drew(h:Blk w g t cs):Blk w.drew g t cs:=h
def Blk.drewN(h:Blk w g t cs)(n):Blk (w.drewN n) g t cs:=h
def Blk.alloc(h:Blk w g t cs)(o:Obj):Blk (w.alloc o) g t cs:=(aat w o g h.lt).trans h
theorem Blk.qg(h:Blk w g t cs)(i u):Blk (w.setCell ⟨g,i,δ⟩ u) g t (cs.setIfInBounds i u):=by
 unfold Blk at h⊢;simp[World.setCell,Array.getElem?_modify,h]
def Blk.far(h:Blk w g t cs){p}(hp:g≠p.block)(u):Blk (w.setCell p u) g t cs:=(ab1 w p u g hp).trans h
def Blk.below{B}(h:Blk w g t cs)(hb:Below B w w')(j:g<B):Blk w' g t cs:=(hb.block g j).trans h
def Blk.ext(h:Blk w g t cs)(hb:Ext w w'):Blk w' g t cs:=h.below hb h.lt
theorem Blk.reads{n size}(h:Blk w g t cs)(hn:cs.size=n*size):Reads w w.heap.size size (γ ⟨g,0,δ⟩) n cs.toList:=
 ⟨by simpa using hn,fun _=>⟨_,rfl,h.lt,fun j u N=>by
  have e:Addr.add ⟨g,0,δ⟩ j=⟨g,j,δ⟩:=by unfold Addr.add;by_cases l:j=0<;>simp[l]
  rw[e,h.cell];simpa using N⟩⟩
end
def Blk.MS{w:World}{g i:Nat}{t:TypeId}{l:List Value}(h:Blk w g t l.toArray)(hi:i<l.length):∃u,w.cell? ⟨g,i,δ⟩=γ u:=
 ⟨l[i],by rw[h.cell];simp[hi]⟩
def Blk.Uj{w:World}{g i:Nat}{t:TypeId}{l:List Value}(h:Blk w g t l.toArray)(u:Value):Blk (w.setCell ⟨g,i,δ⟩ u) g t (l.set i u).toArray:=by
 have:=h.qg i u;simpa using this
theorem uH(z n):madeCells #[z] n=(List.replicate n z).toArray:=by
 unfold madeCells;apply Array.ext
 .simp
 .intro i l j;simp[Nat.mod_one]
structure aK (w:World) where
 val:World
 ext:Ext w val
instance (w:World):Nonempty (aK w):=⟨⟨w,Ext.refl w⟩⟩
def aO{k a b}(h:a=b):Ending.returned (.int k a)=.returned (.int k b):=by rw[h]
def aU{a b}(h:a=b):Ending.returned (.bool a)=.returned (.bool b):=by rw[h]
def gD:Op->Bool
 | .move _| .assign _| .pick _ _ _| .load _ _| .build _ _| .binOp _ _ _ _ _| .unOp _ _ _| .convert _ _ _| .fieldAddr _ _ _| .field _ _ _| .indexAddr _ _ _| .index _ _ _| .extract _ _| .slice _ _ _ _ _=>ε
 | .call c=>match c.callee with
  | .builtin .len| .builtin .min| .builtin .max=>ε
  |_=>ζ
 |_=>ζ
def qK{s:Result Value}{f args w'}(h:s.andThen (fun x w=>Result.ok (Next.value x) w)=.ok (.enter f args) w'):False:=by
 cases s<;>simp[Result.andThen] at h
def jP{P}{ev:Operand->Value}{o w w' f args}(hp:gD o.op=ε)(h:(execOp ev o).run P w=.ok (.enter f args) w'):False:=by
 obtain⟨l,op,G,pos,F,D⟩:=o;cases op<;>simp only[gD,Y0] at hp<;>simp only[execOp,aaG,aa4] at h
 case call c=>
  obtain⟨j,C,B⟩:=c;cases j<;>simp only[Y0] at hp
  case builtin b=>
   cases b<;>simp only[Y0] at hp<;>simp only[resolve,aaG,aa4,aaB,invoke,builtin] at h<;>exact qK h
 case pick c x y=>cases hb:(asBool (ev c)).run P w<;>simp[hb,Result.andThen] at h
 all_goals first
  |exact qK h
  |(simp at h;done)
def Book:Type:=Nat->Option (Value×Nat×Nat)
def Book.none:Book:=fun _=>Option.none
def Book.set (F:Book) (i:Nat) (e:Value×Nat×Nat):Book:=fun x=>if x=i then γ e else F x
theorem afp(F:Book){i j:Nat}(h:i≠j)(e f:Value×Nat×Nat):(F.set i e).set j f=(F.set j f).set i e:=by
 funext x;unfold Book.set;by_cases C:x=i<;>by_cases B:x=j<;>simp[C,B]
 .subst C;exact absurd B h
 .intro l;exact absurd l h
 .intro l;exact absurd l.symm h
def aeL(F:Book)(i:Nat)(e:Value×Nat×Nat):(F.set i e) i=γ e:=by simp[Book.set]
def aeJ(F:Book){i j:Nat}(e:Value×Nat×Nat)(h:j≠i):(F.set i e) j=F j:=by simp[Book.set,h]
def anc (ops:Array Oper):Nat->Nat->Nat->Bool
 |0,_,_=>ζ
 |f+1,k,p=>match ops[k]? with
  |Option.none=>ζ
  |some o=>o.after.any fun e=>Region.binds .any e&&(e.on==p||anc ops f e.on p)
section
variable {P:Program} {ops:Array Oper} {w0:World} {E:Nat->Bool} {Φ:Nat->Nat->Nat->Value->World->Prop}
structure dS (w0:World) (Φ:Nat->Nat->Nat->Value->World->Prop) (F:Book) (w:World):Prop where
 ext:Ext w0 w
 fact:∀i e,F i=γ e->Φ i e.2.1 e.2.2 e.1 w
 size:∀i e,F i=γ e->e.2.2<=w.heap.size
 low:∀i e,F i=γ e->w0.heap.size<=e.2.1
 disj:∀i j e f,i≠j->F i=γ e->F j=γ f->e.2.2<=f.2.1\/f.2.2<=e.2.1
def Kn (ops:Array Oper) (w0:World) (Φ:Nat->Nat->Nat->Value->World->Prop) (k:Nat) (F:Book) (w:World):Prop:=
 Ext w0 w/\∀i e,F i=γ e->anc ops ops.size k i=ε->Φ i e.2.1 e.2.2 e.1 w
def lX (P:Program) (Ψ:Nat->Nat->Value->World->Prop) (w:World):Result Next->Prop
 | .ok (.value v) w'=>Ext w w'/\Ψ w.heap.size w'.heap.size v w'
 | .ok (.enter f args) w1=>w1=w/\Calls P f args w (fun e w'=>∃v,e=.returned v/\Ext w w'/\Ψ w.heap.size w'.heap.size v w')
 |_=>False
def tOp (P:Program) (ops:Array Oper) (w0:World) (E:Nat->Bool) (Φ:Nat->Nat->Nat->Value->World->Prop) (k:Nat) (K:Book->Act->Prop) (F:Book) (a:Act):Prop:=
 match ops[k]? with
 |Option.none=>K F a
 |some o=>
  if Region.wanted o (yielded ops a.tmps) then
   if E k then
    (∀w,Kn ops w0 Φ k F w->lX P (Φ k) w ((execOp a.eval o).run P w))/\
    (∀v lo hi,(∃w,dS w0 Φ (F.set k (v,lo,hi)) w)->K (F.set k (v,lo,hi)) (a.put o.dst v))
   else gD o.op=ε/\∃v,(∀w,Ext w0 w->o.quietAt P a (fun w'=>w'=w) w v)/\K F (a.put o.dst v)
  else K F (a.put o.dst undef)
def wpT (P:Program) (ops:Array Oper) (w0:World) (E:Nat->Bool) (Φ:Nat->Nat->Nat->Value->World->Prop) (Q:Book->Act->Prop):List Oper->Nat->Book->Act->Prop
 |[],_,F,a=>Q F a
 |_::rest,k,F,a=>tOp P ops w0 E Φ k (wpT P ops w0 E Φ Q rest (k+1)) F a
theorem OD{k}{K I:Book->Act->Prop}{F a}(h:∀F a,K F a->I F a)(N:tOp P ops w0 E Φ k K F a):tOp P ops w0 E Φ k I F a:=by
 unfold tOp at*
 split
 .rename_i l;simp only[l] at N;exact h _ _ N
 .rename_i o l
  simp only[l] at N;split
  .rename_i j
   simp only[j,Ad] at N;split
   .rename_i Y
    simp only[Y,Ad] at N;exact⟨N.1,fun v lo hi D=>h _ _ (N.2 v lo hi D)⟩
   .rename_i Y
    simp only[Y] at N;obtain⟨hp,v,C,B⟩:=N;exact⟨hp,v,C,h _ _ B⟩
  .rename_i j
   simp only[j] at N;exact h _ _ N
def xJ (P:Program) (ops:Array Oper) (w0:World) (E:Nat->Bool) (Φ:Nat->Nat->Nat->Value->World->Prop) (n:Nat) (L:Array Bool->Book->Act->Prop):Nat->Array Bool->Book->Act->Prop
 |0,listed,F,a=>L listed F a
 |f+1,listed,F,a=>Region.ready .any ops listed≠[]/\∀i∈Region.ready .any ops listed,i<n/\tOp P ops w0 E Φ i (xJ P ops w0 E Φ n L f (listed.setIfInBounds i ε)) F a
def dS.put{F w w' k v}(D:∀i lo hi v w w',Φ i lo hi v w->Ext w w'->Φ i lo hi v w')(hF:F k=Option.none)(h:dS w0 Φ F w)(C:Ext w w')(hv:Φ k w.heap.size w'.heap.size v w'):
  dS w0 Φ (F.set k (v,w.heap.size,w'.heap.size)) w':=by
 refine⟨h.ext.trans C,fun i e U=> ?_,fun i e U=> ?_,fun i e U=> ?_,fun i j e f B U l=> ?_⟩
 .by_cases hi:i=k
  .subst hi;rw[aeL] at U;cases U;exact hv
  .rw[aeJ _ _ hi] at U;exact D _ _ _ _ _ _ (h.fact i e U) C
 .by_cases hi:i=k
  .subst hi;rw[aeL] at U;cases U;exact κ _
  .rw[aeJ _ _ hi] at U;exact nk (h.size i e U) C.size
 .by_cases hi:i=k
  .subst hi;rw[aeL] at U;cases U;exact h.ext.size
  .rw[aeJ _ _ hi] at U;exact h.low i e U
 .by_cases hi:i=k
  .subst hi;rw[aeL] at U;cases U;rw[aeJ _ _ (aaO B)] at l;exact .inr (h.size j f l)
  .rw[aeJ _ _ hi] at U;by_cases G:j=k
   .subst G;rw[aeL] at l;cases l;exact .inl (h.size i e U)
   .rw[aeJ _ _ G] at l;exact h.disj i j e f B U l
theorem Hm{k F a w}{K:Book->Act->Prop}{I:Act->World->Prop}{Q'}(D:∀i lo hi v w w',Φ i lo hi v w->Ext w w'->Φ i lo hi v w')(hF:F k=Option.none)(G:dS w0 Φ F w)(h:∀Q a' w',dS w0 Φ Q w'->(∀j,j≠k->F j=Option.none->Q j=Option.none)->K Q a'->I a' w')(N:tOp P ops w0 E Φ k K F a):wpOp P ops Q' k I a w:=by
 unfold tOp at N;unfold wpOp;split
 .rename_i L;simp only[L] at N;exact h F _ _ G (fun _ _ h=>h) N
 .rename_i o L
  simp only[L] at N;split
  .rename_i l
   simp only[l,Ad] at N;refine .inl ?_;by_cases Y:E k=ε
   .simp only[Y,Ad] at N;obtain⟨J,H⟩:=N;have C:=J w ⟨G.ext,fun i e U _=>G.fact i e U⟩;unfold Oper.wp;generalize (execOp a.eval o).run P w=r at*
    cases r with
    |ok nx w'=>
     cases nx<;>simp only[lX] at C<;>simp only[Oper.upon]
     case value v=>
      exact h _ _ _ (G.put D hF C.1 C.2) (fun j M hn=>by rw[aeJ _ _ M];exact hn) (H v _ _ ⟨w',G.put D hF C.1 C.2⟩)
     case enter f args=>
      obtain⟨rfl,hc⟩:=C;refine hc.mono fun e w'' ⟨v,U,O,hv⟩=> ?_;subst U;exact h _ _ _ (G.put D hF O hv) (fun j M hn=>by rw[aeJ _ _ M];exact hn) (H v _ _ ⟨w'',G.put D hF O hv⟩)
    |halt x w'=>simp only[lX] at C
   .simp only[Y] at N;obtain⟨_,v,J,H⟩:=N;have C:=J w G.ext;unfold Oper.quietAt at C;unfold Oper.wp;generalize (execOp a.eval o).run P w=r at*
    cases r with
    |ok nx w'=>
     cases nx<;>simp only[Oper.quietUpon] at C<;>simp only[Oper.upon]
     case value u=>obtain⟨rfl,rfl⟩:=C;exact h F _ _ G (fun _ _ h=>h) H
     case skip=>obtain⟨rfl,rfl⟩:=C;exact h F _ _ G (fun _ _ h=>h) H
     case enter f args=>
      obtain⟨rfl,hc⟩:=C;exact hc.mono fun e w'' ⟨U,B⟩=>by subst U;subst B;exact h F _ _ G (fun _ _ h=>h) H
    |halt x w'=>simp only[Oper.quietUpon] at C
  .rename_i l
   simp only[l] at N;exact h F _ _ G (fun _ _ h=>h) N
def tO{n g}{L:Array Bool->Book->Act->Prop}{Q'}(D:∀i lo hi v w w',Φ i lo hi v w->Ext w w'->Φ i lo hi v w')(I:∀B F a w,dS w0 Φ F w->L B F a->wpAny P .any ops Q' g B a w):
  ∀(f:Nat) (B:Array Bool) (F:Book) (a:Act) (w:World),dS w0 Φ F w->(∀j,B.getD j ε=ζ->F j=Option.none)->xJ P ops w0 E Φ n L f B F a->wpAny P .any ops Q' (f+g) B a w
 |0,B,F,a,w,hw,_,h=>by rw[aaw];exact I _ _ _ _ hw h
 |f+1,B,F,a,w,hw,hF,h=>by
  rw[show f+1+g=(f+g)+1 by omega];refine⟨fun J=>absurd J h.1,fun i hi=> ?_⟩;have N:=(aaY.1 hi).1;refine Hm D (hF i N) hw (fun Q a' w' R C G=>tO D I f _ Q a' w' R (fun j H=> ?_) G) (h.2 i hi).2;by_cases M:j=i
  .subst M;exfalso;have l:j<B.size:=by
    exact Abn
   simp[l] at H
  .rw[abS ε (aaO M)] at H;exact C j M (hF j H)
theorem CX{k}{K I:Book->Act->Prop}{F a}(B:∃w,dS w0 Φ F w)(h:∀Q a',(Q=F\/∃e,Q=F.set k e)->(∃w,dS w0 Φ Q w)->K Q a'->I Q a')(N:tOp P ops w0 E Φ k K F a):tOp P ops w0 E Φ k I F a:=by
 unfold tOp at*
 split
 .rename_i l;simp only[l] at N;exact h _ _ (.inl rfl) B N
 .rename_i o l
  simp only[l] at N;split
  .rename_i j
   simp only[j,Ad] at N;split
   .rename_i Y
    simp only[Y,Ad] at N;exact⟨N.1,fun v lo hi C=>h _ _ (.inr ⟨_,rfl⟩) C (N.2 v lo hi C)⟩
   .rename_i Y
    simp only[Y] at N;obtain⟨hp,v,G,D⟩:=N;exact⟨hp,v,G,h _ _ (.inl rfl) B D⟩
  .rename_i j
   simp only[j] at N;exact h _ _ (.inl rfl) B N
def dS.sub{F G w}(h:dS w0 Φ G w)(hs:∀i e,F i=γ e->G i=γ e):dS w0 Φ F w:=
 ⟨h.ext,fun i e U=>h.fact i e (hs i e U),fun i e U=>h.size i e (hs i e U),fun i e U=>h.low i e (hs i e U),fun i j e f l U B=>h.disj i j e f l (hs i e U) (hs j f B)⟩
def ae9{F:Book}{i:Nat}{e:Value×Nat×Nat}(hF:F i=Option.none):∀x f,F x=γ f->(F.set i e) x=γ f:=by
 intro x f j;by_cases h:x=i
 .subst h;rw[hF] at j;cases j
 .rw[aeJ _ _ h];exact j
def afo{F G:Book}(h:∀x f,F x=γ f->G x=γ f){i:Nat}{e:Value×Nat×Nat}:∀x f,(F.set i e) x=γ f->(G.set i e) x=γ f:=by
 intro x f j;by_cases B:x=i
 .subst B;rw[aeL] at*;exact j
 .rw[aeJ _ _ B] at*;exact h x f j
def Kn.kU{F w k i}{e:Value×Nat×Nat}(hF:F i=Option.none)(l:anc ops ops.size k i=ζ):Kn ops w0 Φ k (F.set i e) w↔Kn ops w0 Φ k F w:=by
 constructor
 .exact fun h=>⟨h.1,fun x f j ha=>h.2 x f (ae9 hF x f j) ha⟩
 .refine fun h=>⟨h.1,fun x f j ha=> ?_⟩;by_cases B:x=i
  .subst B;rw[l] at ha;cases ha
  .rw[aeJ _ _ B] at j;exact h.2 x f j ha
def F8{F:Book}{i:Nat}{a:Act}{o:Oper}(D:∀i lo hi v w w',Φ i lo hi v w->Ext w w'->Φ i lo hi v w')(hF:F i=Option.none)(C:∃w,dS w0 Φ F w)(B:∀w,Kn ops w0 Φ i F w->lX P (Φ i) w ((execOp a.eval o).run P w)):∃v lo hi,∃w,dS w0 Φ (F.set i (v,lo,hi)) w:=by
 obtain⟨w,l⟩:=C;have j:=B w ⟨l.ext,fun x e U _=>l.fact x e U⟩;generalize (execOp a.eval o).run P w=r at*
 cases r with
 |ok nx w'=>
  cases nx<;>simp only[lX] at j
  case value v=>exact⟨v,_,_,w',l.put D hF j.1 j.2⟩
  case enter f args=>
   obtain⟨_,hc⟩:=j;obtain⟨e,w',H,⟨v,_,G,hv⟩,_⟩:=hc [];exact⟨v,_,_,w',l.put D hF G hv⟩
 |halt x w'=>simp only[lX] at j
theorem wV{o:Oper}{a:Act}{u v:Value}{w:World}(hp:gD o.op=ε)(j:o.quietAt P a (fun w'=>w'=w) w u)(l:o.quietAt P a (fun w'=>w'=w) w v):u=v:=by
 unfold Oper.quietAt at*
 generalize B:(execOp a.eval o).run P w=r at*
 cases r with
 |ok nx w'=>
  cases nx<;>simp only[Oper.quietUpon] at j l
  case value x=>rw[<-j.2,<-l.2]
  case skip=>rw[j.2,l.2]
  case enter f args=>exact(jP hp B).elim
 |halt x w'=>simp only[Oper.quietUpon] at j
theorem N9{i j l I}{K:Book->Act->Prop}{F a}(D:∀i lo hi v w w',Φ i lo hi v w->Ext w w'->Φ i lo hi v w')(hi:ops[i]? =γ l)(hj:ops[j]? =γ I)(Wm:i≠j)(Y:l.apart ops I=ε)(Z:∀cs b,l.op≠ .select cs b)(Wj:∀cs b,I.op≠ .select cs b)(U:F i=Option.none)(V:F j=Option.none)(a1:anc ops ops.size i j=ζ)(a2:anc ops ops.size j i=ζ)(hr:∃w,dS w0 Φ F w)(h:tOp P ops w0 E Φ i (tOp P ops w0 E Φ j K) F a):
  tOp P ops w0 E Φ j (tOp P ops w0 E Φ i K) F a:=by
 obtain⟨p1,p2,p3⟩:=Oper.apart_spec Y;have x1:∀(a:Act) v,execOp (a.put l.dst v).eval I=execOp a.eval I:=fun a v=>adk I Wj a l.dst v p1;have x2:∀(a:Act) v,execOp (a.put I.dst v).eval l=execOp a.eval l:=fun a v=>adk l Z a I.dst v p3;have y1:∀(a:Act) v,Region.wanted I (yielded ops (a.put l.dst v).tmps)=Region.wanted I (yielded ops a.tmps):=fun a v=>adl I a l.dst v p1;have y2:∀(a:Act) v,Region.wanted l (yielded ops (a.put I.dst v).tmps)=Region.wanted l (yielded ops a.tmps):=fun a v=>adl l a I.dst v p3;have z:∀(a:Act) v u,(a.put I.dst u).put l.dst v=(a.put l.dst v).put I.dst u:=fun a v u=>(Act.put_comm a v u p2).symm;have q1:∀(a:Act) v w u,I.quietAt P (a.put l.dst v) (fun w'=>w'=w) w u↔I.quietAt P a (fun w'=>w'=w) w u:=fun a v w u=>by unfold Oper.quietAt;rw[x1]
 have q2:∀(a:Act) v w u,l.quietAt P (a.put I.dst v) (fun w'=>w'=w) w u↔l.quietAt P a (fun w'=>w'=w) w u:=fun a v w u=>by unfold Oper.quietAt;rw[x2]
 unfold tOp at h⊢;simp only[hi,hj] at h⊢;simp only[y1,x1,q1] at h;simp only[y2,x2,q2,z];by_cases wi:Region.wanted l (yielded ops a.tmps)=ε
 .simp only[wi,Ad] at h⊢;by_cases Ei:E i=ε
  .simp only[Ei,Ad] at h⊢;obtain⟨h1,H⟩:=h;obtain⟨v0,R,Q,T⟩:=F8 D U hr h1;by_cases W:Region.wanted I (yielded ops a.tmps)=ε
   .simp only[W,Ad] at H⊢;by_cases C:E j=ε
    .simp only[C,Ad] at H⊢;refine⟨fun w S=>(H v0 R Q T).1 w ((Kn.kU U a2).2 S),fun u lo hi B=>⟨fun w S=>h1 w ((Kn.kU V a1).1 S),fun v G Wp L=> ?_⟩⟩;obtain⟨w,S⟩:=L;have Xg:dS w0 Φ (F.set i (v,G,Wp)) w:=S.sub (afo (ae9 V));rw[afp _ (aaO Wm)] at S⊢;exact(H v G Wp ⟨w,Xg⟩).2 u lo hi ⟨w,S⟩
    .simp only[C] at H⊢;obtain⟨hp,u,N,_⟩:=H v0 R Q T;refine⟨hp,u,N,h1,fun v lo hi L=> ?_⟩;obtain⟨_,u',O,J⟩:=H v lo hi L;obtain⟨w,S⟩:=hr;rw[wV hp (N w S.ext) (O w S.ext)];exact J
   .simp only[W] at H⊢;exact⟨h1,fun v lo hi L=>H v lo hi L⟩
  .simp only[Ei] at h⊢;obtain⟨hp,v,hv,H⟩:=h;by_cases W:Region.wanted I (yielded ops a.tmps)=ε
   .simp only[W,Ad] at H⊢;by_cases C:E j=ε
    .simp only[C,Ad] at H⊢;exact⟨H.1,fun u lo hi B=>⟨hp,v,hv,H.2 u lo hi B⟩⟩
    .simp only[C] at H⊢;obtain⟨M,u,N,J⟩:=H;exact⟨M,u,N,hp,v,hv,J⟩
   .simp only[W] at H⊢;exact⟨hp,v,hv,H⟩
 .simp only[wi] at h⊢;by_cases W:Region.wanted I (yielded ops a.tmps)=ε
  .simp only[W,Ad] at h⊢;by_cases C:E j=ε
   .simp only[C,Ad] at h⊢;exact⟨h.1,fun u lo hi B=>h.2 u lo hi B⟩
   .simp only[C] at h⊢;obtain⟨M,u,N,J⟩:=h;exact⟨M,u,N,J⟩
  .simp only[W] at h⊢;exact h
theorem Ac{n B}(inv:HeadInv .any ops n B):∀(f k p:Nat),anc ops f k p=ε->(∀o,ops[k]? =γ o->∀e∈o.after,Region.binds .any e=ε->B.getD e.on ζ=ε)->B.getD p ζ=ε
 |0,_,_,h,_=>by simp[anc] at h
 |f+1,k,p,h,hk=>by
  unfold anc at h;split at h
  .cases h
  .rename_i o F
   obtain⟨e,U,hb⟩:=Array.any_eq_true'.1 h;simp only[υ,acj,beq_iff_eq] at hb;have D:=hk o F e U hb.1;rcases hb.2 with C|C
   .rw[<-C];exact D
   .exact Ac inv f e.on p C (fun V j T G l=>inv.closed e.on V j D T G l)
def uj{n B}(inv:HeadInv .any ops n B){i j}(F:j∈Region.ready .any ops B)(hi:B.getD i ε=ζ):anc ops ops.size j i=ζ:=by
 cases h:anc ops ops.size j i with
 |false=>rfl
 |true=>
  obtain⟨_,I,C,J⟩:=aaY.1 F;have D:=Ac inv _ _ _ h (fun o l e U hb=>by rw[C] at l;injection l with l;subst l;exact J e U hb);rw[getD_both hi] at D;cases D
theorem EE{n i l}{L:Array Bool->Book->Act->Prop}(D:∀i lo hi v w w',Φ i lo hi v w->Ext w w'->Φ i lo hi v w')(hi:ops[i]? =γ l)(C:∀(j:Nat) (o:Oper) cs b,ops[j]? =γ o->o.op≠ .select cs b)(hs:Region.sinkB .any ops n=ε)(hc:Region.chainB .any ops n=ε)(hn:n<ops.size)(K:i<n)(Z:∀B F a,L B F a->∀j∈Region.ready .any ops B,n<=j):
  ∀(f:Nat) (B:Array Bool) (F:Book) (a:Act),HeadInv .any ops n B->(∀j,B.getD j ε=ζ->F j=Option.none)->(∃w,dS w0 Φ F w)->
   (∀j I,ops[j]? =γ I->j≠i->B.getD j ε=ζ->(∀e∈I.after,Region.binds .any e=ε->e.on≠i)->l.apart ops I=ε)->
   i∈Region.ready .any ops B->tOp P ops w0 E Φ i (xJ P ops w0 E Φ n L f (B.setIfInBounds i ε)) F a->xJ P ops w0 E Φ n L (f+1) B F a:=by
 intro f
 induction f with
 |zero=>
  intro B F a inv hF T _ hr H;have N:=(aaY.1 hr).1;refine⟨fun h=>Ac6,fun j hj=> ?_⟩;have O:j<n:=by
   exact Aaz
  refine⟨O,?_⟩;by_cases M:j=i
  .subst M;exact H
  .exfalso;have V:∀Q a',xJ P ops w0 E Φ n L 0 (B.setIfInBounds i ε) Q a'->False:=fun Q a' h=>by
    have:=Z _ _ _ h j (abq hj M);omega
   unfold tOp at H;simp only[hi] at H;split at H
   .split at H
    .obtain⟨v,lo,Wp,Wt⟩:=F8 D (hF i N) T H.1;exact V _ _ (H.2 v lo Wp Wt)
    .obtain⟨_,v,_,h2⟩:=H;exact V _ _ h2
   .exact V _ _ H
 |succ f ih=>
  intro B F a inv hF T Y hr H;have N:=(aaY.1 hr).1;refine⟨fun h=>Ac6,fun j hj=> ?_⟩;have O:j<n:=by
   exact Aaz
  refine⟨O,?_⟩;by_cases M:j=i
  .subst M;exact H
  .obtain⟨R,I,Wn,J⟩:=aaY.1 hj;have Wu:∀e∈I.after,Region.binds .any e=ε->e.on≠i:=fun e U hb Wo=>by
    exact AcP
   have H1:=OD (fun Q a' h=>(h.2 j (abq hj M)).2) H;have H2:=N9 D hi Wn (aaO M) (Y j I Wn M R Wu) (fun cs b=>C i l cs b hi) (fun cs b=>C j I cs b Wn) (hF i N) (hF j R) (uj inv hr R) (uj inv hj N) T H1;have S:∀k ok,ops[k]? =γ ok->k≠i->(B.setIfInBounds j ε).getD k ε=ζ->
     (∀e∈ok.after,Region.binds .any e=ε->e.on≠i)->l.apart ops ok=ε:=fun k ok hk Wv Wq Wm=>by
    exact Acr
   refine CX T (fun Q a' Ws W h3=>ih (B.setIfInBounds j ε) Q a' (inv.set hj O) (fun x hx=> ?_) W S (abq hr (aaO M)) ?_) H2
   .exact AbJ
   .rw[ab2 _ _ M];exact h3
def BO{n g}{K:Book->Act->Prop}(D:∀i lo hi v w w',Φ i lo hi v w->Ext w w'->Φ i lo hi v w')(C:Region.noSelect ops=ε)(hs:Region.sinkB .any ops n=ε)(hc:Region.chainB .any ops n=ε)(hn:n<ops.size):
  ∀(l:List Oper) (k:Nat) (B:Array Bool) (F:Book) (a:Act),(∀j,j<l.length->l[j]? =ops[k+j]?)->k+l.length=n->HeadInv .any ops n B->(∀j,B.getD j ε=ζ->F j=Option.none)->(∃w,dS w0 Φ F w)->
  Region.lexHead .any ops g l.length k B=ε->wpT P ops w0 E Φ K l k F a->
  xJ P ops w0 E Φ n (fun I Q a'=>Region.seqB .any ops g n I=ε/\K Q a') l.length B F a
 |[],k,B,F,a,_,hk,_,_,_,hB,h=>by
  exact Ab9
 |o::l,k,B,F,a,hl,hk,inv,hF,hr0,hB,h=>by
  have T:ops[k]? =γ o:=by simpa using(hl 0 ag).symm
  simp only[nC,Region.lexHead,υ] at hB;obtain⟨⟨Y,V⟩,J⟩:=hB;have M:k<n:=by simp only[nC] at hk;omega
  have W:k∈Region.ready .any ops B:=by simpa using Y
  have N:=(aaY.1 W).1;refine EE D T (aau C) hs hc hn M (fun I Q a' U=>abK U.1) l.length B F a inv hF hr0 (aaT T V) W ?_;refine CX hr0 (fun Q a' S L G=>BO D C hs hc hn l (k+1) _ Q a' (fun j Z=>by have:=hl (j+1) ae;simpa[abO,aa6 1 j] using this) (by simp only[nC] at hk;omega) (inv.set W M) (fun x O=> ?_) L J G) h;have H:x≠k:=by
   exact Aa1
  rw[abS ε (aaO H)] at O;rcases S with rfl|⟨e,rfl⟩
  .exact hF x O
  .rw[aeJ _ _ H];exact hF x O
end
def iV{P:Program}{L:Nat}{Q:Exit->Act->World->Prop}{a:Act}{w:World}{l:List Oper}(n:Nat)(E:Nat->Bool)(Φ:Nat->Nat->Nat->Value->World->Prop)(D:∀i lo hi v w w',Φ i lo hi v w->Ext w w'->Φ i lo hi v w')(hm:P.follows .mixedOrders=ε)(O:Region.lexTailB .any l.toArray n=ε)(h:wpT P l.toArray w E Φ (fun F a'=>∀w',dS w Φ F w'->wpList P l.toArray Q (l.drop n) a' w') (l.take n) 0 Book.none a):(Code.region L l.toArray ε).wp P Q a w:=by
 simp only[Region.lexTailB,υ,Θ] at O;obtain⟨⟨⟨⟨C,hn⟩,hs⟩,hc⟩,M⟩:=O;have Wq:n<l.length:=by simpa using hn
 have K:(l.take n).length=n:=ae;have J:(l.drop n).length=l.toArray.size-n:=ag;have G:HeadInv .any l.toArray n (Array.replicate l.toArray.size ζ):=
  ⟨ag,fun j I _ Z=>AaJ,fun t _ Y=>ade (by simpa using Y) (aaK _ _)⟩
 have S:dS w Φ Book.none {w with drawn:=w.drawn+1}:=⟨(Ext.refl w).drew,fun _ _ h=>Ab2,fun _ _ h=>Ab2,fun _ _ h=>Ab2,fun _ _ _ _ _ h=>Ab2⟩;have H:=BO (P:=P) (E:=E) (g:=l.toArray.size-n) D C hs hc hn (l.take n) 0 _ Book.none a (fun j W=>by
  have T:j<n:=by rw[K] at W;exact W
  simp[T]) (by simpa using K) G (fun _ _=>rfl) ⟨_,S⟩ (by rw[K];exact M) h
 refine acC hm ?_;have U:=tO (P:=P) (n:=n) (g:=l.toArray.size-n) (Q':=Q) D (fun B F a' w' R V=>by
  have:=ab3 (P:=P) (ops:=l.toArray) (md:=.any) (Q':=Q) (l.drop n) n B a' w' (fun j=>ag) (by rw[J];exact V.1) (V.2 w' R);rwa[J] at this) _ _ _ _ _ S (fun _ _=>rfl) H
 exact Acv
section
variable {P:Program} {ops:Array Oper} {w0:World} {E:Nat->Bool} {Φ:Nat->Nat->Nat->Value->World->Prop} {Q:Book->Act->Prop}
theorem zK(m){l k F a}(B:∀j,j<m->l[j]? =ops[k+j]?)(Y:(List.range m).all (fun j=> !E (k+j)&&((ops[k+j]?).map fun o=>gD o.op).getD ζ)=ε)(h:wpQuiet P ops (fun w'=>∃x:aK w0,w'=x.val) (fun a'=>wpT P ops w0 E Φ Q (l.drop m) (k+m) F a') (l.take m) a):wpT P ops w0 E Φ Q l k F a:=by
 induction m generalizing l k a with
 |zero=>simpa[wpQuiet] using h
 |succ m ih=>
  cases l with
  |nil=>simp[wpQuiet] at h;simpa[wpT] using h
  |cons o r=>
   have M:ops[k]? =γ o:=by simpa using(B 0 aa).symm
   have J:=wo.1 Y;have H:=J 0 ag;simp only[Nq,M,Option.map_some,Option.getD_some,υ,acK] at H;have G:(List.range m).all (fun j=> !E (k+1+j)&&((ops[k+1+j]?).map fun o=>gD o.op).getD ζ)=ε:=by
    exact Aa6
   have D:=fun a'=>ih (l:=r) (k:=k+1) (a:=a') (fun j T=>by have:=B (j+1) aa;simpa[abO,aa6 1 j] using this) G;simp only[aao,ρ,wpQuiet] at h;have K:k+(m+1)=k+1+m:=aa;rw[K] at h;unfold wpT tOp;simp only[M];by_cases N:Region.wanted o (yielded ops a.tmps)=ε
   .simp only[N,Ad] at h⊢;simp only[H.1,Y0,abv];obtain⟨v,R,O⟩:=h;refine⟨H.2,v,fun w L=> ?_,D _ O⟩;have I:=R w ⟨⟨w,L⟩,rfl⟩;unfold Oper.quietAt at*
    generalize S:(execOp a.eval o).run P w=C at*
    cases C with
    |ok nx w'=>
     cases nx<;>simp only[Oper.quietUpon] at I⊢
     case value u=>exact I
     case skip=>exact I
     case enter f args=>exact(jP H.2 S).elim
    |halt x w'=>simp only[Oper.quietUpon] at I
   .simp only[N] at h⊢;exact D _ h
def nP(m){l k F a}(B:l.take m=(ops.toList.drop k).take m)(Y:(List.range m).all (fun j=> !E (k+j)&&((ops[k+j]?).map fun o=>gD o.op).getD ζ)=ε)(h:wpQuiet P ops (fun w'=>∃x:aK w0,w'=x.val) (fun a'=>wpT P ops w0 E Φ Q (l.drop m) (k+m) F a') (l.take m) a):wpT P ops w0 E Φ Q l k F a:=
 zK m (fun j C=>by
  have D:(l.take m)[j]? =((ops.toList.drop k).take m)[j]? :=by rw[B]
  rw[Zb C,Zb C,aaf] at D;simpa using D) Y h
theorem dR{l o k F a}(D:ops[k]? =γ o)(j:Region.wanted o (yielded ops a.tmps)=ε)(Y:E k=ε)(C:∀w,Kn ops w0 Φ k F w->lX P (Φ k) w ((execOp a.eval o).run P w))(B:∀v lo hi,(∃w,dS w0 Φ (F.set k (v,lo,hi)) w)->wpT P ops w0 E Φ Q l (k+1) (F.set k (v,lo,hi)) (a.put o.dst v)):wpT P ops w0 E Φ Q (o::l) k F a:=by
 unfold wpT tOp;simp only[D,j,Y,Ad];exact⟨C,B⟩
def bz{k F a}(h:Q F a):wpT P ops w0 E Φ Q [] k F a:=h
end
def lt_of_cell{w:World}{p:Addr}{v:Value}(h:w.cell? p=γ v):p.block<w.heap.size:=by
 rcases aab p.block w.heap.size with Z|Z
 .exact Z
 .simp[World.cell?,aax Z] at h
def Ext.cell_{w w'}(h:Ext w w'){p v}(hc:w.cell? p=γ v):w'.cell? p=γ v:=(h.cell (lt_of_cell hc)).trans hc
def aK.cell{w p v}(h:w.cell? p=γ v)(x:aK w):x.val.cell? p=γ v:=x.ext.cell_ h
def aK.blk{w g t cs}(h:Blk w g t cs)(x:aK w)(i):x.val.cell? ⟨g,i,δ⟩=cs[i]? :=(h.ext x.ext).cell i
def dS.get{w0:World}{Φ:Nat->Nat->Nat->Value->World->Prop}{F:Book}{k lo hi:Nat}{v:Value}{w:World}(h:dS w0 Φ (F.set k (v,lo,hi)) w):Φ k lo hi v w:=h.fact k _ (aeL _ _ _)
def dS.at_{w0 Φ F w}(h:dS w0 Φ F w)(k){e:Value×Nat×Nat}(U:F k=γ e):Φ k e.2.1 e.2.2 e.1 w:=h.fact k e U
theorem PK(g j):Addr.add ⟨g,0,δ⟩ j=⟨g,j,δ⟩:=by unfold Addr.add;split<;>simp_all
theorem add_plain(b o j):Addr.add ⟨b,o,δ⟩ j=⟨b,o+j,δ⟩:=by unfold Addr.add;split<;>simp_all
theorem Reads.plain{w B n A xs}(h:Reads w B 1 A n xs)(hn:0<n):
  ∃b o,A=γ ⟨b,o,δ⟩/\b<B/\∀(j:Nat) (u:Value),xs[j]? =γ u->w.cell? ⟨b,o+j,δ⟩=γ u:=by
 obtain⟨R,e,hb,hc⟩:=h.2 hn;have Z:0<xs.length:=by have:=h.1;omega
 have F:=hc 0 _ (ν Z);have hs:R.spot=δ:=by
  have D:w.cell? R=γ xs[0]:=F;unfold World.cell? at D;split at D
  .split at D
   .cases D
   .rename_i G;simpa using G
  .cases D
 obtain⟨b,o,sp⟩:=R;simp only at hs;subst hs;exact⟨b,o,e,hb,fun j u N=>by rw[<-add_plain];exact hc j u N⟩
abbrev Only (g:Nat) (w w':World):Prop:=w.grownBy w' (γ g)
section
variable {g:Nat} {w w' w'':World}
def Only.refl(g w):Only g w w:=World.grownBy.refl w _
def Only.trans(h:Only g w w')(k:Only g w' w''):Only g w w'':=
 ⟨k.os.trans h.os,k.tape.trans h.tape,k.output.trans h.output,nk h.size k.size,fun i hi j=>(k.block i (π hi h.size) j).trans (h.block i hi j)⟩
def afi(h:Ext w w'):Only g w w':=⟨h.os,h.tape,h.output,h.size,fun i hi _=>h.block i hi⟩
def Only.set(w g i u):Only g w (w.setCell ⟨g,i,δ⟩ u):=
 ⟨rfl,rfl,rfl,by simp[World.setCell],fun k _ j=>ab1 w ⟨g,i,δ⟩ u k (fun e=>j (by rw[e]))⟩
def Only.cell_(h:Only g w w'){p v}(hc:w.cell? p=γ v)(hp:p.block≠g):w'.cell? p=γ v:=
 (World.cell?_of_block (h.block p.block (lt_of_cell hc) (fun e=>hp (by injection e)))).trans hc
def Only.blk(h:Only g w w'){b t cs}(hb:Blk w b t cs)(hp:b≠g):Blk w' b t cs:=(h.block b hb.lt (fun e=>hp (by injection e))).trans hb
def Only.ext{w0}(h:Only g w w')(U:Ext w0 w)(j:w0.heap.size<=g):Ext w0 w':=
 ⟨h.os.trans U.os,h.tape.trans U.tape,h.output.trans U.output,nk U.size h.size,fun i hi=>(h.block i (π hi U.size) (fun e=>by injection e with e;omega)).trans (U.block i hi)⟩
end

def Elem (P:Program) (t e:TypeId) (size bytes:Nat):Prop:=∃i z,P.underlying t=γ (.slice e)/\P.info? e=γ i/\i.zero=γ z/\i.size=size/\i.bytes=bytes/\z.cells.size=size/\0<size
def aeU{P t e size bytes z}(C:P.underlying t=γ (.slice e))(hi:(P.info? e).map (fun i=>(i.zero,i.size,i.bytes))=γ (γ z,size,bytes))(F:z.cells.size=size)(D:0<size):Elem P t e size bytes:=by
 obtain⟨i0,Q,l,B,j⟩:=abL hi;exact⟨i0,z,C,Q,l,B,j,F,D⟩
def gK{P w ops rest o a Q t e size l}(E:Elem P t e size l)(D:o.guard=δ)(s x:Operand)(V:o.op=.call {callee:=.builtin .append,args:= #[s,x],argTypes:= #[t,t]})(base v n xs)(hs:a.eval s=v)(I:w.ownsRow base e size v n xs)(B m c C)(W:a.eval x=.slice (γ ⟨B,0,δ⟩) m c)(O:Blk w B e C.toArray)(Z:C.length=m*size)(T:∀u∈C,u.oneCell'=ε)(Y:0<m)(L:n+m<=9223372036854775807)(G:(n+m)*l<=140737488355328)(H:base<=w.heap.size)(h:∀g F w',w'.ownsRow base e size (.slice (γ ⟨g,0,δ⟩) (n+m) F) (n+m) (xs++C)->w.grownBy w' v.ownBlock->(v.ownBlock=γ g\/g=w.heap.size)->g<w'.heap.size->wpList P ops Q rest (a.put o.dst (.slice (γ ⟨g,0,δ⟩) (n+m) F)) w'):
  wpList P ops Q (o::rest) a w:=by
 obtain⟨i,z,S,hi,U,J,K,M,R⟩:=E;exact wpList_append_lies w D s x t V base e i z size l S hi U J K M R v n xs hs I ⟨B,0,δ⟩ m c C W Z (fun j u N=>by have:=acp O j u;simpa using this AcB) T Y L G H w.heap.size rfl h
def GM{P w ops rest o a Q t e size l}(E:Elem P t e size l)(D:o.guard=δ)(s x:Operand)(U:o.op=.call {callee:=.builtin .append,args:= #[s,x],argTypes:= #[t,t]})(base v n xs)(hs:a.eval s=v)(I:w.ownsRow base e size v n xs)(A m c C)(V:a.eval x=.slice A m c)(B:Reads w w.heap.size size A m C)(S:∀u∈C,u.oneCell'=ε)(N:0<m)(L:n+m<=9223372036854775807)(G:(n+m)*l<=140737488355328)(H:base<=w.heap.size)(h:∀g F w',w'.ownsRow base e size (.slice (γ ⟨g,0,δ⟩) (n+m) F) (n+m) (xs++C)->w.grownBy w' v.ownBlock->(v.ownBlock=γ g\/g=w.heap.size)->g<w'.heap.size->wpList P ops Q rest (a.put o.dst (.slice (γ ⟨g,0,δ⟩) (n+m) F)) w'):
  wpList P ops Q (o::rest) a w:=by
 obtain⟨i,z,O,hi,T,J,K,M,j⟩:=E;obtain⟨R,rfl,_,hc⟩:=B.2 N;exact wpList_append_lies w D s x t U base e i z size l O hi T J K M j v n xs hs I R m c C V B.1 hc S N L G H w.heap.size rfl h
section
variable {w w':World} {base:Nat} {e:TypeId} {size n:Nat} {v:Value} {xs:List Value}
def fE(h:w.ownsRow base e size v n xs)(j:Ext w w'):w'.ownsRow base e size v n xs:=
 h.kept (row:=δ) ⟨j.os,j.tape,j.output,j.size,fun k l _=>j.block k l⟩ (by cases hv:v.ownBlock<;>simp)
def qO{g}(h:w.ownsRow base e size v n xs)(l:Only g w w')(j:v.ownBlock≠γ g):w'.ownsRow base e size v n xs:=h.kept l (.inr j)
def yx{base' T j n' K l}(h:w.ownsRow base e size v n xs)(G:w.ownsRow base' T j K n' l)(D:e≠T):v.ownBlock=δ\/v.ownBlock≠K.ownBlock:=by
 rcases h.2 with ⟨rfl,_⟩|⟨g,F,cur,rfl,_,I,_⟩
 .exact .inl rfl
 .right
  rcases G.2 with ⟨rfl,_⟩|⟨g',B,C,rfl,_,Y,_⟩
  .simp[Value.ownBlock]
  .simp only[Value.ownBlock,ne_eq,aaC];rintro rfl;rw[I] at Y;injection Y with Y;injection Y with _ H;exact D H
def iX(h:w.ownsRow base e size v n xs):∃A c,v=.slice A n c/\n<=c/\c<=maxLen/\Reads w w.heap.size size A n xs:=by
 have l:=h.1;rcases h.2 with ⟨rfl,rfl⟩|⟨g,F,cur,rfl,_,C,B,j,_,_⟩
 .obtain rfl:xs=[]:=NK (by simpa using l);exact⟨δ,0,rfl,κ _,Ex _,afa⟩
 .exact⟨_,F,rfl,B,j,l,fun _=>⟨_,rfl,(abd.1 C).1,h.cells (g:=g) rfl⟩⟩
def _root_.Go.World.ownsRow.less{base'}(h:w.ownsRow base e size v n xs)(O:base'<=base):w.ownsRow base' e size v n xs:=by
 refine⟨h.1,?_⟩;rcases h.2 with hn|⟨g,F,cur,hv,hb,rest⟩
 .exact .inl hn
 .exact .inr ⟨g,F,cur,hv,nk O hb,rest⟩
def jW{row w0}(l:w.grownBy w' row)(U:Ext w0 w)(j:∀g,row=γ g->w0.heap.size<=g):Ext w0 w':=
 Below.grown U l U.size j
def ig{g}(h:w.ownsRow base e size v n xs)(j:g<base):v.ownBlock≠γ g:=by
 intro hv;have:=(h.lt g hv).1;omega
def dW{row g t cs}(l:w.grownBy w' row)(hb:Blk w g t cs)(j:row≠γ g):Blk w' g t cs:=(l.block g hb.lt (fun e=>j e.symm)).trans hb
end
def kZ{s:Result Value}{w'}(h:s.andThen (fun x w=>Result.ok (Next.value x) w)=.ok .skip w'):False:=by
 cases s<;>simp[Result.andThen] at h
def uE{P}{ev:Operand->Value}{o w w'}(hp:gD o.op=ε)(h:(execOp ev o).run P w=.ok .skip w'):False:=by
 obtain⟨l,op,G,pos,F,D⟩:=o;cases op<;>simp only[gD,Y0] at hp<;>simp only[execOp,aaG,aa4] at h
 case call c=>
  obtain⟨j,C,B⟩:=c;cases j<;>simp only[Y0] at hp
  case builtin b=>
   cases b<;>simp only[Y0] at hp<;>simp only[resolve,aaG,aa4,aaB,invoke,builtin] at h<;>exact kZ h
 case pick c x y=>cases hb:(asBool (ev c)).run P w<;>simp[hb,Result.andThen] at h
 all_goals first
  |exact kZ h
  |(simp at h;done)
section
variable {P:Program} {ops:Array Oper} {Q Q':Exit->Act->World->Prop} {S:World->Prop}
def IQ{o:Oper}{a:Act}{K I:Act->World->Prop}{r:Result Next}(J:∀a w,K a w->I a w)(j:∀e a w,Q e a w->Q' e a w)(h:o.upon P a K Q r):o.upon P a I Q' r:=by
 cases r with
 |ok n w'=>
  cases n<;>simp only[Oper.upon] at h⊢
  case value u=>exact J _ _ h
  case skip=>exact J _ _ h
  case defer d=>exact J _ _ h
  case enter f args=>
   refine Calls.mono h fun e w'' U=> ?_;cases e with
   |returned u=>exact J _ _ U
   |panicked c=>exact j _ _ _ U
   |outgrown=>exact(U:LetsOut Q).elim fun a h=>h.elim fun w h=>⟨a,w,j _ _ _ h⟩
  case row row args=>exact Rows.mono h fun u w'' U=>J _ _ U
 |halt x w'=>
  cases x<;>simp only[Oper.upon] at h⊢
  case panic u=>exact j _ _ _ h
theorem vN{o a v}(hp:gD o.op=ε)(B:Region.wanted o (yielded ops a.tmps)=ε)(h:∀w,S w->o.quietAt P a S w v):YieldsIf P ops S o v a:=by
 refine .inl ⟨B,fun w hS=> ?_⟩;have j:=h w hS;unfold Oper.quietAt at j;generalize l:(execOp a.eval o).run P w=C at*
 cases C with
 |ok nx w'=>
  cases nx<;>simp only[Oper.quietUpon] at j
  case value u=>obtain⟨rfl,rfl⟩:=j;rfl
  case skip=>exact(uE hp l).elim
  case enter f args=>exact(jP hp l).elim
 |halt x w'=>simp only[Oper.quietUpon] at j
def aZ:List Oper->Nat->List Oper
 |[],_=>[]
 |o::_,0=>[o]
 |_::l,n+1=>aZ l n
def cZ (l:List Oper):List Nat->List Oper
 |[]=>[]
 |i::is=>aZ l i++cZ l is
def AU{l i o}(h:l[i]? =γ o):aZ l i=[o]:=by
 induction l generalizing i with
 |nil=>simp at h
 |cons x l ih=>
  cases i with
  |zero=>simpa[aZ] using h
  |succ i=>simpa[aZ] using ih Ab6
end

section
variable {P:Program} {ops:Array Oper} {Q:Exit->Act->World->Prop} {S:World->Prop}
def QF:Exit->Act->World->Prop:=fun _ _ _=>False
def rM (P:Program) (ops:Array Oper) (S:World->Prop) (n:Nat) (L:Array Bool->Act->World->Prop):Nat->Array Bool->Act->World->Prop
 |0,listed,a,w=>L listed a w
 |f+1,listed,a,w=>Region.ready .any ops listed≠[]/\∀i∈Region.ready .any ops listed,i<n/\wpOp P ops QF i (fun a' w'=>S w'/\rM P ops S n L f (listed.setIfInBounds i ε) a' w') a w
theorem Jg{Q Q' i a w}{K I:Act->World->Prop}(J:∀a w,K a w->I a w)(B:∀e a w,Q e a w->Q' e a w)(h:wpOp P ops Q i K a w):wpOp P ops Q' i I a w:=by
 unfold wpOp at h⊢;split
 .rename_i l;simp only[l] at h;exact J _ _ h
 .rename_i o l
  simp only[l] at h;split
  .rename_i j
   simp only[j,Ad] at h;rcases h with h|⟨F,C,w1,D⟩
   .exact .inl (IQ J B h)
   .exact .inr ⟨F,C,w1,B _ _ _ D⟩
  .rename_i j
   simp only[j] at h;exact J _ _ h
def mh{n g}{L:Array Bool->Act->World->Prop}(j:∀B a w,L B a w->wpAny P .any ops Q g B a w):
  ∀(f:Nat) (B:Array Bool) (a:Act) (w:World),rM P ops S n L f B a w->wpAny P .any ops Q (f+g) B a w
 |0,B,a,w,h=>by rw[aaw];exact j _ _ _ h
 |f+1,B,a,w,h=>by
  rw[show f+1+g=(f+g)+1 by omega];exact⟨fun l=>absurd l h.1,fun i hi=>Jg (fun a' w' G=>mh j f _ a' w' G.2) (fun _ _ _ h=>h.elim) (h.2 i hi).2⟩
def jy{n i l v}{L:Array Bool->Act->World->Prop}(hi:ops[i]? =γ l)(C:∀(j:Nat) (o:Oper) cs b,ops[j]? =γ o->o.op≠ .select cs b)(hs:Region.sinkB .any ops n=ε)(hc:Region.chainB .any ops n=ε)(hn:n<ops.size)(K:i<n)(Z:∀B a w,L B a w->∀j∈Region.ready .any ops B,n<=j):
  ∀(f:Nat) (B:Array Bool) (a:Act) (w:World),HeadInv .any ops n B->
   (∀j I,ops[j]? =γ I->j≠i->B.getD j ε=ζ->(∀e∈I.after,Region.binds .any e=ε->e.on≠i)->l.apart ops I=ε)->
   i∈Region.ready .any ops B->YieldsIf P ops S l v a->S w->
   rM P ops S n L f (B.setIfInBounds i ε) (a.put l.dst v) w->rM P ops S n L (f+1) B a w:=by
 intro f
 induction f with
 |zero=>
  intro B a w inv _ G hy hS H;have N:=(aaY.1 G).1;refine⟨fun h=>(by rw[h] at G;cases G),fun j T=> ?_⟩;have O:j<n:=by
   exact Abb
  refine⟨O,?_⟩;by_cases M:j=i
  .subst M;exact hy.wpOp hi hS ⟨hS,H⟩
  .have:=Z _ _ _ H j (abq T M);omega
 |succ f ih=>
  intro B a w inv Y G hy hS H;have N:=(aaY.1 G).1;refine⟨fun h=>(by rw[h] at G;cases G),fun j T=> ?_⟩;have O:j<n:=by
   exact Abb
  refine⟨O,?_⟩;by_cases M:j=i
  .subst M;exact hy.wpOp hi hS ⟨hS,H⟩
  .have h1:=(H.2 j (abq T M)).2;obtain⟨R,I,Q,J⟩:=aaY.1 T;have W:∀e∈I.after,Region.binds .any e=ε->e.on≠i:=fun e U hb Wo=>by
    exact AcP
   have h2:=wpOp_putIf Q (Y j I Q M R W) (fun cs b=>C i l cs b hi) (fun cs b=>C j I cs b Q) (fun _ _ _ h=>h) hy h1;have D:∀k ok,ops[k]? =γ ok->k≠i->(B.setIfInBounds j ε).getD k ε=ζ->
     (∀e∈ok.after,Region.binds .any e=ε->e.on≠i)->l.apart ops ok=ε:=fun k ok hk Wv F Wm=>by
    refine Y k ok hk Wv ?_ Wm;by_cases V:j=k
    .subst V;exact R
    .rw[abS ε V] at F;exact F
   refine acA (fun a' w' h3=>⟨h3.2.1,ih (B.setIfInBounds j ε) a' w' (inv.set T O) D (abq G (aaO M)) h3.1 h3.2.1 ?_⟩) h2;rw[ab2 _ _ M];exact h3.2.2
def bT (P:Program) (ops:Array Oper) (S:World->Prop) (L:Act->World->Prop):List (Bool×Nat)->Act->World->Prop
 |[],a,w=>L a w
 |(ε,i)::rest,a,w=>match ops[i]? with
  |some o=>if Region.wanted o (yielded ops a.tmps) then o.quiet P a S (fun a'=>bT P ops S L rest a' w) else bT P ops S L rest (a.put o.dst undef) w
  |none=>False
 |(ζ,i)::rest,a,w=>wpOp P ops QF i (fun a' w'=>S w'/\bT P ops S L rest a' w') a w
def pX (ops:Array Oper) (n:Nat):List (Bool×Nat)->Array Bool->Bool
 |[],listed=>Region.seqB .any ops (ops.size-n) n listed
 |(ε,i)::rest,listed=>((ops[i]?).map fun o=>gD o.op).getD ζ&&Region.free .any ops listed i&&(Region.ready .any ops listed).contains i&&decide (i<n)&&pX ops n rest (listed.setIfInBounds i ε)
 |(ζ,i)::rest,listed=>decide (Region.ready .any ops listed=[i])&&decide (i<n)&&pX ops n rest (listed.setIfInBounds i ε)
theorem kI{n}{L:Act->World->Prop}(C:Region.noSelect ops=ε)(hs:Region.sinkB .any ops n=ε)(hc:Region.chainB .any ops n=ε)(hn:n<ops.size):
  ∀(ord:List (Bool×Nat)) (B:Array Bool) (a:Act) (w:World),HeadInv .any ops n B->pX ops n ord B=ε->S w->bT P ops S L ord a w->
  rM P ops S n (fun I a' w'=>Region.seqB .any ops (ops.size-n) n I=ε/\L a' w') ord.length B a w
 |[],B,a,w,_,hB,_,h=>⟨by simpa[pX] using hB,h⟩
 |(ε,i)::rest,B,a,w,inv,hB,hS,h=>by
  simp only[pX,υ,Θ] at hB;obtain⟨⟨⟨⟨hp,N⟩,R⟩,K⟩,J⟩:=hB;have W:i∈Region.ready .any ops B:=by simpa using R
  unfold bT at h;cases l:ops[i]? with
  |none=>simp[l] at h
  |some o=>
   simp only[l] at h;have M:gD o.op=ε:=by simpa[l] using hp
   by_cases D:Region.wanted o (yielded ops a.tmps)=ε
   .rw[ι D] at h;obtain⟨v,Q,O⟩:=h;exact jy (v:=v) l (aau C) hs hc hn K (fun _ _ _ F=>abK F.1) _ _ _ _ inv (aaT l N) W (vN M D Q) hS (kI C hs hc hn rest _ _ _ (inv.set W K) J hS O)
   .rw[θ D] at h;exact jy (v:=undef) l (aau C) hs hc hn K (fun _ _ _ F=>abK F.1) _ _ _ _ inv (aaT l N) W (.inr ⟨by simpa using D,rfl⟩) hS (kI C hs hc hn rest _ _ _ (inv.set W K) J hS h)
 |(ζ,i)::rest,B,a,w,inv,hB,hS,h=>by
  simp only[pX,υ,Θ] at hB;unfold bT at h;refine⟨by rw[hB.1.1];simp,fun j H=> ?_⟩;have G:=H;rw[hB.1.1] at H;obtain rfl:j=i:=by simpa using H
  exact⟨hB.1.2,acA (fun a' w' h=>⟨h.1,kI C hs hc hn rest _ _ _ (inv.set G hB.1.2) hB.2 h.1 h.2⟩) h⟩
def BJ{L:Nat}{a:Act}{w:World}{l:List Oper}(n:Nat)(S:World->Prop)(ord:List (Bool×Nat))(R:P.follows .mixedOrders=ε)(O:(Region.noSelect l.toArray&&Region.sinkB .any l.toArray n&&Region.chainB .any l.toArray n&&decide (n<l.length)&&decide (ord.length=n)&&pX l.toArray n ord (Array.replicate l.length ζ))=ε)(hS:S w.drew)(h:bT P l.toArray S (fun a' w'=>wpList P l.toArray Q (l.drop n) a' w') ord a w.drew):(Code.region L l.toArray ε).wp P Q a w:=by
 simp only[υ,Θ] at O;obtain⟨⟨⟨⟨⟨C,hs⟩,hc⟩,hn⟩,V⟩,D⟩:=O;have F:n<l.toArray.size:=by simpa using hn
 have G:HeadInv .any l.toArray n (Array.replicate l.length ζ):=
  ⟨ag,fun j I _ Z=>AaJ,fun t _ N=>ade AcB (aaK _ _)⟩
 have H:=kI (P:=P) C hs hc F ord _ a w.drew G D hS h;have J:(l.drop n).length=l.toArray.size-n:=ag;have K:=mh (P:=P) (Q:=Q) (n:=n) (g:=l.toArray.size-n) (fun B a' w' M=>by
  have:=ab3 (P:=P) (ops:=l.toArray) (md:=.any) (Q':=Q) (l.drop n) n B a' w' (fun j=>ag) (by rw[J];exact M.1) M.2;rwa[J] at this) _ _ _ _ H
 exact AbV
def bQ{L:Nat}{a:Act}{w:World}{l:List Oper}(n:Nat)(ord:List (Bool×Nat))(j:P.follows .mixedOrders=ε)(O:(Region.noSelect l.toArray&&Region.sinkB .any l.toArray n&&Region.chainB .any l.toArray n&&decide (n<l.length)&&decide (ord.length=n)&&pX l.toArray n ord (Array.replicate l.length ζ))=ε)(h:bT P l.toArray (fun w'=>∃x:aK w,w'=x.val) (fun a' w'=>wpList P l.toArray Q (l.drop n) a' w') ord a w.drew):(Code.region L l.toArray ε).wp P Q a w:=
 BJ n _ ord j O ⟨⟨w.drew,(Ext.refl w).drew⟩,rfl⟩ h
def aV{l w}{L:Act->World->Prop}:∀(is:List Nat) (rest:List (Bool×Nat)) (a:Act),is.all (fun i=>decide (i<l.length))=ε->
  wpQuiet P l.toArray S (fun a'=>bT P l.toArray S L rest a' w) (cZ l is) a->bT P l.toArray S L (is.map (fun i=>(ε,i))++rest) a w
 |[],_,_,_,h=>h
 |i::is,rest,a,hi,h=>by
  simp only[abP,υ,Θ] at hi;have B:l[i]? =γ l[i]:=ν hi.1;simp only[cZ,AU B,adf,wpQuiet] at h;simp only[acE,ξ,bT,Ξ,B];by_cases j:Region.wanted l[i] (yielded l.toArray a.tmps)=ε
  .rw[ι j] at h⊢;exact Oper.quiet_mono (fun a' G=>aV is rest a' hi.2 G) h
  .rw[θ j] at h⊢;exact aV is rest _ hi.2 h
theorem aT{l a w}{L:Act->World->Prop}(i rest)(hi:decide (i<l.length)=ε)(h:∀K:Act->World->Prop,(∀a' w',S w'->bT P l.toArray S L rest a' w'->K a' w')->wpList P l.toArray (fun e a' w'=>e=.normal/\K a' w') (aZ l i) a w):
  bT P l.toArray S L ((ζ,i)::rest) a w:=by
 have D:i<l.length:=by simpa using hi
 have G:l[i]? =γ l[i]:=ν D;have B:=h (fun a' w'=>S w'/\bT P l.toArray S L rest a' w') (fun _ _ B H=>⟨B,H⟩);simp only[AU G,wpList] at B;unfold bT wpOp;simp only[Ξ,G];split
 .rename_i F
  simp only[F,Ad] at B;rcases B with B|⟨_,_,_,B,_⟩
  .refine .inl ?_;have j:∀r:Result Next,(l[i]).upon P a (fun a' w'=>True/\S w'/\bT P l.toArray S L rest a' w') (fun e a' w'=>e=.normal/\S w'/\bT P l.toArray S L rest a' w') r->
     (l[i]).upon P a (fun a' w'=>S w'/\bT P l.toArray S L rest a' w') QF r:=by
    intro r C;cases r with
    |ok n w'=>
     cases n<;>simp only[Oper.upon] at C⊢
     case value u=>exact C.2
     case skip=>exact C.2
     case defer d=>exact C.2
     case enter f args=>
      refine Calls.mono C fun e w'' U=> ?_;cases e with
      |returned u=>exact U.2
      |panicked c=>cases U.1
      |outgrown=>exact(U:LetsOut _).elim fun a h=>h.elim fun w h=>by cases h.1
     case row row args=>exact Rows.mono C fun u w'' U=>U.2
    |halt x w'=>
     cases x<;>simp only[Oper.upon] at C⊢
     case panic u=>cases C.1
   exact j _ B
  .cases B
 .rename_i F
  simp only[F] at B;exact B.2
end
section
variable {P:Program} {ops:Array Oper} {Q:Exit->Act->World->Prop} {S:World->Prop}
def kF (P:Program) (ops:Array Oper) (S:World->Prop) (L:Act->World->Prop) (f:Nat) (post:List (Bool×Nat)):List (Bool×Nat)->Act->World->Prop
 |[],a,w=>wpOp P ops QF f (fun a' w'=>S w'/\bT P ops S L post a' w') a w
 |(ε,i)::rest,a,w=>match ops[i]? with
  |some o=>if Region.wanted o (yielded ops a.tmps) then o.quiet P a S (fun a'=>kF P ops S L f post rest a' w) else kF P ops S L f post rest (a.put o.dst undef) w
  |none=>False
 |(ζ,i)::rest,a,w=>wpOp P ops QF i (fun a' w'=>S w'/\kF P ops S L f post rest a' w') a w/\wpOp P ops QF f (fun a' w'=>S w'/\bT P ops S L ((ζ,i)::rest++post) a' w') a w
def sK (ops:Array Oper) (n f:Nat) (post:List (Bool×Nat)):List (Bool×Nat)->Array Bool->Bool
 |[],listed=>decide (Region.ready .any ops listed=[f])&&decide (f<n)&&pX ops n post (listed.setIfInBounds f ε)
 |(ε,i)::rest,listed=>((ops[i]?).map fun o=>gD o.op).getD ζ&&Region.free .any ops listed i&&(Region.ready .any ops listed).contains i&&decide (i<n)&&sK ops n f post rest (listed.setIfInBounds i ε)
 |(ζ,i)::rest,listed=>decide (Region.ready .any ops listed=[i,f])&&decide (i<n)&&decide (f<n)&&sK ops n f post rest (listed.setIfInBounds i ε)&&pX ops n ((ζ,i)::rest++post) (listed.setIfInBounds f ε)
theorem kR{n f post}{L:Act->World->Prop}(C:Region.noSelect ops=ε)(hs:Region.sinkB .any ops n=ε)(hc:Region.chainB .any ops n=ε)(hn:n<ops.size):
  ∀(ord:List (Bool×Nat)) (B:Array Bool) (a:Act) (w:World),HeadInv .any ops n B->sK ops n f post ord B=ε->S w->kF P ops S L f post ord a w->
  rM P ops S n (fun I a' w'=>Region.seqB .any ops (ops.size-n) n I=ε/\L a' w') (ord.length+(post.length+1)) B a w
 |[],B,a,w,inv,hB,hS,h=>by
  simp only[sK,υ,Θ] at hB;unfold kF at h;rw[show([]:List (Bool×Nat)).length+(post.length+1)=post.length+1 by simp];refine⟨by rw[hB.1.1];simp,fun j F=> ?_⟩;have D:=F;rw[hB.1.1] at F;obtain rfl:j=f:=by simpa using F
  exact⟨hB.1.2,acA (fun a' w' h=>⟨h.1,kI C hs hc hn post _ _ _ (inv.set D hB.1.2) hB.2 h.1 h.2⟩) h⟩
 |(ε,i)::rest,B,a,w,inv,hB,hS,h=>by
  simp only[sK,υ,Θ] at hB;obtain⟨⟨⟨⟨hp,T⟩,O⟩,K⟩,J⟩:=hB;have W:i∈Region.ready .any ops B:=by simpa using O
  unfold kF at h;rw[show((ε,i)::rest).length+(post.length+1)=(rest.length+(post.length+1))+1 by simp;omega];cases G:ops[i]? with
  |none=>simp[G] at h
  |some o=>
   simp only[G] at h;have M:gD o.op=ε:=by simpa[G] using hp
   by_cases N:Region.wanted o (yielded ops a.tmps)=ε
   .rw[ι N] at h;obtain⟨v,V,U⟩:=h;exact jy (v:=v) G (aau C) hs hc hn K (fun _ _ _ Q=>abK Q.1) _ _ _ _ inv (aaT G T) W (vN M N V) hS (kR C hs hc hn rest _ _ _ (inv.set W K) J hS U)
   .rw[θ N] at h;exact jy (v:=undef) G (aau C) hs hc hn K (fun _ _ _ Q=>abK Q.1) _ _ _ _ inv (aaT G T) W (.inr ⟨by simpa using N,rfl⟩) hS (kR C hs hc hn rest _ _ _ (inv.set W K) J hS h)
 |(ζ,i)::rest,B,a,w,inv,hB,hS,h=>by
  simp only[sK,υ,Θ] at hB;obtain⟨⟨⟨⟨O,K⟩,H⟩,l⟩,R⟩:=hB;unfold kF at h;rw[show((ζ,i)::rest).length+(post.length+1)=(rest.length+(post.length+1))+1 by simp;omega];refine⟨by rw[O];simp,fun j F=> ?_⟩;have D:=F;rw[O] at F;simp only[ψ,RS,aaU] at F;rcases F with rfl|rfl
  .exact⟨K,acA (fun a' w' h=>⟨h.1,kR C hs hc hn rest _ _ _ (inv.set D K) l h.1 h.2⟩) h.1⟩
  .refine⟨H,acA (fun a' w' h=>⟨h.1,?_⟩) h.2⟩;have:=kI (P:=P) (S:=S) (L:=L) C hs hc hn _ _ _ _ (inv.set D H) R h.1 h.2;rw[show((ζ,i)::rest++post).length=rest.length+(post.length+1) by simp;omega] at this;exact this
def AQ{L:Nat}{a:Act}{w:World}{l:List Oper}(n f:Nat)(F post:List (Bool×Nat))(R:Act->Act->World->Prop)(T:P.follows .mixedOrders=ε)(O:(Region.noSelect l.toArray&&Region.sinkB .any l.toArray n&&Region.chainB .any l.toArray n&&decide (n<l.length)&&decide (F.length+(post.length+1)=n)&&sK l.toArray n f post F (Array.replicate l.length ζ))=ε)(h:kF P l.toArray (fun w'=>∃x:aK w,w'=x.val) (fun a' w'=>R a a' w') f post F a w.drew)(U:∀a' w',R a a' w'->wpList P l.toArray Q (l.drop n) a' w'):(Code.region L l.toArray ε).wp P Q a w:=by
 simp only[υ,Θ] at O;obtain⟨⟨⟨⟨⟨C,hs⟩,hc⟩,hn⟩,V⟩,D⟩:=O;have K:n<l.toArray.size:=by simpa using hn
 have G:HeadInv .any l.toArray n (Array.replicate l.length ζ):=
  ⟨ag,fun j I _ Z=>AaJ,fun t _ S=>ade (by simpa using S) (aaK _ _)⟩
 have H:=kR (P:=P) C hs hc K F _ a w.drew G D ⟨⟨w.drew,(Ext.refl w).drew⟩,rfl⟩ h;have J:(l.drop n).length=l.toArray.size-n:=ag;have M:=mh (P:=P) (Q:=Q) (n:=n) (g:=l.toArray.size-n) (fun B a' w' N=>by
  have:=ab3 (P:=P) (ops:=l.toArray) (md:=.any) (Q':=Q) (l.drop n) n B a' w' (fun j=>ag) (by rw[J];exact N.1) (U _ _ N.2);rwa[J] at this) _ _ _ _ H
 exact AbW
def D8{l a w}{M:Act->World->Prop}(i)(hi:decide (i<l.length)=ε)(h:∀K:Act->World->Prop,(∀a' w',S w'->M a' w'->K a' w')->wpList P l.toArray (fun e a' w'=>e=.normal/\K a' w') (aZ l i) a w):
  wpOp P l.toArray QF i (fun a' w'=>S w'/\M a' w') a w:=aT (L:=M) i [] hi h
def gQ{l w}{L:Act->World->Prop}{f post}:∀(is:List Nat) (rest:List (Bool×Nat)) (a:Act),is.all (fun i=>decide (i<l.length))=ε->
  wpQuiet P l.toArray S (fun a'=>kF P l.toArray S L f post rest a' w) (cZ l is) a->kF P l.toArray S L f post (is.map (fun i=>(ε,i))++rest) a w
 |[],_,_,_,h=>h
 |i::is,rest,a,hi,h=>by
  simp only[abP,υ,Θ] at hi;have B:l[i]? =γ l[i]:=ν hi.1;simp only[cZ,AU B,adf,wpQuiet] at h;simp only[acE,ξ,kF,Ξ,B];by_cases j:Region.wanted l[i] (yielded l.toArray a.tmps)=ε
  .rw[ι j] at h⊢;exact Oper.quiet_mono (fun a' G=>gQ is rest a' hi.2 G) h
  .rw[θ j] at h⊢;exact gQ is rest _ hi.2 h
def rJ{l a w}{L:Act->World->Prop}{f post}(i rest)(hi:decide (i<l.length)=ε)(j:decide (f<l.length)=ε)(h:∀K:Act->World->Prop,(∀a' w',S w'->kF P l.toArray S L f post rest a' w'->K a' w')->wpList P l.toArray (fun e a' w'=>e=.normal/\K a' w') (aZ l i) a w)(B:∀K:Act->World->Prop,(∀a' w',S w'->bT P l.toArray S L ((ζ,i)::rest++post) a' w'->K a' w')->wpList P l.toArray (fun e a' w'=>e=.normal/\K a' w') (aZ l f) a w):
  kF P l.toArray S L f post ((ζ,i)::rest) a w:=⟨D8 i hi h,D8 f j B⟩
def rR{l a w}{L:Act->World->Prop}{f post}(j:decide (f<l.length)=ε)(B:∀K:Act->World->Prop,(∀a' w',S w'->bT P l.toArray S L post a' w'->K a' w')->wpList P l.toArray (fun e a' w'=>e=.normal/\K a' w') (aZ l f) a w):
  kF P l.toArray S L f post [] a w:=D8 f j B
end
def yI{P}(w){base t G e size l}(E:Elem P t e size l){v n xs}(I:w.ownsRow base e size v n xs)(A c):
  (Builtin.append_ #[t,t] G #[v,.slice A 0 c]).run P w=.ok v w:=by
 obtain⟨i,z,j,hi,D,J,K,M,C⟩:=E;rcases I.2 with ⟨rfl,rfl⟩|⟨g,F,cur,rfl,_,_,B,_⟩
 .cases A<;>simp[Builtin.append_,abh j,sizeOf,typeInfo,hi,Builtin.lenOf,Builtin.firstCells,loadCells,loadCellsFrom]
 .cases A<;>simp[Builtin.append_,abh j,sizeOf,typeInfo,hi,Builtin.lenOf,Builtin.firstCells,B,storeCells,loadCells,loadCellsFrom]
theorem kL{P w ops rest o a Q t e size l}(E:Elem P t e size l)(D:o.guard=δ)(s x:Operand)(B:o.op=.call {callee:=.builtin .append,args:= #[s,x],argTypes:= #[t,t]})(base v n xs)(hs:a.eval s=v)(I:w.ownsRow base e size v n xs)(A m c C)(N:a.eval x=.slice A m c)(M:Reads w w.heap.size size A m C)(R:∀u∈C,u.oneCell'=ε)(L:n+m<=9223372036854775807)(G:(n+m)*l<=140737488355328)(H:base<=w.heap.size)(h:∀K w',w'.ownsRow base e size K (n+m) (xs++C)->w.grownBy w' v.ownBlock->wpList P ops Q rest (a.put o.dst K) w'):
  wpList P ops Q (o::rest) a w:=by
 rcases Na m with j|j
 .subst j;obtain rfl:C=[]:=NK (by simpa using M.1);refine adG D fun _ J=> ?_;unfold Oper.wp execOp;simp only[B,resolve,invoke,builtin,aaG,aa4,aaB,List.map_toArray,acE,List.map_nil,hs,N,yI w E I A c];exact J _ _ (h v w (by simpa using I) (World.grownBy.refl w _))
 .exact GM E D s x B base v n xs hs I A m c C N M R j L G H (fun g F w' O S _ _=>h _ w' O S)
def wpT_q1{P:Program}{ops:Array Oper}{w0:World}{E:Nat->Bool}{Φ:Nat->Nat->Nat->Value->World->Prop}{Q:Book->Act->Prop}{o:Oper}{l:List Oper}{k:Nat}{F:Book}{a:Act}(B:ops[k]? =γ o)(Y:(!E k&&gD o.op)=ε)(h:wpQuiet P ops (fun w'=>∃x:aK w0,w'=x.val) (fun a'=>wpT P ops w0 E Φ Q l (k+1) F a') [o] a):wpT P ops w0 E Φ Q (o::l) k F a:=
 zK 1 (fun j C=>by
  obtain rfl:j=0:=aa;exact B.symm) (by simpa[B] using Y) h
def Qs{p q:Prop}(h:q)(t:q->p:=by
 intro h;(repeat (refine wpT_q1 (by rfl) (by rfl) ?_;go_big_quiet_step (fail);refine τ ?_));exact h):p:=t h
def Qp{p q:Prop}(h:q)(t:q->p:=by
 intro h;(try simp only[Act.put,qa,Z4,Z5]);exact h):p:=t h
def Kn.f{ops:Array Oper}{w0:World}{Φ:Nat->Nat->Nat->Value->World->Prop}{k:Nat}{F:Book}{w:World}(h:Kn ops w0 Φ k F w)(i:Nat)(e:Value×Nat×Nat)(l:F i=γ e:=by rfl)(j:anc ops ops.size k i=ε:=by kernel_rfl):Φ i e.2.1 e.2.2 e.1 w:=h.2 i e l j
section
variable {P:Program} {ops:Array Oper} {w0:World} {E:Nat->Bool} {Φ:Nat->Nat->Nat->Value->World->Prop} {Qt:Book->Act->Prop} {o:Oper} {l:List Oper} {k:Nat} {F:Book} {a:Act}
def Eb{Q:Nat->Nat->Prop}(h:∀g hi,g<hi->Q g hi)(t:(∀g hi,g<hi->Q g hi)->wpT P ops w0 E Φ Qt (o::l) k F a:=by
   intro h;refine dR (by rfl) (by rfl) (by rfl) ?_ ?_
   .intro W J;go_simp;exact⟨Ext.new _ _,rfl,by simp,Blk.new _ _ _⟩
   .intro v g hi B;obtain⟨W,j⟩:=B;obtain⟨rfl,Z,-⟩:=j.get;clear j W;(try simp only[Act.put,qa,Z4,Z5]);exact h g hi Z):wpT P ops w0 E Φ Qt (o::l) k F a:=t h
def En_{Q:Nat->Nat->Prop}(h:∀lo hi,Q lo hi)(t:(∀lo hi,Q lo hi)->wpT P ops w0 E Φ Qt (o::l) k F a:=by
   intro h;refine dR (by rfl) (by rfl) (by rfl) ?_ ?_
   .intro W J;go_simp;exact⟨Ext.refl _,rfl⟩
   .intro v lo hi B;obtain⟨W,j⟩:=B;obtain rfl:v=_:=j.get;clear j W;(try simp only[Act.put,qa,Z4,Z5]);exact h lo hi):wpT P ops w0 E Φ Qt (o::l) k F a:=t h
variable {G:Value->World->Prop} {f:FuncId} {args:Array Value}
def E1{Q:Value->Nat->Nat->Prop}(x:∀W,Kn ops w0 Φ k F W->Calls P f args W (fun e w'=>∃v,e=.returned v/\G v w'/\Ext W w'))(h:∀v lo hi,Q v lo hi)(t:(∀W,Kn ops w0 Φ k F W->Calls P f args W (fun e w'=>∃v,e=.returned v/\G v w'/\Ext W w'))->(∀v lo hi,Q v lo hi)->wpT P ops w0 E Φ Qt (o::l) k F a:=by
   intro x h;refine dR (by rfl) (by rfl) (by rfl) ?_ ?_
   .intro W J;have y:=x W J;clear x h J;go_simp;exact⟨rfl,y.mono fun e w' ⟨v,U,hv,B⟩=>⟨v,U,B,hv⟩⟩
   .intro v lo hi j;clear j x;(try simp only[Act.put,qa,Z4,Z5]);exact h v lo hi):wpT P ops w0 E Φ Qt (o::l) k F a:=t x h
end

def Qd{p q:Prop}(h:q)(t:q->p:=by
 intro h;simp only[aao,abj,ρ,χ];exact h):p:=t h
def mg (l:List Nat):List Value:=l.map fun(d:Nat)=> .int .u32 (d:Int)
def sP(l):(mg l).length=l.length:=by simp[mg]
def ry{l}{k x:Nat}(h:l[k]? =γ x):(mg l)[k]? =γ (.int .u32 (x:Int)):=by simp[mg,h]
def IV{l}:∀u∈mg l,u.oneCell'=ε:=by
 intro u N;simp only[mg,aad] at N;obtain⟨d,_,rfl⟩:=N;rfl
def TR(l:List Nat)(k x:Nat):(mg l).set k (.int .u32 (x:Int))=mg (l.set k x):=by simp[mg,adH]
def DK(n):mg (List.replicate n 0)=List.replicate n (.int .u32 0):=by simp[mg]
structure RM (w:World) (A:Option Addr) (n c:Nat) (l:List Nat):Prop where
 rd:Reads w w.heap.size 1 A n (mg l)
 dg:Dig l
 nc:n<=c
 cm:c<=9223372036854775807
section
variable {w w':World} {A:Option Addr} {n c:Nat} {l:List Nat}
def RM.ext(h:RM w A n c l)(e:Ext w w'):RM w' A n c l:=⟨h.rd.ext e,h.dg,h.nc,h.cm⟩
def RM.len(h:RM w A n c l):l.length=n:=by have:=h.rd.1;rw[sP] at this;omega
def RM.at_{k}(h:RM w A n c l)(B:k<n):∃R x,A=γ R/\R.block<w.heap.size/\l[k]? =γ x/\x<4294967296/\w.cell? (R.add k)=γ (.int .u32 (x:Int)):=by
 obtain⟨R,u,e,hb,N,hc⟩:=h.rd.at_ B;simp only[mg,I5,acd] at N;obtain⟨x,j,rfl⟩:=N;exact⟨R,x,e,hb,j,h.dg.at_ j,hc⟩
def aff:RM w δ 0 0 []:=⟨afa,ae0,κ _,aa⟩
def RM.empty(h:RM w A 0 c l):l=[]:=NK h.len
def RM.take{k c'}(h:RM w A n c l)(F:k<=n)(hc:k<=c')(D:c'<=9223372036854775807):RM w A k c' (l.take k):=by
 have Z:=h.len;refine⟨⟨?_,fun G=> ?_⟩,h.dg.take k,hc,D⟩
 .rw[sP,PI];omega
 .obtain⟨R,e,hb,B⟩:=h.rd.2 aa;refine⟨R,e,hb,fun j u N=>B j u ?_⟩;simp only[mg,I5,acd] at N⊢;obtain⟨x,C,rfl⟩:=N;refine⟨x,?_,rfl⟩;rw[List.getElem?_take] at C;split at C
  .exact C
  .cases C
end
def KX{l:List Nat}{k x}(h:l[k]? =γ x):l.getD k 0=x:=by simp[List.getD,h]
def IG{l k}(h:l[k]? =γ 0):jG l (k+1)=jG l k:=by simp[jG,h]
def Ie{l k x}(h:l[k]? =γ x)(j:x≠0):jG l (k+1)=k+1:=by simp[jG,h,j]
def SlM (l:List Nat) (v:Value) (w:World):Prop:=∃A n c,v=.slice A n c/\RM w A n c l
def PZ(A n c l w)(h:RM w A n c l):
  Calls prog 174 #[.slice A n c] w fun e w'=>(∃v,e=.returned v/\SlM (dV (val l)) v w)/\w=w':=by
 have hn:n<=9223372036854775807:=nk h.nc h.cm;have B:=h.nc;have M:=h.cm;have F:=aJ h.len;have J:=aJ (Rk h.dg);go_enter func174,ntmps174;go_wp2;go_loop [3] (fun i=>∃k:Nat,k<=n/\i=.int .i64 k/\jG l n=jG l k) (fun i=>(intOf i).toNat)
 case atStart=>exact⟨n,κ _,rfl,rfl⟩
 case round=>
  obtain⟨k,O,rfl,C⟩:=hrel;have V:=aJ C;clear C;by_cases N:k=0
  .subst N;go_wp2;go_ret;refine⟨⟨_,rfl,δ,0,0,rfl,?_⟩,rfl⟩;rw[<-J.o,F.o,V.o];exact aff
  .obtain⟨j,rfl⟩:∃j,k=j+1:=⟨k-1,aa⟩;obtain⟨R,x,rfl,hb,H,D,K⟩:=h.at_ (k:=j) aa;have I:=aJ H;clear H;by_cases G:x=0
   .subst G;go_wp2;go_round
    case rel=>exact⟨j,aa,au,by rw[V.o,IG I.o]⟩
    case measure=>simp[intOf]<;>omega
   .have L:((x:Int)==0)=ζ:=ae;go_wp2;go_ret;refine⟨⟨_,rfl,_,_,_,rfl,?_⟩,rfl⟩;rw[<-J.o,F.o,V.o,Ie I.o G];exact h.take aa aa aa
def qH (a b:Nat):Int:=if a<b then-1 else if b<a then 1 else 0
def KA{a b}(ha:Dig a)(j:Canon b)(h:a.length<b.length):val a<val b:=by
 have B:=nY ha;have l:=Iz j (by intro e;simp[e] at h);have C:=BB (n:=4294967296) aa (show a.length<=b.length-1 by omega);omega
def CB{a b k x y}(ha:Dig a)(B:a[k]? =γ x)(l:b[k]? =γ y)(h:a.drop (k+1)=b.drop (k+1))(j:x<y):val a<val b:=by
 obtain⟨I,rfl⟩:=μ.1 B;obtain⟨H,rfl⟩:=μ.1 l;have C:=gV a (k+1) aa;have G:=gV b (k+1) aa;rw[bW B] at C;rw[bW l,<-h] at G;have F:=nY (ha.take k);rw[PI,aaE aa] at F;have D:4294967296^k*(a[k]+1)<=4294967296^k*b[k]:=lh _ j;rw[Δ,aar] at D;omega
def MZ{a b:List Nat}{k x}(F:a[k]? =γ x)(l:b[k]? =γ x)(h:a.drop (k+1)=b.drop (k+1)):a.drop k=b.drop k:=by
 obtain⟨C,j⟩:=μ.1 F;obtain⟨B,D⟩:=μ.1 l;rw[aaF C,aaF B,j,D,h]
def KN{a b}(h:a<b): -1=qH a b:=by simp[qH,h]
def Lj{a b}(h:b<a):1=qH a b:=by simp[qH,h];omega
def QU{a b}(h:a=b):0=qH a b:=by simp[qH,h]
def iq(A B n m c d a b w)(H:RM w A n c a)(O:RM w B m d b)(C:Canon a)(Y:Canon b):
  CE 97 #[.slice A n c,.slice B m d] w (.int .i64 (qH (val a) (val b))):=by
 have hn:n<=9223372036854775807:=nk H.nc H.cm;have hm:m<=9223372036854775807:=nk O.nc O.cm;have Q:=aJ H.len;have P:=aJ O.len;rcases Nat.lt_trichotomy n m with J|L|F
 .have G:((n:Int) !=(m:Int))=ε:=ae;go_enter aeo,adJ;go_wp2;go_ret;exact⟨aO (KN (KA H.dg Y (by rw[Q.o,P.o];exact J))),Ext.refl _⟩
 .subst L;go_enter aeo,adJ;go_wp2;go_loopw [5] (fun i wr=>∃k:Nat,k<=n/\i=.int .i64 ((k:Int)-1)/\a.drop k=b.drop k/\Ext w wr) (fun i _=>(intOf i+1).toNat)
  case atStart=>exact⟨n,κ _,rfl,by rw[aaQ (by rw[Q.o];omega),aaQ (by rw[P.o];omega)],Ext.refl _⟩
  case round=>
   obtain⟨k,hk,rfl,hd,M⟩:=hrel;have I:=aJ hd;clear hd;by_cases W:k=0
   .subst W;go_wp2;go_ret;exact⟨aO (QU (by have:=I.o;simp at this;rw[this])),M⟩
   .obtain⟨j,rfl⟩:∃j,k=j+1:=⟨k-1,aa⟩;obtain⟨R,x,rfl,hb,V,D,K⟩:=(H.ext M).at_ (k:=j) aa;obtain⟨bd,y,rfl,Z,U,l,N⟩:=(O.ext M).at_ (k:=j) aa;have T:=aJ V;clear V;have S:=aJ U;clear U;have q1:(0:Int)<=(j:Int):=aa;have q2:(j:Int)<(n:Int):=aa;rcases Nat.lt_trichotomy x y with G|G|G
    .go_wp2;go_quiet (fail);go_wp2;go_ret;exact⟨aO (KN (CB H.dg T.o S.o I.o G)),M.drewN _⟩
    .subst G;go_wp2;go_quiet (fail);go_wp2;go_quiet (fail);go_wp2;go_roundw
     case rel=>exact⟨j,aa,au,MZ T.o S.o I.o,by first|exact(M.drewN _).drewN _|exact M.drewN _⟩
     case measure=>simp[intOf]<;>omega
    .go_wp2;go_quiet (fail);go_wp2;go_quiet (fail);go_wp2;go_ret;exact⟨aO (Lj (CB O.dg S.o T.o I.symm G)),by first|exact(M.drewN _).drewN _|exact M.drewN _⟩
 .have G:((n:Int) !=(m:Int))=ε:=ae;go_enter aeo,adJ;go_wp2;go_ret;exact⟨aO (Lj (KA O.dg C (by rw[Q.o,P.o];exact F))),Ext.refl _⟩
def Bb:Elem prog 38 208 1 4:=aeU ab7 (z:=.int .u32 0) ah rfl aa
def afO{w base n v l}(h:w.ownsRow base 208 1 v n (mg l))(hd:Dig l):SlM l v w:=by
 obtain⟨A,c,rfl,B,j,C⟩:=iX h;exact⟨A,n,c,rfl,C,hd,B,j⟩
def SlM.ext{w w' l v}(h:SlM l v w)(e:Ext w w'):SlM l v w':=by
 obtain⟨A,n,c,B,j⟩:=h;exact⟨A,n,c,B,j.ext e⟩
abbrev iv (neg:Bool) (A:Option Addr) (n c:Nat):Value:=.agg #[.bool neg,.slice A n c]
def RM.at3{w A n c k l}(h:RM w A n c l)(C:k<n):
  ∃R x,A=γ R/\l[k]? =γ x/\x<4294967296/\w.cell? (R.add k)=γ (.int .u32 (x:Int))/\(∀o,(w.alloc o).cell? (R.add k)=γ (.int .u32 (x:Int)))/\
   (∀o V,((w.alloc o).alloc V).cell? (R.add k)=γ (.int .u32 (x:Int)))/\(∀o V j,(((w.alloc o).alloc V).alloc j).cell? (R.add k)=γ (.int .u32 (x:Int))):=by
 obtain⟨R,x,e,hb,B,D,hc⟩:=h.at_ C;exact⟨R,x,e,B,D,hc,fun o=>(Ext.new w o).cell_ hc,fun o V=>((Ext.new w o).alloc V).cell_ hc,fun o V j=>(((Ext.new w o).alloc V).alloc j).cell_ hc⟩
def mO (neg:Bool) (l:List Nat):Bool:=if l.length=0 then !neg else decide (l.length<=400)&&l.getD (l.length-1) 0 !=0
def Ht{neg l}(h:l.length=0):mO neg l= !neg:=by simp[mO,h]
def Fq{neg l}(h:400<l.length):mO neg l=ζ:=by
 have:¬l.length=0:=aa;simp[mO,this];omega
def CF{neg l j x}(h:l.length=j+1)(B:j+1<=400)(C:l[j]? =γ x):mO neg l=(x !=0):=by
 have:¬l.length=0:=aa;simp only[mO,h,Nat.add_sub_cancel,KX C];simp[B]
def gF(neg A n c l w)(h:RM w A n c l):
  CE 96 #[iv neg A n c] w (.bool (mO neg l)):=by
 have hn:n<=9223372036854775807:=nk h.nc h.cm;have H:=aJ h.len;by_cases O:n=0
 .subst O;cases neg
  all_goals
   go_enter func96,ntmps96;go_wp2;go_ret;exact⟨aU (by rw[Ht H.o];rfl),Ext.new _ _⟩
 .obtain⟨j,rfl⟩:∃j,n=j+1:=⟨n-1,aa⟩;have N:(((j+1:Nat):Int)==0)=ζ:=ae;have B:((j:Int)+1==0)=ζ:=ae;by_cases J:j+1<=400
  .obtain⟨R,x,rfl,L,D,_,I,_,_⟩:=h.at3 (k:=j) aa;have M:=aJ L;clear L;by_cases G:x=0
   .subst G;have C:mO neg l=ζ:=by rw[CF H.o J M.o];rfl
    have F:=aJ C;clear C;exact AaU
   .have K:((x:Int) !=0)=ε:=ae;have C:mO neg l=ε:=by rw[CF H.o J M.o];simp[G]
    have F:=aJ C;clear C;exact AaU
  .have F:=aJ (Fq (neg:=neg) (l:=l) (by rw[H.o];omega));exact AaU
def RX (w:World) (v:Value) (neg:Bool) (l:List Nat):Prop:=∃A n c,v=iv neg A n c/\RM w A n c l
def RX.ext{w w' v neg l}(h:RX w v neg l)(e:Ext w w'):RX w' v neg l:=by
 obtain⟨A,n,c,B,j⟩:=h;exact⟨A,n,c,B,j.ext e⟩
def M5:Nat:=400
def lim:Nat:=4294967296^M5
def Qb{m k}(h:m<4294967296^k)(j:k<=400):m<lim:=π h (BB aa (show k<=M5 from j))
theorem tZ{m}(h:m<lim):(dV m).length<=400:=show(dV m).length<=M5 from kK (k:=M5) (by unfold lim at h;exact h)
def RI (w:World) (v:Value) (z:Int):Prop:=RX w v (decide (z<0)) (dV z.natAbs)
def RI.ext{w w' v z}(h:RI w v z)(e:Ext w w'):RI w' v z:=RX.ext h e
def RI.zero(w):RI w (iv ζ δ 0 0) 0:=⟨δ,0,0,rfl,by simpa[iQ] using aff⟩
def zOf (neg:Bool) (m:Nat):Int:=if neg then-(m:Int) else m
theorem DY(neg m):(zOf neg m).natAbs=m:=by unfold zOf;split<;>omega
def Q7(neg m):decide (zOf neg m<0)=(neg&&decide (0<m)):=by
 cases neg
 .simp[zOf]
 .simp[zOf]
def RX.made{w A n c m}(neg)(h:RM w A n c (dV m)):RI w (iv (neg&&decide (0<n)) A n c) (zOf neg m):=by
 refine⟨A,n,c,?_,by rw[DY];exact h⟩;have Z:=h.len;rw[Q7];have e:decide (0<n)=decide (0<m):=by
  by_cases j:m=0
  .subst j;rw[iQ] at Z;obtain rfl:n=0:=by simpa using Z.symm
   rfl
  .have B:dV m≠[]:=fun e=>j (oL.1 e);have l:0<n:=by rw[<-Z];exact acr.2 B
   rw[pq l,pq aa]
 rw[e]
theorem aeP{w v z}(j:RI w v z)(F:z.natAbs<lim):mO (decide (z<0)) (dV z.natAbs)=ε:=by
 unfold mO;have C:(dV z.natAbs).length<=400:=tZ F;split
 .rename_i B
  have:=oL.1 (NK B);simp;omega
 .rename_i B
  have l:(dV z.natAbs)[(dV z.natAbs).length-1]? =γ (dV z.natAbs)[(dV z.natAbs).length-1]:=ν aa;have D:=eu z.natAbs _ (by rw[abY];exact l);simp only[υ,Θ,bne_iff_ne,KX l];exact⟨C,D⟩
def RM.only{w w' A n c g l t cs}(h:RM w A n c l)(F:Only g w w')(hb:Blk w g t cs)(D:∀(j:Nat) (k:IntKind) (x:Int),cs[j]?≠γ (.int k x)):RM w' A n c l:=by
 refine⟨⟨h.rd.1,fun hn=> ?_⟩,h.dg,h.nc,h.cm⟩;obtain⟨b,o,rfl,B,hc⟩:=h.rd.plain hn;obtain⟨R,x,e,_,G,_,_⟩:=h.at_ hn;have C:b≠g:=by
  rintro rfl;have:=hc 0 _ (ry G);rw[hb.cell] at this;exact D _ _ _ this
 refine⟨_,rfl,π B F.size,fun j u N=> ?_⟩;rw[add_plain];exact F.cell_ (hc j u N) C
def TW{b A n c}:∀(j:Nat) (k:IntKind) (x:Int),#[Value.bool b,Value.slice A n c][j]?≠γ (.int k x):=by
 intro j k x
 match j with
 |0=>simp
 |1=>simp
 |j+2=>simp
def ou{w w' g B A0 n0 c0}(C:Ext w w')(j:w.heap.size<=g)(hb:Blk w' g 40 #[.bool B,.slice A0 n0 c0])(b A n c):
  Ext w ((w'.setCell ⟨g,0,δ⟩ (.bool b)).setCell ⟨g,1,δ⟩ (.slice A n c))/\Blk ((w'.setCell ⟨g,0,δ⟩ (.bool b)).setCell ⟨g,1,δ⟩ (.slice A n c)) g 40 #[.bool b,.slice A n c]/\
   ∀A' n' c' l,RM w' A' n' c' l->RM ((w'.setCell ⟨g,0,δ⟩ (.bool b)).setCell ⟨g,1,δ⟩ (.slice A n c)) A' n' c' l:=
 ⟨(C.setCell j _).setCell j _,(hb.qg 0 _).qg 1 _,fun _ _ _ _ h=>h.only ((Only.set _ _ _ _).trans (Only.set _ _ _ _)) hb TW⟩
def vP{w g b A n c}(hb:Blk w g 40 #[.bool b,.slice A n c]):(loadVar 40 ⟨g,0,δ⟩).run prog w=.ok (iv b A n c) w:=by
 have hc:=hb.cell;simp[go_sem,hc]
section
variable {fn:Func} {R:Ending->World->Prop} {a:Act} {w:World} {t u x g g':Nat} {b b':Bool} {A A':Option Addr} {n c n' c':Nat}
def jf(l:fn.results= #[.cell t 40])(hd:a.defers=[])(hp:a.tmps[t]?.getD undef=.pointer (γ ⟨g,0,δ⟩))(hb:Blk w g 40 #[.bool b,.slice A n c])(j:R (.returned (iv b A n c)) w):bodyPost prog fn R .ret a w:=aak (by simp[results,l,hp,asAddr,vP hb]) hd j
def kT(l:fn.results= #[.cell t 40,.tmp u])(hd:a.defers=[])(hp:a.tmps[t]?.getD undef=.pointer (γ ⟨g,0,δ⟩))(hb:Blk w g 40 #[.bool b,.slice A n c])(j:R (.returned (.tuple #[iv b A n c,a.tmps.getD u undef])) w):bodyPost prog fn R .ret a w:=aak (v:=.tuple #[iv b A n c,a.tmps.getD u undef]) (by simp[results,l,hp,asAddr,vP hb]) hd j
def Lg(B:fn.results= #[.cell t 40,.cell u 40,.tmp x])(hd:a.defers=[])(hp:a.tmps[t]?.getD undef=.pointer (γ ⟨g,0,δ⟩))(hb:Blk w g 40 #[.bool b,.slice A n c])(M:a.tmps[u]?.getD undef=.pointer (γ ⟨g',0,δ⟩))(j:Blk w g' 40 #[.bool b',.slice A' n' c'])(l:R (.returned (.tuple #[iv b A n c,iv b' A' n' c',a.tmps.getD x undef])) w):bodyPost prog fn R .ret a w:=
 aak (v:=.tuple #[iv b A n c,iv b' A' n' c',a.tmps.getD x undef]) (by simp[results,B,hp,M,asAddr,vP hb,vP j]) hd l
end
def uC (z:Int):Int×Int:=if z.natAbs<lim then (z,0) else (0,2)
theorem uy{z}(h:z.natAbs<lim):uC z=(z,0):=by unfold uC;rw[ι h]
theorem Q4{z}(h:¬z.natAbs<lim):uC z=(0,2):=by unfold uC;rw[θ h]
def vE (p:Int×Int) (v:Value) (w:World):Prop:=∃u,v=.tuple #[u,.int .i64 p.2]/\RI w u p.1
def vE.ext{w w' v}{p:Int×Int}(h:vE p v w)(e:Ext w w'):vE p v w':=by
 obtain⟨u,l,j⟩:=h;exact⟨u,l,j.ext e⟩
def II{m n}(h:(dV m).length=n):n<=400↔m<lim:=
 ⟨fun j=>Qb (il (k:=n) aa) j,fun j=>by have:=tZ j;omega⟩
def jK(A n c l w)(h:RM w A n c l):
  CV 174 #[.slice A n c] w fun v w'=>SlM (dV (val l)) v w':=
 (PZ A n c l w h).mono fun _ _ ⟨⟨v,C,B⟩,j⟩=>⟨v,C,j ▸ B,j ▸ Ext.refl _⟩
def gY(neg A n c l w)(h:RM w A n c l):
  CV 203 #[.bool neg,.slice A n c] w fun v w'=>vE (uC (zOf neg (val l))) v w':=by
 go_enter func203,ntmps203;(go_wp2_with fail);refine(jK A n c l _ (h.ext (Ext.new w _))).mono ?_;rintro e w1 ⟨v1,rfl,⟨A1,n1,c1,rfl,J⟩,H⟩;have hb:=(Blk.new w 40 _).ext H;have hc:=hb.cell;have P:=hb.frozen;have O:n1<=9223372036854775807:=nk J.nc J.cm;have B:=II J.len;have j:=DY neg (val l);by_cases N:n1<=400
 .obtain⟨C,I,M⟩:=ou ((Ext.new w _).trans H) (κ _) hb (neg&&decide (0<n1)) A1 n1 c1;have F:=aJ C;have D:=aJ I;have K:=aJ (RX.made neg (M _ _ _ _ J));clear C I M;have G:=aJ (uy (z:=zOf neg (val l)) (by rw[j];exact B.1 N));clear B j;by_cases L:0<n1
  all_goals
   cases neg
   all_goals
    go_wp2
    first
     |simp only[abQ,adg,Γ L] at F D K
     |simp only[abQ,adg,pq L] at F D K
    exact kT rfl rfl rfl D.o ⟨_,rfl,⟨_,by rw[G.o];rfl,by rw[G.o];exact K.o⟩,F.o⟩
 .have G:=aJ (Q4 (z:=zOf neg (val l)) (by rw[j];exact fun h=>N (B.2 h)));clear B j;obtain⟨C,I,_⟩:=ou ((Ext.new w _).trans H) (κ _) hb ζ δ 0 0;have F:=aJ C;have D:=aJ I;clear C I;go_wp2;exact kT rfl rfl rfl D.o ⟨_,rfl,⟨_,by rw[G.o];rfl,by rw[G.o];exact RI.zero _⟩,F.o⟩
def RM.blk{w g n l}(hb:Blk w g 208 (mg l).toArray)(hd:Dig l)(hn:l.length=n)(j:n<=9223372036854775807):RM w (γ ⟨g,0,δ⟩) n n l:=by
 have:=hb.reads (n:=n) (size:=1) (by simp[sP,hn]);exact⟨by simpa using this,hd,κ _,j⟩
def J9(u):val [u%4294967296,u/4294967296]=u:=by simp only[val];omega
def Kb{u}(h:u<18446744073709551616):Dig [u%4294967296,u/4294967296]:=Dig.cons aa (Dig.one aa)
def j4(n):IntKind.u64.wrap n=n%18446744073709551616:=by simp[IntKind.wrap,IntKind.signed,IntKind.bits]
def u64_neg{m:Nat}(h:m<=9223372036854775808):IntKind.u64.wrap (-IntKind.u64.wrap (-(m:Int)))=(m:Int):=by
 rw[j4,j4];omega
def TU(u:Nat): #[Value.int .u32 ((u:Int)%4294967296),Value.int .u32 ((u:Int)/4294967296)]=(mg [u%4294967296,u/4294967296]).toArray:=by
 simp[mg]
def SK{u:Nat}(h:u<18446744073709551616): #[Value.int .u32 ((u:Int)%4294967296),Value.int .u32 ((u:Int)/4294967296%4294967296)]=(mg [u%4294967296,u/4294967296]).toArray:=by
 simp[mg];omega
def SQ(m):zOf ζ m=(m:Int):=rfl
def R8(m):zOf ε m= -(m:Int):=rfl
def AJ(n w)(M: -9223372036854775808<=n)(K:n<=9223372036854775807):
  CV 140 #[.int .i64 n] w fun v w'=>RI w' v n:=by
 by_cases L:n<0
 .obtain⟨m,rfl⟩:∃m:Nat,n= -(m:Int):=⟨n.natAbs,aa⟩;go_enter func140,ntmps140;(go_wp2_with fail);rw[u64_neg aa,SK aa];refine(jK _ 2 2 _ _ (RM.blk (aeE _ _ ag) (Kb aa) rfl aa)).mono ?_;rintro e w1 ⟨v1,rfl,⟨A1,n1,c1,rfl,j⟩,H⟩;rw[J9] at j;have hb:=((Blk.new w 40 _).alloc _).ext H;have hc:=hb.cell;have J:=hb.frozen;obtain⟨C,D,l⟩:=ou (((Ext.new w _).alloc _).trans H) (κ _) hb ε A1 n1 c1;have I:=aJ C;have G:=aJ D;have B:=aJ (RX.made ε (l _ _ _ _ j));clear C D l;have F:0<n1:=by
   have:=j.len;rw[<-this];exact acr.2 fun e=>by have:=oL.1 e;omega
  rw[pq F,abQ,R8] at B;go_wp2;exact jf rfl rfl rfl G.o ⟨_,rfl,B.o,I.o⟩
 .obtain⟨m,rfl⟩:∃m:Nat,n=(m:Int):=⟨n.natAbs,aa⟩;go_enter func140,ntmps140;(go_wp2_with fail);rw[TU];refine(jK _ 2 2 _ _ (RM.blk (aeE _ _ ag) (Kb aa) rfl aa)).mono ?_;rintro e w1 ⟨v1,rfl,⟨A1,n1,c1,rfl,j⟩,H⟩;rw[J9] at j;have hb:=((Blk.new w 40 _).alloc _).ext H;have hc:=hb.cell;have J:=hb.frozen;obtain⟨C,D,l⟩:=ou (((Ext.new w _).alloc _).trans H) (κ _) hb ζ A1 n1 c1;have I:=aJ C;have G:=aJ D;have B:=aJ (RX.made ζ (l _ _ _ _ j));clear C D l;rw[adg,SQ] at B;go_wp2;exact jf rfl rfl rfl G.o ⟨_,rfl,B.o,I.o⟩
def N8:(prog.info? 208).map (fun i=>(i.zero,i.size,i.bytes))=γ (γ (.int .u32 0),1,4):=ah
def nT(x:Int)(k:Nat)(C:x=k)(D:k<=10000000)(W:World):
  (Instr.makeSlice 38 (.int .i64 x) (.int .i64 x)).run prog W=.ok (.slice (γ ⟨W.heap.size,0,δ⟩) k k) (W.alloc (.cells (mg (List.replicate k 0)).toArray 208)):=by
 obtain⟨i0,Q,l,B,j⟩:=abL N8;have h:=acV (P:=prog) W 38 208 i0 (.int .u32 0) ab7 Q l .i64 .i64 x x aa aa Abj aa;subst C;rw[h,DK];have e:madeCells (Value.int .u32 0).cells k=(List.replicate k (Value.int .u32 0)).toArray:=uH _ _;simp only[B,aar,I6,e]
def zV{o k N d}(j:o.length=k)(l:k<N):(o++List.replicate (N-k) 0).set k d=(o++[d])++List.replicate (N-(k+1)) 0:=by
 subst j;rw[show N-o.length=(N-(o.length+1))+1 by omega,abm];simp
def Ev{l:List Nat}{k d:Nat}{z:Int}(h:z=(d:Int)):(mg l).set k (.int .u32 z)=mg (l.set k d):=by subst h;exact TR l k d
def kM{w:World}{g k N d:Nat}{o:List Nat}{z:Int}(hb:Blk w g 208 (mg (o++List.replicate (N-k) 0)).toArray)(l:o.length=k)(j:k<N)(B:z=(d:Int)):
  Blk (w.setCell ⟨g,k,δ⟩ (.int .u32 z)) g 208 (mg ((o++[d])++List.replicate (N-(k+1)) 0)).toArray:=by
 have:=hb.Uj (i:=k) (.int .u32 z);rwa[Ev B,zV l j] at this
def qw{w g k N o}(hb:Blk w g 208 (mg (o++List.replicate (N-k) 0)).toArray)(j:o.length=k)(l:k<N):∃u,w.cell? ⟨g,k,δ⟩=γ u:=by
 exact hb.MS (by simp[sP,j];omega)
def vV{o a b:List Nat}{k J x y}(j:o.length=k)(h:val o+4294967296^k*J=val (a.take k)+val (b.take k))(B:a[k]? =γ x)(l:val (b.take (k+1))=val (b.take k)+4294967296^k*y):
  val (o++[(x+J+y)%4294967296])+4294967296^(k+1)*((x+J+y)/4294967296)=val (a.take (k+1))+val (b.take (k+1)):=by
 rw[mf,bW B,l,j,De,ω];have e:4294967296^k*((x+J+y)%4294967296)+4294967296^k*(4294967296*((x+J+y)/4294967296))=4294967296^k*(x+J+y):=by
  rw[<-Δ];congr 1;omega
 have C:4294967296^k*(x+J+y)=4294967296^k*x+4294967296^k*J+4294967296^k*y:=by rw[Δ,Δ]
 omega
def xN{b:List Nat}{m k}(h:b.length=m)(j:¬k<m):val (b.take (k+1))=val (b.take k)+4294967296^k*0:=by rw[BR aa];rfl
def LD(A B n m c d a b w)(Z:RM w A n c a)(O:RM w B m d b)(hn:n<=1000000)(hm:m<=1000000)(I:m<=n):
  CV 214 #[.slice A n c,.slice B m d] w fun v w'=>SlM (dV (val a+val b)) v w':=by
 have HA:=aJ Z.len;have Y:=aJ O.len;have U:=nT ((n:Int)+1) (n+1) aa aa;go_enter func214,ntmps214;go_wp2;clear U;go_loopw [6,22] (fun cv i wr=>∃(k J:Nat) (o:List Nat),k<=n/\i=.int .i64 k/\cv=.int .u64 (J:Int)/\J<=1/\o.length=k/\Dig o/\val o+4294967296^k*J=val (a.take k)+val (b.take k)/\
   Blk wr w.heap.size 208 (mg (o++List.replicate (n+1-k) 0)).toArray/\Ext w wr) (fun _ i _=>n-(intOf i).toNat)
 case atStart=>exact⟨0,0,[],Ex _,rfl,rfl,aa,rfl,ae0,by simp[val],by simpa using Blk.new w _ _,Ext.new _ _⟩
 case round=>
  obtain⟨k,J,o,hk,rfl,rfl,N,P,hd,hv,hb,M⟩:=hrel;have V:=aJ hv;clear hv;have L:=aJ P;have W:=aJ hd;clear hd;by_cases S:k<n
  .obtain⟨R,x,rfl,_,hx,D,K⟩:=(Z.ext M).at_ S;have HX:=aJ hx;clear hx;obtain⟨old,T⟩:=qw hb P aa;have f7:=hb.frozen k;clear P;have C:=aJ hb;clear hb;by_cases j:k<m
   .obtain⟨bd,y,rfl,_,hy,l,WP⟩:=(O.ext M).at_ j;have HY:=aJ hy;clear hy;go_wp2;go_roundw
    case rel=>
     refine⟨k+1,(x+J+y)/4294967296,o++[(x+J+y)%4294967296],aa,au,au,aa,by simp[L.o],W.append (Dig.one aa),vV L.o V.o HX.o (bW HY.o),kM C.o L.o aa aa,M.setCell (κ _) _⟩
    case measure=>simp[intOf]<;>omega
   .go_wp2;go_roundw
    case rel=>
     refine⟨k+1,(x+J+0)/4294967296,o++[(x+J+0)%4294967296],aa,au,au,aa,by simp[L.o],W.append (Dig.one aa),vV L.o V.o HX.o (xN Y.o j),kM C.o L.o aa aa,M.setCell (κ _) _⟩
    case measure=>simp[intOf]<;>omega
  .obtain rfl:k=n:=aa;obtain⟨old,T⟩:=qw hb P aa;have f7:=hb.frozen k;clear P;have C:=aJ hb;clear hb;(go_wp2_with fail);have Q:=kM (d:=J) C.o L.o aa rfl;have G:=M.setCell (p:=⟨w.heap.size,k,δ⟩) (κ _) (.int .u32 (J:Int));simp only[aa7,abV,aaj] at Q;have F:val (o++[J])=val a+val b:=by
    exact AbX
   exact AaQ
def LP(A B n m c d a b w)(Z:RM w A n c a)(O:RM w B m d b)(hn:n<=1000000)(hm:m<=1000000)(I:n<m):
  CV 214 #[.slice A n c,.slice B m d] w fun v w'=>SlM (dV (val b+val a)) v w':=by
 have HA:=aJ O.len;have Y:=aJ Z.len;have U:=nT ((m:Int)+1) (m+1) aa aa;go_enter func214,ntmps214;go_wp2;clear U;go_loopw [6,22] (fun cv i wr=>∃(k J:Nat) (o:List Nat),k<=m/\i=.int .i64 k/\cv=.int .u64 (J:Int)/\J<=1/\o.length=k/\Dig o/\val o+4294967296^k*J=val (b.take k)+val (a.take k)/\
   Blk wr w.heap.size 208 (mg (o++List.replicate (m+1-k) 0)).toArray/\Ext w wr) (fun _ i _=>m-(intOf i).toNat)
 case atStart=>exact⟨0,0,[],Ex _,rfl,rfl,aa,rfl,ae0,by simp[val],by simpa using Blk.new w _ _,Ext.new _ _⟩
 case round=>
  obtain⟨k,J,o,hk,rfl,rfl,N,P,hd,hv,hb,M⟩:=hrel;have V:=aJ hv;clear hv;have L:=aJ P;have W:=aJ hd;clear hd;by_cases S:k<m
  .obtain⟨R,x,rfl,_,hx,D,K⟩:=(O.ext M).at_ S;have HX:=aJ hx;clear hx;obtain⟨old,T⟩:=qw hb P aa;have f7:=hb.frozen k;clear P;have C:=aJ hb;clear hb;by_cases j:k<n
   .obtain⟨bd,y,rfl,_,hy,l,WP⟩:=(Z.ext M).at_ j;have HY:=aJ hy;clear hy;go_wp2;go_roundw
    case rel=>
     refine⟨k+1,(x+J+y)/4294967296,o++[(x+J+y)%4294967296],aa,au,au,aa,by simp[L.o],W.append (Dig.one aa),vV L.o V.o HX.o (bW HY.o),kM C.o L.o aa aa,M.setCell (κ _) _⟩
    case measure=>simp[intOf]<;>omega
   .go_wp2;go_roundw
    case rel=>
     refine⟨k+1,(x+J+0)/4294967296,o++[(x+J+0)%4294967296],aa,au,au,aa,by simp[L.o],W.append (Dig.one aa),vV L.o V.o HX.o (xN Y.o j),kM C.o L.o aa aa,M.setCell (κ _) _⟩
    case measure=>simp[intOf]<;>omega
  .obtain rfl:k=m:=aa;obtain⟨old,T⟩:=qw hb P aa;have f7:=hb.frozen k;clear P;have C:=aJ hb;clear hb;(go_wp2_with fail);have Q:=kM (d:=J) C.o L.o aa rfl;have G:=M.setCell (p:=⟨w.heap.size,k,δ⟩) (κ _) (.int .u32 (J:Int));simp only[aa7,abV,aaj] at Q;have F:val (o++[J])=val b+val a:=by
    exact AbX
   exact AaQ
def zN(A B n m c d a b w)(l:RM w A n c a)(O:RM w B m d b)(hn:n<=1000000)(j:m<=1000000):
  CV 214 #[.slice A n c,.slice B m d] w fun v w'=>SlM (dV (val a+val b)) v w':=by
 rcases aab n m with h|h
 .rw[aa6];exact LP A B n m c d a b w l O hn j h
 .exact LD A B n m c d a b w l O hn j h

def qA (t:Int):Nat:=(t%4294967296).toNat
def oQ (t:Int):Nat:=if t<0 then 1 else 0
theorem ze(t):qA t<4294967296:=by unfold qA;omega
theorem Ud{x j:Nat}(l:x<4294967296)(hb:j<=1):IntKind.u64.wrap ((x:Int)-j)%4294967296=(qA ((x:Int)-j-(0:Nat)):Int):=by
 rw[j4];unfold qA;omega
theorem UU{x j:Nat}(l:x<4294967296)(hb:j<=1):IntKind.u64.wrap ((x:Int)-j)/9223372036854775808=(oQ ((x:Int)-j-(0:Nat)):Int):=by
 rw[j4];unfold oQ;split<;>omega
theorem Qi{x y j:Nat}(B:x<4294967296)(l:y<4294967296)(hb:j<=1):IntKind.u64.wrap (IntKind.u64.wrap ((x:Int)-j)-y)%4294967296=(qA ((x:Int)-j-y):Int):=by
 rw[j4,j4];unfold qA;omega
theorem NQ{x y j:Nat}(B:x<4294967296)(l:y<4294967296)(hb:j<=1):IntKind.u64.wrap (IntKind.u64.wrap ((x:Int)-j)-y)/9223372036854775808=(oQ ((x:Int)-j-y):Int):=by
 rw[j4,j4];unfold oQ;split<;>omega
theorem DV{x y j:Nat}(B:x<4294967296)(l:y<4294967296)(hb:j<=1):x+4294967296*oQ ((x:Int)-j-y)=y+j+qA ((x:Int)-j-y):=by
 unfold qA oQ;split<;>omega
def Fw{o a b:List Nat}{k j x y}(B:o.length=k)(h:val (a.take k)+4294967296^k*j=val (b.take k)+val o)(G:a[k]? =γ x)(C:val (b.take (k+1))=val (b.take k)+4294967296^k*y)(D:x<4294967296)(l:y<4294967296)(hb:j<=1):
  val (a.take (k+1))+4294967296^(k+1)*oQ ((x:Int)-j-y)=val (b.take (k+1))+val (o++[qA ((x:Int)-j-y)]):=by
 have F:=DV D l hb;rw[mf,bW G,C,B,De,ω];have e:4294967296^k*x+4294967296^k*(4294967296*oQ ((x:Int)-j-y))=4294967296^k*y+4294967296^k*j+4294967296^k*qA ((x:Int)-j-y):=by
  rw[<-Δ,F,Δ,Δ]
 omega
def Su{o a b k j}(B:o.length=k)(hd:Dig o)(ha:a.length=k)(hb:b.length<=k)(h:val (a.take k)+4294967296^k*j=val (b.take k)+val o)(F:val b<=val a):val o=val a-val b:=by
 rw[Λ aa,Λ hb] at h;have D:=nY hd;rw[B] at D;have C:j=0:=by
  rcases Na j with l|l
  .exact l
  .have:4294967296^k*1<=4294967296^k*j:=lh _ l;omega
 subst C;omega
theorem yL(t):oQ t<=1:=by unfold oQ;split<;>omega
def uP(A B n m c d a b w)(W:RM w A n c a)(O:RM w B m d b)(hn:n<=1000000)(hm:m<=n)(P:val b<=val a):
  CV 215 #[.slice A n c,.slice B m d] w fun v w'=>SlM (dV (val a-val b)) v w':=by
 have HA:=aJ W.len;have V:=aJ O.len;have S:=nT (n:Int) n rfl aa;go_enter func215,ntmps215;go_wp2;clear S;go_loopw [6,14] (fun cv i wr=>∃(k J:Nat) (o:List Nat),k<=n/\i=.int .i64 k/\cv=.int .u64 (J:Int)/\J<=1/\o.length=k/\Dig o/\val (a.take k)+4294967296^k*J=val (b.take k)+val o/\
   Blk wr w.heap.size 208 (mg (o++List.replicate (n-k) 0)).toArray/\Ext w wr) (fun _ i _=>n-(intOf i).toNat)
 case atStart=>exact⟨0,0,[],Ex _,rfl,rfl,aa,rfl,ae0,by simp[val],by simpa using Blk.new w _ _,Ext.new _ _⟩
 case round=>
  obtain⟨k,J,o,hk,rfl,rfl,G,Q,hd,hv,hb,M⟩:=hrel;have U:=aJ hv;clear hv;have I:=aJ Q;have L:=aJ hd;clear hd;by_cases N:k<n
  .obtain⟨R,x,rfl,_,hx,D,K⟩:=(W.ext M).at_ N;have HX:=aJ hx;clear hx;obtain⟨old,T⟩:=qw hb Q aa;have f7:=hb.frozen k;clear Q;have C:=aJ hb;clear hb;by_cases j:k<m
   .obtain⟨bd,y,rfl,_,Y,l,Z⟩:=(O.ext M).at_ j;have HY:=aJ Y;clear Y;go_wp2;go_roundw
    case rel=>
     exact⟨k+1,oQ ((x:Int)-J-y),o++[qA ((x:Int)-J-y)],aa,au,by rw[NQ D l G],yL _,by simp[I.o],L.append (Dig.one (ze _)),Fw I.o U.o HX.o (bW HY.o) D l G,kM C.o I.o aa (Qi D l G),M.setCell (κ _) _⟩
    case measure=>simp[intOf]<;>omega
   .go_wp2;go_roundw
    case rel=>
     exact⟨k+1,oQ ((x:Int)-J-(0:Nat)),o++[qA ((x:Int)-J-(0:Nat))],aa,au,by rw[UU D G],yL _,by simp[I.o],L.append (Dig.one (ze _)),Fw I.o U.o HX.o (xN V.o j) D aa G,kM C.o I.o aa (Ud D G),M.setCell (κ _) _⟩
    case measure=>simp[intOf]<;>omega
  .obtain rfl:k=n:=aa;(go_wp2_with fail);simp only[aa7,abV,aaj] at hb;have F:=Su I.o L.o HA.o (by rw[V.o];exact hm) U.o P;refine(jK _ k k o _ (RM.blk hb L.o I.o aa)).mono ?_;rintro e w1 ⟨v1,rfl,hR,H⟩;rw[F] at hR;exact Abq
def iP (p:List Nat) (k:Nat):Prop:=∀t z,k<=t->p[t]? =γ z->z=0
def iP.mono{p k j}(h:iP p k)(B:k<=j):iP p j:=fun t z C l=>h t z aa l
def iP.set{p k t d}(h:iP p k)(l:t<k):iP (p.set t d) k:=by
 intro s z hs j;rw[aav aa] at j;exact h s z hs j
def afD(n k):iP (List.replicate n 0) k:=by
 intro t z _ j;have:=xx j;exact ab4 this
def iP.at_{p k}(h:iP p k)(l:k<p.length):p[k]? =γ 0:=by
 have j:p[k]? =γ p[k]:=ν l;rw[h k _ (κ _) j] at j;exact j
def yX{x y}(j:x<4294967296)(l:y<4294967296):x*y<=18446744065119617025:=by
 have:=aac (show x<=4294967295 by omega) (show y<=4294967295 by omega);omega
def NA{p b:List Nat}{i j x y z J s M}(B:p[i+j]? =γ z)(l:b[j]? =γ y)(hs:s=x*y+z+J)(h:val p+4294967296^(i+j)*J=M+4294967296^i*(x*val (b.take j))):
  val (p.set (i+j) (s%4294967296))+4294967296^(i+(j+1))*(s/4294967296)=M+4294967296^i*(x*val (b.take (j+1))):=by
 have D:=qZ (y:=s%4294967296) B;rw[bW l,show i+(j+1)=(i+j)+1 by omega,De,ω];have e:4294967296^(i+j)*(s%4294967296)+4294967296^(i+j)*(4294967296*(s/4294967296))=4294967296^(i+j)*s:=by
  rw[<-Δ];congr 1;omega
 have F:4294967296^(i+j)*s=4294967296^(i+j)*(x*y)+4294967296^(i+j)*z+4294967296^(i+j)*J:=by rw[hs,Δ,Δ]
 have C:4294967296^i*(x*(val (b.take j)+4294967296^j*y))=4294967296^i*(x*val (b.take j))+4294967296^(i+j)*(x*y):=by
  rw[Δ,Δ,aaJ];congr 1;rw[abB x,ω]
 omega
def Sd{p a b:List Nat}{i m x J}(B:p[i+m]? =γ 0)(l:a[i]? =γ x)(hb:b.length=m)(h:val p+4294967296^(i+m)*J=val (a.take i)*val b+4294967296^i*(x*val (b.take m))):val (p.set (i+m) J)=val (a.take (i+1))*val b:=by
 have C:=qZ (y:=J) B;have j:b.take m=b:=Λ aa;rw[j] at h;rw[bW l,aaa];have e:4294967296^i*(x*val b)=4294967296^i*x*val b:=by rw[ω]
 omega
def jT (w:World) (g:Nat) (p:List Nat):Prop:=Blk w g 208 (mg p).toArray/\Dig p
def jT.at_{w g k p}(h:jT w g p)(l:k<p.length):∃z,p[k]? =γ z/\z<4294967296/\w.cell? ⟨g,k,δ⟩=γ (.int .u32 (z:Int))/\w.frozen? ⟨g,k,δ⟩=ζ:=by
 have j:p[k]? =γ p[k]:=ν l;refine⟨p[k],j,h.2.at_ j,?_,h.1.frozen k⟩;rw[h.1.cell];have:=ry j;simpa using this
def jT.set{w:World}{g k d:Nat}{p:List Nat}{z:Int}(h:jT w g p)(j:z=(d:Int))(hd:d<4294967296):jT (w.setCell ⟨g,k,δ⟩ (.int .u32 z)) g (p.set k d):=by
 have:=h.1.Uj (i:=k) (.int .u32 z);rw[Ev j] at this;exact⟨this,h.2.set k hd⟩
def jT.drewN{w g p}(h:jT w g p)(n):jT (w.drewN n) g p:=⟨h.1.drewN n,h.2⟩
def jT.far{w w' g p}(h:jT w g p)(e:Ext w w'):jT w' g p:=⟨h.1.ext e,h.2⟩
def jT.rm{w g n p}(h:jT w g p)(hn:p.length=n)(j:n<=9223372036854775807):RM w (γ ⟨g,0,δ⟩) n n p:=RM.blk h.1 h.2 hn j
def xu (n m:Nat):Prop:=0<n/\0<m
def IM{n m}(h:xu n m):((n:Int)==0)=ζ:=by have:=h.1;simp;omega
def Jo{n m}(h:xu n m):((m:Int)==0)=ζ:=by have:=h.2;simp;omega
def JC(A B n m c d a b w)(hA:RM w A n c a)(O:RM w B m d b)(hn:n<=100000)(hm:m<=100000)(S:xu n m):
  CV 217 #[.slice A n c,.slice B m d] w fun v w'=>SlM (dV (val a*val b)) v w':=by
 have Wt:=IM S;have Wl:=Jo S;clear S;have HA:=aJ hA.len;have HB:=aJ O.len;have Xt:=nT ((n:Int)+m) (n+m) aa aa;go_enter func217,ntmps217;go_wp2;clear Xt;go_loopw [26] (fun i wr=>∃(k:Nat) (p:List Nat),k<=n/\i=.int .i64 k/\p.length=n+m/\iP p (k+m)/\val p=val (a.take k)*val b/\jT wr w.heap.size p/\Ext w wr) (fun i _=>n-(intOf i).toNat)
 case atStart=>exact⟨0,List.replicate (n+m) 0,Ex _,rfl,ag,afD _ _,by simp[val,uJ],⟨Blk.new w _ _,Dig.replicate _⟩,Ext.new _ _⟩
 case round=>
  obtain⟨k,p,hk,rfl,Z,V,hv,Q,M⟩:=hrel;have W:=aJ Z;clear Z;have Y:=aJ V;clear V;have HV:=aJ hv;clear hv;have I:=aJ Q;clear Q;by_cases Wj:k<n
  .obtain⟨R,x,rfl,_,hx,D,K⟩:=(hA.ext M).at_ Wj;have HX:=aJ hx;clear hx K;obtain⟨L,rfl⟩:∃L:World,L=wr:=⟨_,rfl⟩;go_wp2;go_loopw [31,7] (fun iv cv wr=>∃(j J:Nat) (p:List Nat),j<=m/\iv=.int .i64 j/\cv=.int .u64 (J:Int)/\J<4294967296/\p.length=n+m/\iP p (k+m)/\val p+4294967296^(k+j)*J=val (a.take k)*val b+4294967296^k*(x*val (b.take j))/\jT wr w.heap.size p/\Ext w wr) (fun iv _ _=>m-(intOf iv).toNat)
   case atStart=>exact⟨0,0,p,Ex _,rfl,rfl,aa,W.o,Y.o,by have:=HV.o;simp[val,this],I.o,M⟩
   case round=>
    clear I HV Y W M;obtain⟨j,J,p,hj,rfl,rfl,N,Z,V,hv,Q,M⟩:=hrel;have W:=aJ Z;clear Z;have Y:=aJ V;clear V;have HV:=aJ hv;clear hv;by_cases G:j<m
    .obtain⟨bd,y,rfl,_,hy,l,WP⟩:=(O.ext M).at_ G;obtain⟨P,x',e1,_,Wp,_,K⟩:=(hA.ext M).at_ Wj;cases e1
     obtain rfl:x'=x:=by have:=HX.o;rw[Wp] at this;injection this
     have HY:=aJ hy;clear hy Wp;obtain⟨z,V,C,Wo,WI⟩:=Q.at_ (k:=k+j) (by rw[W.o];omega);have Xq:=aJ V;clear V;have I:=aJ Q;clear Q;obtain⟨t,ht⟩:∃t,t=x'*y:=⟨_,rfl⟩;have XP:t<=18446744065119617025:=by rw[ht];exact yX D l
     have q1:(0:Int)<=(k:Int):=aa;have q2:(k:Int)<(n:Int):=aa;have q3:(0:Int)<=(j:Int):=aa;have q4:(j:Int)<(m:Int):=aa;have T:(0:Int)<=(k:Int)+(j:Int):=aa;have q6:(k:Int)+(j:Int)<(n:Int)+(m:Int):=aa;have U:(k:Int)+(j:Int)<((n+m:Nat):Int):=aa;have e1:IntKind.u64.wrap ((x':Int)*(y:Int))=(t:Int):=by rw[abF _ (by rw[show((x':Int)*(y:Int))=((x'*y:Nat):Int) by simp,<-ht];omega),ht];simp
     have e2:IntKind.u64.wrap ((t:Int)+(z:Int))=(t:Int)+z:=abF _ aa;have e3:IntKind.u64.wrap ((t:Int)+(z:Int)+(J:Int))=(t:Int)+z+J:=abF _ aa;have e4:IntKind.i64.wrap ((k:Int)+(j:Int))=(k:Int)+j:=IntWalk.i64_in _ aa;have e5:((k:Int)+(j:Int)).toNat=k+j:=aa;have HT:=aJ ht;clear ht;go_wp2;go_quiet (fail);clear e1 e2 e3 e4 e5;go_wp2;go_roundw
     case rel=>exact⟨j+1,(t+z+J)/4294967296,p.set (k+j) ((t+z+J)%4294967296),aa,au,au,aa,by simp[W.o],Y.set aa,NA Xq.o HY.o (by rw[HT.o]) HV.o,(I.drewN _).set aa aa,(M.drewN _).setCell (κ _) _⟩
     case measure=>simp[intOf]<;>omega
    .obtain rfl:j=m:=aa;obtain⟨z,V,C,Wo,WI⟩:=Q.at_ (k:=k+j) (by rw[W.o];omega);have WG:=Y.at_ (by rw[W.o];omega);have WJ:=aJ WG;clear WG V;have I:=aJ Q;clear Q;go_wp2;go_roundw
     case rel=>exact⟨k+1,p.set (k+j) J,aa,au,by simp[W.o],(Y.mono aa).set aa,Sd WJ.o HX.o HB.o HV.o,I.set rfl N,M.setCell (κ _) _⟩
     case measure=>simp[intOf]<;>omega
  .obtain rfl:k=n:=aa;have Q:=I.o;have Z:=W.o;(go_wp2_with fail);refine(jK _ _ _ p _ (Q.rm Z aa)).mono ?_;rintro e w1 ⟨v1,rfl,hR,H⟩;have F:val p=val a*val b:=by rw[HV.o,Λ (by rw[HA.o];omega)]
   rw[F] at hR;exact Abq
def Ip(A B n m c d a b w)(j:RM w A n c a)(O:RM w B m d b)(hn:n<=100000)(D:m<=100000):
  CV 217 #[.slice A n c,.slice B m d] w fun v w'=>SlM (dV (val a*val b)) v w':=by
 by_cases C:n=0
 .subst C;obtain rfl:=j.empty;exact Aa2
 .have L:((n:Int)==0)=ζ:=ae;by_cases l:m=0
  .subst l;obtain rfl:=O.empty;exact Aa2
  .exact JC A B n m c d a b w j O hn D ⟨aa,aa⟩
def ML(A n c l w)(h:RM w A n c l)(hn:n<=1000000):
  CV 198 #[.slice A n c] w fun v w'=>w'.ownsRow w.heap.size 208 1 v n (mg l):=by
 cases A with
 |none=>
  have C:n=0:=by
   rcases Na n with j|j
   .exact j
   .obtain⟨R,_,e,_⟩:=h.at_ j;cases e
  subst C;obtain rfl:=h.empty;have B:=aaZ (P:=prog) (t:=38) (a:=δ) (n:=0) (c:=c) (n':=0) (c':=0) (h:=ab7);go_enter func198,ntmps198;go_wp2;all_goals
   exact AbZ
 |some R=>
  have B:=aaZ (P:=prog) (t:=38) (a:=γ R) (n:=n) (c:=c) (n':=0) (c':=0) (h:=ab7);go_enter func198,ntmps198;(go_wp2_with (at_builtin;refine kL Bb rfl (.tmp 5) (.tmp 6) rfl w.heap.size _ 0 [] rf (ab8 _ _ _ aa aa ag) _ n _ (mg l) rf (h.ext (Ext.new w _)).rd IV aa aa ag ?_));exact AaK
def uh(A n c l w)(h:RM w A n c l)(hn:n<=1000000):
  CV 198 #[.slice A n c] w fun v w'=>SlM l v w':=
 (ML A n c l w h hn).mono fun _ _ ⟨v,B,j,C⟩=>⟨v,B,afO j h.dg,C⟩
def Ext.qm{w w'}(h:Ext w.drew w'):Ext w w':=((Ext.refl w).drew).trans h
def jH{w w1}{x y r:Obj}(j:Ext (((w.alloc x).alloc y).alloc r) w1):Ext w w1:=(((Ext.new w _).alloc _).alloc _).trans j
def mX{w w1:World}{cs t}{y r:Obj}(j:Ext (((w.alloc (.cells cs t)).alloc y).alloc r) w1):Blk w1 w.heap.size t cs:=(((Blk.new w t cs).alloc _).alloc _).ext j
def ni{w w1:World}{cs t}{x r:Obj}(j:Ext (((w.alloc x).alloc (.cells cs t)).alloc r) w1):Blk w1 (w.heap.size+1) t cs:=((aeE t cs ag).alloc _).ext j
def qI{w w1:World}{cs t}{x y:Obj}(j:Ext (((w.alloc x).alloc y).alloc (.cells cs t)) w1):Blk w1 (w.heap.size+2) t cs:=(aeE t cs ag).ext j
def Oh(neg A B n m c d a b w)(Q:RM w A n c a)(O:RM w B m d b)(hn:n<=1000000)(R:m<=1000000):
  CV 216 #[iv neg A n c,iv neg B m d] w fun v w'=>vE (uC (zOf neg (val a+val b))) v w':=by
 have S:(neg==neg)=ε:=ag;go_enter adK,adq;go_wp2;have l:Ext (((w.alloc (.cells #[.bool neg,.slice A n c] 40)).alloc (.cells #[.bool neg,.slice B m d] 40)).alloc (.cells #[.bool ζ,.slice δ 0 0] 40)) (((w.alloc (.cells #[.bool neg,.slice A n c] 40)).alloc (.cells #[.bool neg,.slice B m d] 40)).alloc (.cells #[.bool ζ,.slice δ 0 0] 40)):=Ext.refl _;have I:=aK.blk (mX l);have U:=aK.blk (ni l);refine bQ 10 [(ε,0),(ε,1),(ε,2),(ε,3),(ε,4),(ε,5),(ζ,6),(ζ,7),(ε,8),(ε,9)] ah ah ?_;refine aV [0,1,2,3,4,5] [(ζ,6),(ζ,7),(ε,8),(ε,9)] _ ah ?_;simp only[cZ,aZ,ξ,ο];(repeat (go_big_quiet_step (fail)));refine τ ?_;refine aT 6 [(ζ,7),(ε,8),(ε,9)] ah ?_;intro K J;simp only[aZ];(go_wp2_with fail);have F:Ext w (((w.alloc (.cells #[.bool neg,.slice A n c] 40)).alloc (.cells #[.bool neg,.slice B m d] 40)).alloc (.cells #[.bool ζ,.slice δ 0 0] 40)).drew:=(jH l).drew;refine(zN A B n m c d a b _ (Q.ext F) (O.ext F) hn R).mono ?_;rintro e w1 ⟨v1,rfl,⟨A1,n1,c1,rfl,T⟩,H⟩;have H:=H.qm;go_wp2;refine J _ _ ⟨⟨w1,H⟩,rfl⟩ ?_;clear J K;refine aT 7 [(ε,8),(ε,9)] ah ?_;intro K J;simp only[aZ];(go_wp2_with fail);refine(gY neg A1 n1 c1 _ _ T).mono ?_;rintro e w2 ⟨V,rfl,⟨u,rfl,A2,n2,c2,rfl,D⟩,P⟩;rw[bD] at D;rw[bD];have P:=H.trans P;go_wp2;refine J _ _ ⟨⟨w2,P⟩,rfl⟩ ?_;clear J K;refine aV [8,9] [] _ ah ?_;simp only[cZ,aZ,ξ,ο];(repeat (go_big_quiet_step (fail)));refine τ ?_;simp only[bT,ρ,χ];have b4:=qI P;have c4:=b4.cell;have W:=b4.frozen;obtain⟨C,G,j⟩:=ou (jH P) aa b4 _ A2 n2 c2;have M:=aJ C;have L:=aJ G;have N:=aJ (j _ _ _ _ D);clear C G j;go_wp2;exact kT rfl rfl rfl L.o ⟨_,rfl,⟨_,rfl,_,_,_,rfl,N.o⟩,M.o⟩
def RB{p q}(h:q<=p):decide (0<=qH p q)=ε:=by
 have l:¬p<q:=aa;by_cases j:q<p<;>simp[qH,l,j]
theorem QX{p q}(h:p<q):decide (0<=qH p q)=ζ:=by unfold qH;simp[h]
def TV(neg j A B n m c d p q w)(F:RM w A n c (dV p))(O:RM w B m d (dV q))(hn:n<=1000000)(hm:m<=1000000)(U:(neg==j)=ζ)(R:q<=p):
  CV 216 #[iv neg A n c,iv j B m d] w fun v w'=>vE (uC (zOf neg (p-q))) v w':=by
 have S:=F.len;have T:=O.len;have L:m<=n:=by
  have h1:=kK (n:=q) (k:=n) (nH (show q<=p by omega) (il aa));omega
 clear S T;have D:=aJ R;clear R;go_enter adK,adq;(go_wp2_with fail);refine(iq A B n m c d _ _ _ (F.ext (((Ext.new w _).alloc _).alloc _)) (O.ext (((Ext.new w _).alloc _).alloc _)) (eu _) (eu _)).mono ?_;rintro e w0 ⟨rfl,G⟩;rw[bD,bD];have l:=RB D.o;have c0:=(mX G).cell;have c1:=(ni G).cell;go_wp2;clear c0 c1 l;have I:=aK.blk (mX G);have Y1:=aK.blk (ni G);refine bQ 10 [(ε,0),(ε,1),(ε,2),(ε,3),(ε,4),(ε,5),(ζ,6),(ζ,7),(ε,8),(ε,9)] ah ah ?_;refine aV [0,1,2,3,4,5] [(ζ,6),(ζ,7),(ε,8),(ε,9)] _ ah ?_;simp only[cZ,aZ,ξ,ο];(repeat (go_big_quiet_step (fail)));refine τ ?_;refine aT 6 [(ζ,7),(ε,8),(ε,9)] ah ?_;intro K J;simp only[aZ];(go_wp2_with fail);refine(uP A B n m c d _ _ _ (F.ext (jH G).drew) (O.ext (jH G).drew) aa L (by rw[bD,bD];have:=D.o;omega)).mono ?_;rintro e w1 ⟨v1,rfl,⟨A1,n1,c1,rfl,Z⟩,H⟩;have H:=H.qm;go_wp2;refine J _ _ ⟨⟨w1,H⟩,rfl⟩ ?_;clear J K;refine aT 7 [(ε,8),(ε,9)] ah ?_;intro K J;simp only[aZ];(go_wp2_with fail);refine(gY neg A1 n1 c1 _ _ Z).mono ?_;exact Aar
def sum_lt(neg j A B n m c d p q w)(F:RM w A n c (dV p))(O:RM w B m d (dV q))(hn:n<=1000000)(hm:m<=1000000)(U:(neg==j)=ζ)(R:p<q):
  CV 216 #[iv neg A n c,iv j B m d] w fun v w'=>vE (uC (zOf j (q-p))) v w':=by
 have S:=F.len;have T:=O.len;have L:n<=m:=by
  have h1:=kK (n:=p) (k:=m) (nH (show p<=q by omega) (il aa));omega
 clear S T;have D:=aJ R;clear R;go_enter adK,adq;(go_wp2_with fail);refine(iq A B n m c d _ _ _ (F.ext (((Ext.new w _).alloc _).alloc _)) (O.ext (((Ext.new w _).alloc _).alloc _)) (eu _) (eu _)).mono ?_;rintro e w0 ⟨rfl,G⟩;rw[bD,bD];have l:=QX D.o;have c0:=(mX G).cell;have c1:=(ni G).cell;go_wp2;clear c0 c1 l;have I:=aK.blk (mX G);have Y1:=aK.blk (ni G);refine bQ 10 [(ε,0),(ε,1),(ε,2),(ε,3),(ε,4),(ε,5),(ζ,6),(ζ,7),(ε,8),(ε,9)] ah ah ?_;refine aV [0,1,2,3,4,5] [(ζ,6),(ζ,7),(ε,8),(ε,9)] _ ah ?_;simp only[cZ,aZ,ξ,ο];(repeat (go_big_quiet_step (fail)));refine τ ?_;refine aT 6 [(ζ,7),(ε,8),(ε,9)] ah ?_;intro K J;simp only[aZ];(go_wp2_with fail);refine(uP B A m n d c _ _ _ (O.ext (jH G).drew) (F.ext (jH G).drew) aa L (by rw[bD,bD];have:=D.o;omega)).mono ?_;rintro e w1 ⟨v1,rfl,⟨A1,n1,c1,rfl,Z⟩,H⟩;have H:=H.qm;go_wp2;refine J _ _ ⟨⟨w1,H⟩,rfl⟩ ?_;clear J K;refine aT 7 [(ε,8),(ε,9)] ah ?_;intro K J;simp only[aZ];(go_wp2_with fail);refine(gY j A1 n1 c1 _ _ Z).mono ?_;exact Aar
def Kk(neg j A B n m c d p q w)(l:RM w A n c (dV p))(O:RM w B m d (dV q))(hn:n<=1000000)(C:m<=1000000):
  CV 216 #[iv neg A n c,iv j B m d] w fun v w'=>vE (uC (zOf neg p+zOf j q)) v w':=by
 cases hs:(neg==j)
 .rcases aab p q with h|h
  .have:=sum_lt neg j A B n m c d p q w l O hn C hs h;have e:zOf neg p+zOf j q=zOf j (q-p):=by cases neg<;>cases j<;>simp[zOf] at hs⊢<;>omega
   rwa[e]
  .have:=TV neg j A B n m c d p q w l O hn C hs h;have e:zOf neg p+zOf j q=zOf neg (p-q):=by cases neg<;>cases j<;>simp[zOf] at hs⊢<;>omega
   rwa[e]
 .obtain rfl:neg=j:=by simpa using hs
  have:=Oh neg A B n m c d _ _ w l O hn C;rw[bD,bD] at this;have e:zOf neg p+zOf neg q=zOf neg (p+q):=by cases neg<;>simp[zOf]<;>omega
  rwa[e]
def RM.uF{w A n c}{z:Int}(h:RM w A n c (dV z.natAbs))(j:z.natAbs<lim):n<=400:=by
 have B:=h.len;have l:=tZ j;omega
def lU(z):zOf (decide (z<0)) z.natAbs=z:=by
 by_cases h:z<0<;>simp[zOf,h]<;>omega
def rC(z):zOf (!decide (z<0)) z.natAbs= -z:=by
 by_cases h:z<0<;>simp[zOf,h]<;>omega

def UW(v u x y w)(F:RI w v x)(l:RI w u y)(D:x.natAbs<lim)(L:y.natAbs<lim):
  CV 196 #[v,u] w fun v w'=>vE (uC (x+y)) v w':=by
 have G:=aJ (aeP F D);have V:=aJ (aeP l L);obtain⟨A,n,c,rfl,J⟩:=F;obtain⟨B,m,d,rfl,I⟩:=l;have hn:=J.uF D;have U:=I.uF L;go_enter func196,ntmps196;(go_wp2_with fail);refine(gF _ A n c _ _ (J.ext (((Ext.new w _).alloc _).alloc _))).mono ?_;rintro e w1 ⟨rfl,H⟩;rw[G.o];have c0:=(mX H).cell;have c1:=(ni H).cell;(go_wp2_with fail);refine(gF _ B m d _ _ (I.ext (jH H))).mono ?_;rintro e w2 ⟨rfl,P⟩;rw[V.o];clear c0 c1;have P:=H.trans P;have c0:=(mX P).cell;have c1:=(ni P).cell;(go_wp2_with fail);clear c0 c1;refine(Kk _ _ A B n m c d _ _ _ (J.ext (jH P)) (I.ext (jH P)) aa aa).mono ?_;rintro e S ⟨T,rfl,⟨u,rfl,A2,n2,c2,rfl,M⟩,j⟩;rw[lU,lU] at M;rw[lU,lU];exact AaC
def Ub(v u x y w)(F:RI w v x)(l:RI w u y)(D:x.natAbs<lim)(L:y.natAbs<lim):
  CV 200 #[v,u] w fun v w'=>vE (uC (x-y)) v w':=by
 have G:=aJ (aeP F D);have V:=aJ (aeP l L);obtain⟨A,n,c,rfl,J⟩:=F;obtain⟨B,m,d,rfl,I⟩:=l;have hn:=J.uF D;have U:=I.uF L;go_enter func200,ntmps200;(go_wp2_with fail);refine(gF _ A n c _ _ (J.ext (((Ext.new w _).alloc _).alloc _))).mono ?_;rintro e w1 ⟨rfl,H⟩;rw[G.o];have c0:=(mX H).cell;have c1:=(ni H).cell;(go_wp2_with fail);refine(gF _ B m d _ _ (I.ext (jH H))).mono ?_;rintro e w2 ⟨rfl,P⟩;rw[V.o];clear c0 c1;have P:=H.trans P;have c0:=(mX P).cell;have c1:=(ni P).cell;(go_wp2_with fail);clear c0 c1;refine(Kk _ _ A B n m c d _ _ _ (J.ext (jH P)) (I.ext (jH P)) aa aa).mono ?_;rintro e S ⟨T,rfl,⟨u,rfl,A2,n2,c2,rfl,M⟩,j⟩;rw[lU,rC,<-Int.sub_eq_add_neg] at M;rw[lU,rC,<-Int.sub_eq_add_neg];exact AaC
def RJ(x y):zOf (decide (x<0) !=decide (y<0)) (x.natAbs*y.natAbs)=x*y:=by
 by_cases C:x<0
 .by_cases B:y<0
  .simp only[C,B,acx,bne_self_eq_false,zOf,Y0,abv];have l:(x.natAbs:Int)= -x:=aa;have j:(y.natAbs:Int)= -y:=aa
   push_cast;rw[l,j,Int.neg_mul_neg]
  .simp only[C,B,acx,adM,zOf];have l:(x.natAbs:Int)= -x:=aa;have j:(y.natAbs:Int)=y:=aa;simp only[show(ε !=ζ)=ε from rfl,Ad]
   push_cast;rw[l,j,Int.neg_mul,Int.neg_neg]
 .by_cases B:y<0
  .simp only[C,B,acx,adM,zOf];have l:(x.natAbs:Int)=x:=aa;have j:(y.natAbs:Int)= -y:=aa;simp only[show(ζ !=ε)=ε from rfl,Ad]
   push_cast;rw[l,j,Int.mul_neg,Int.neg_neg]
  .simp only[C,B,adM,bne_self_eq_false,zOf,Y0,abv];have l:(x.natAbs:Int)=x:=aa;have j:(y.natAbs:Int)=y:=aa
   push_cast;rw[l,j]
def FK(x y):zOf (!(decide (x<0)==decide (y<0))) (x.natAbs*y.natAbs)=x*y:=RJ x y
def T9(v u x y w)(F:RI w v x)(l:RI w u y)(D:x.natAbs<lim)(L:y.natAbs<lim):
  CV 197 #[v,u] w fun v w'=>vE (uC (x*y)) v w':=by
 have M:=aJ (aeP F D);have V:=aJ (aeP l L);obtain⟨A,n,c,rfl,O⟩:=F;obtain⟨B,m,d,rfl,N⟩:=l;have hn:=O.uF D;have hm:=N.uF L;go_enter func197,ntmps197;(go_wp2_with fail);refine(gF _ A n c _ _ (O.ext (((Ext.new w _).alloc _).alloc _))).mono ?_;rintro e w1 ⟨rfl,H⟩;rw[M.o];have c0:=(mX H).cell;have c1:=(ni H).cell;(go_wp2_with fail);refine(gF _ B m d _ _ (N.ext (jH H))).mono ?_;rintro e w2 ⟨rfl,P⟩;rw[V.o];clear c0 c1;have P:=H.trans P;have c0:=(mX P).cell;have c1:=(ni P).cell;go_wp2;clear c0 c1;have I:=aK.blk (mX P);have Y1:=aK.blk (ni P);refine bQ 13 [(ε,0),(ε,1),(ε,2),(ε,3),(ε,4),(ε,5),(ε,6),(ε,7),(ε,8),(ζ,9),(ζ,10),(ε,11),(ε,12)] ah ah ?_;refine aV [0,1,2,3,4,5,6,7,8] [(ζ,9),(ζ,10),(ε,11),(ε,12)] _ ah ?_;simp only[cZ,aZ,ξ,ο];(repeat (go_big_quiet_step (fail)));refine τ ?_;refine aT 9 [(ζ,10),(ε,11),(ε,12)] ah ?_;intro K J;simp only[aZ];(go_wp2_with fail);refine(Ip A B n m c d _ _ _ (O.ext (jH P).drew) (N.ext (jH P).drew) aa aa).mono ?_;rintro e U ⟨v1,rfl,⟨A1,n1,c1,rfl,hR⟩,j⟩;have j:=Ext.qm j;go_wp2;refine J _ _ ⟨⟨U,j⟩,rfl⟩ ?_;clear J K;refine aT 10 [(ε,11),(ε,12)] ah ?_;intro K J;simp only[aZ];(go_wp2_with fail);refine(gY _ A1 n1 c1 _ _ hR).mono ?_;rintro e w5 ⟨v5,rfl,⟨u,rfl,A2,n2,c2,rfl,R⟩,G⟩;have G:=j.trans G;go_wp2;refine J _ _ ⟨⟨w5,G⟩,rfl⟩ ?_;clear J K;rw[bD,bD,bD,FK] at R;simp only[bD,FK];refine aV [11,12] [] _ ah ?_;simp only[cZ,aZ,ξ,ο];(repeat (go_big_quiet_step (fail)));refine τ ?_;have S:=P.trans G;simp only[bT,ρ,χ];have b4:=qI S;have c4:=b4.cell;have f4:=b4.frozen;obtain⟨C,T,Q⟩:=ou (jH S) aa b4 _ A2 n2 c2;have Y:=aJ C;have W:=aJ T;have Z:=aJ (Q _ _ _ _ R);clear C T Q;go_wp2;exact kT rfl rfl rfl W.o ⟨_,rfl,⟨_,rfl,_,_,_,rfl,Z.o⟩,Y.o⟩
def xI{w w1}{x r:Obj}(j:Ext ((w.alloc x).alloc r) w1):Ext w w1:=((Ext.new w _).alloc _).trans j
def Qh{w w1:World}{cs t}{r:Obj}(j:Ext ((w.alloc (.cells cs t)).alloc r) w1):Blk w1 w.heap.size t cs:=((Blk.new w t cs).alloc _).ext j
def Gq{w w1:World}{cs t}{x:Obj}(j:Ext ((w.alloc x).alloc (.cells cs t)) w1):Blk w1 (w.heap.size+1) t cs:=(aeE t cs ag).ext j
def Un(v x z w)(F:RI w v x)(D:x.natAbs<lim)(M:z= -x):
  CV 199 #[v] w fun v w'=>vE (z,0) v w':=by
 have Q:=aJ M;have l:=aJ (aeP F D);obtain⟨A,n,c,rfl,B⟩:=F;have hn:=B.uF D;have O:=aJ (uy (z:=z) aa);clear M;go_enter func199,ntmps199;(go_wp2_with fail);refine(gF _ A n c _ _ (B.ext ((Ext.new w _).alloc _))).mono ?_;rintro e w1 ⟨rfl,H⟩;rw[l.o];go_wp2;have I:=aK.blk (Qh H);refine bQ 9 [(ε,0),(ε,1),(ε,2),(ε,3),(ε,4),(ζ,5),(ζ,6),(ε,7),(ε,8)] ah ah ?_;refine aV [0,1,2,3,4] [(ζ,5),(ζ,6),(ε,7),(ε,8)] _ ah ?_;simp only[cZ,aZ,ξ,ο];(repeat (go_big_quiet_step (fail)));refine τ ?_;refine aT 5 [(ζ,6),(ε,7),(ε,8)] ah ?_;intro K J;simp only[aZ];(go_wp2_with fail);refine(uh A n c _ _ (B.ext (xI H).drew) aa).mono ?_;rintro e R ⟨v1,rfl,⟨A1,n1,c1,rfl,W⟩,j⟩;have j:=Ext.qm j;go_wp2;refine J _ _ ⟨⟨R,j⟩,rfl⟩ ?_;clear J K;refine aT 6 [(ε,7),(ε,8)] ah ?_;intro K J;simp only[aZ];(go_wp2_with fail);refine(gY _ A1 n1 c1 _ _ W).mono ?_;rintro e Y ⟨Z,rfl,⟨u,rfl,A2,n2,c2,rfl,N⟩,G⟩;have G:=j.trans G;go_wp2;refine J _ _ ⟨⟨Y,G⟩,rfl⟩ ?_;clear J K;rw[bD,rC,<-Q.o,O.o] at N;simp only[bD,rC,<-Q.o,O.o];refine aV [7,8] [] _ ah ?_;simp only[cZ,aZ,ξ,ο];(repeat (go_big_quiet_step (fail)));refine τ ?_;have S:=H.trans G;simp only[bT,ρ,χ];have b4:=Gq S;have c4:=b4.cell;have f4:=b4.frozen;obtain⟨C,P,L⟩:=ou (xI S) aa b4 _ A2 n2 c2;have U:=aJ C;have T:=aJ P;have V:=aJ (L _ _ _ _ N);clear C P L;go_wp2;exact kT rfl rfl rfl T.o ⟨_,rfl,⟨_,rfl,_,_,_,rfl,V.o⟩,U.o⟩


def pY (a b:Int):Int:=if a<b then-1 else if b<a then 1 else 0
theorem R4{x y}(j:x<0)(l:¬y<0): -1=pY x y:=by unfold pY;rw[ι aa]
theorem Ta{x y}(j:¬x<0)(l:y<0):1=pY x y:=by unfold pY;rw[θ aa,ι aa]
theorem Qz{x y}(C:¬x<0)(B:¬y<0):qH x.natAbs y.natAbs=pY x y:=by
 unfold pY qH;by_cases l:x<y
 .rw[ι l,ι aa]
 .rw[θ l,θ aa];by_cases j:y<x
  .rw[ι j,ι aa]
  .rw[θ j,θ aa]
theorem Rf{x y}(C:x<0)(B:y<0):qH y.natAbs x.natAbs=pY x y:=by
 unfold pY qH;by_cases l:x<y
 .rw[ι l,ι aa]
 .rw[θ l,θ aa];by_cases j:y<x
  .rw[ι j,ι aa]
  .rw[θ j,θ aa]
def Ai(v u x y w)(F:RI w v x)(l:RI w u y)(D:x.natAbs<lim)(L:y.natAbs<lim):
  CE 52 #[v,u] w (.int .i64 (pY x y)):=by
 have I:=aJ (aeP F D);have V:=aJ (aeP l L);obtain⟨A,n,c,rfl,K⟩:=F;obtain⟨B,m,d,rfl,J⟩:=l;go_enter func52,ntmps52;(go_wp2_with fail);refine(gF _ A n c _ _ (K.ext ((Ext.new w _).alloc _))).mono ?_;rintro e w1 ⟨rfl,H⟩;rw[I.o];have c0:=(Qh H).cell;have c1:=(Gq H).cell;(go_wp2_with fail);refine(gF _ B m d _ _ (J.ext (xI H))).mono ?_;rintro e w2 ⟨rfl,P⟩;rw[V.o];clear c0 c1;have P:=H.trans P;have c0:=(Qh P).cell;have c1:=(Gq P).cell;by_cases M:x<0
 .have O:decide (x<0)=ε:=pq M;by_cases C:y<0
  .have G:decide (y<0)=ε:=pq C;(go_wp2_with fail);clear c0 c1;refine(iq B A m n d c _ _ _ (J.ext (xI P)) (K.ext (xI P)) (eu _) (eu _)).mono ?_;rintro e N ⟨rfl,j⟩;go_wp2;go_ret;exact⟨aO (by rw[bD,bD,Rf (x:=x) (y:=y) aa aa]),(xI P).trans j⟩
  .have G:decide (y<0)=ζ:=Γ C;go_wp2;go_ret;exact⟨aO (R4 aa aa),xI P⟩
 .have O:decide (x<0)=ζ:=Γ M;by_cases C:y<0
  .have G:decide (y<0)=ε:=pq C;go_wp2;go_ret;exact⟨aO (Ta aa aa),xI P⟩
  .have G:decide (y<0)=ζ:=Γ C;(go_wp2_with fail);clear c0 c1;refine(iq A B n m c d _ _ _ (K.ext (xI P)) (J.ext (xI P)) (eu _) (eu _)).mono ?_;rintro e N ⟨rfl,j⟩;go_wp2;go_ret;exact⟨aO (by rw[bD,bD,Qz (x:=x) (y:=y) aa aa]),(xI P).trans j⟩
theorem Sl(v x w)(F:RI w v x)(D:x.natAbs<lim):
  CE 143 #[v] w (.int .i64 (pY x 0)):=by
 obtain⟨A,n,c,rfl,j⟩:=F;go_enter func143,ntmps143;(go_wp2_with fail);refine(Ai _ _ x 0 _ (show RI _ _ _ from ⟨_,_,_,rfl,j.ext (Ext.new w _)⟩) (RI.zero _) D (by unfold lim;exact aah aa)).mono ?_;rintro e w1 ⟨rfl,H⟩;go_wp2;go_ret;exact⟨rfl,(Ext.new w _).trans H⟩
def SL{x:Nat}(j:x<18446744073709551616):bits .or .u64 ((0:Nat):Int) (x:Int)=(x:Int):=by
 rw[u64_or_nat 0 x aa j];simp
def Vd{a x:Nat}(ha:a<4294967296)(j:x<4294967296):bits .or .u64 (a:Int) ((x:Int)*4294967296)=((a+4294967296*x:Nat):Int):=by
 rw[u64_or32 _ _ aa aa aa aa aa];omega
def or_hi{a x:Nat}(ha:a<4294967296)(j:x<4294967296):bits .or .u64 ((a:Int)*4294967296) (x:Int)=((x+4294967296*a:Nat):Int):=by
 rw[bits_join .u64 64 aj wraps_u64 32 _ _ aa aa aa aa aa aa];omega
def FY(A n c l w)(h:RM w A n c l)(hn:n<=2):
  Calls prog 202 #[.slice A n c] w fun e w'=>e=.returned (.int .u64 (val l:Int))/\w=w':=by
 have G:=aJ h.len;go_enter func202,ntmps202;go_wp2;go_loop [3,8] (fun wv i=>∃k:Nat,k<=n/\i=.int .i64 k/\wv=.int .u64 (val (l.take k):Int)) (fun _ i=>n-(intOf i).toNat)
 case atStart=>exact⟨0,aa,rfl,rfl⟩
 case round=>
  obtain⟨k,J,rfl,rfl⟩:=hrel;by_cases j:k<n
  .obtain⟨R,x,rfl,_,C,D,K⟩:=h.at_ j;have H:=aJ (bW C);rcases(show k=0\/k=1 by omega) with rfl|rfl
   .have I:val (l.take 0)=0:=rfl;have B:w.cell? R=γ (.int .u32 (x:Int)):=K;clear C;go_wp2;go_round
    case rel=>exact⟨1,aa,au,congrArg (fun z:Int=>Value.int .u64 z) (by rw[show bits .or .u64 ((val []:Nat):Int) (x:Int)=(x:Int) from SL aa,H.o];simp[val])⟩
    case measure=>simp[intOf]<;>omega
   .have hb:=nY (h.dg.take 1);rw[PI] at hb;have F:val (l.take 1)<4294967296:=π hb (by have:=G.o;rw[aaE aa];exact κ _);clear hb C;have B:w.cell? ⟨R.block,R.off+1,δ⟩=γ (.int .u32 (x:Int)):=by simpa[Addr.add] using K
    go_wp2;go_round
    case rel=>exact⟨2,aa,au,congrArg (fun z:Int=>Value.int .u64 z) (by rw[Vd F D,H.o])⟩
    case measure=>simp[intOf]<;>omega
  .go_wp2;go_ret;exact⟨aO (by rw[Λ (by rw[G.o];omega)]),rfl⟩
def EP{l:List Nat}{k x}(h:l[k]? =γ x):val (l.drop k)=x+4294967296*val (l.drop (k+1)):=by
 obtain⟨j,rfl⟩:=μ.1 h;rw[aaF j,val]
def xZ (w:World) (g:Nat) (p:List Nat) (r:List Value):Prop:=Blk w g 208 (mg p++r).toArray/\Dig p
section
variable {w w':World} {g k d n c:Nat} {p:List Nat} {r:List Value} {z:Int}
def xZ.at_(h:xZ w g p r)(l:k<p.length):∃z,p[k]? =γ z/\z<4294967296/\w.cell? ⟨g,k,δ⟩=γ (.int .u32 (z:Int))/\w.frozen? ⟨g,k,δ⟩=ζ:=by
 have j:p[k]? =γ p[k]:=ν l;refine⟨p[k],j,h.2.at_ j,?_,h.1.frozen k⟩;rw[h.1.cell];have:=ry j;rw[Ξ,Ω (by rw[sP];exact l)];exact this
def xZ.set(h:xZ w g p r)(j:k<p.length)(l:z=(d:Int))(hd:d<4294967296):xZ (w.setCell ⟨g,k,δ⟩ (.int .u32 z)) g (p.set k d) r:=by
 have:=h.1.Uj (i:=k) (.int .u32 z);rw[adm _ _ (by rw[sP];exact j),Ev l] at this;exact⟨this,h.2.set k hd⟩
def xZ.rm(h:xZ w g p r)(hn:p.length=n)(hc:n<=c)(l:c<=9223372036854775807):RM w (γ ⟨g,0,δ⟩) n c p:=by
 refine⟨⟨by rw[sP];omega,fun _=>⟨_,rfl,h.1.lt,fun j u N=> ?_⟩⟩,h.2,hc,l⟩;rw[PK,h.1.cell,Ξ,Ω]
 .exact N
 .exact(μ.1 N).1
def agz{base v}(h:w.ownsRow base 208 1 v n (mg p))(hd:Dig p):(v=.slice δ 0 0/\n=0/\p=[])\/∃g F r,v=.slice (γ ⟨g,0,δ⟩) n F/\base<=g/\xZ w g p r/\n<=F/\F<=9223372036854775807:=by
 rcases h.2 with ⟨l,j⟩|⟨g,F,cur,l,j,D,B,H,G,C⟩
 .refine .inl ⟨l,j,?_⟩;have:=h.1;rw[sP,j] at this;exact NK aa
 .refine .inr ⟨g,F,cur.toList.drop n,l,j,⟨?_,hd⟩,B,H⟩;rw[<-C,aar,acg];exact D
end
def Q3{p q:List Nat}{j y}(l:j<p.length):(p.take (j+1)++q).set j y=p.take j++(y::q):=by
 rw[aaS l,Ha,abG _ _ ae];simp[aaE (aaH l)]
def Sj{p q:List Nat}{j x d rest l}(B:p[j]? =γ x)(hn:l=x+4294967296*rest)(h:val (p.drop (j+1))=d*val q+rest):val (p.drop j)=d*val (l/d::q)+l%d:=by
 rw[EP B,h,val,Δ,Δ];have D:=abr l d;have C:d*(4294967296*val q)=4294967296*(d*val q):=abB _ _ _;omega
def U8{x d rest l}(B:x<4294967296)(j:rest<d)(hn:l=x+4294967296*rest):l/d<4294967296:=by
 rw[aaW aa];have:4294967296*(rest+1)<=4294967296*d:=lh _ j;omega
def Gn(g n c d:Nat)(p:List Nat)(r w)(h:xZ w g p r)(Z:p.length=n)(hn:n<=1000000)(B:0<d)(hd:d<4294967296):
  Calls prog 218 #[.slice (γ ⟨g,0,δ⟩) n c,.int .u32 (d:Int)] w fun e w'=>e=.returned (.int .u32 ((val p%d:Nat):Int))/\∃q,xZ w' g q r/\q.length=n/\val q=val p/d/\Only g w w':=by
 have L:=aJ Z;clear Z;go_enter func218,ntmps218;go_wp2;go_loopw [5,6] (fun T i wr=>∃(k rest:Nat) (q:List Nat),k<=n/\i=.int .i64 ((k:Int)-1)/\T=.int .u64 (rest:Int)/\rest<d/\k+q.length=n/\val (p.drop k)=d*val q+rest/\xZ wr g (p.take k++q) r/\Only g w wr) (fun _ i _=>(intOf i+1).toNat)
 case atStart=>exact⟨n,0,[],κ _,rfl,rfl,B,rfl,by rw[aaQ (by rw[L.o];omega)];simp[val],by rw[Λ (by rw[L.o];omega)];simpa using h,Only.refl _ _⟩
 case round=>
  obtain⟨k,rest,q,hk,rfl,rfl,N,hq,hv,F,J⟩:=hrel;have Q:=aJ hv;clear hv;have P:=aJ hq;clear hq;by_cases S:k=0
  .subst S;go_wp2;go_ret;have hv:=Q.o;simp only[χ] at hv;refine⟨aO ?_,q,by simpa using F,by have:=P.o;omega,?_,J⟩
   .rw[hv,Nat.mul_add_mod,acf N]
   .rw[hv,Nat.mul_add_div B,acW N,Nq]
  .obtain⟨j,rfl⟩:∃j,k=j+1:=⟨k-1,aa⟩;have H:j<(p.take (j+1)++q).length:=by rw[q8,PI,L.o];omega
   obtain⟨x,O,D,K,V⟩:=F.at_ H;have C:p[j]? =γ x:=by
    rw[Ω (by rw[PI,L.o];omega),Zb aa] at O;exact O
   clear O;have HX:=aJ C;clear C;have I:=aJ F;clear F;have R:=aJ H;clear H;obtain⟨l,G⟩:∃l,l=x+4294967296*rest:=⟨_,rfl⟩;have Xa:l<18446744073709551616:=aa;have e1:bits .or .u64 ((rest:Int)*4294967296) (x:Int)=(l:Int):=by rw[or_hi aa D,G]
   have M:l/d<4294967296:=U8 D N G;have W:(l:Int)/(d:Int)<4294967296:=by rw[<-acX];omega
   have Y:(0:Int)<=(l:Int)/(d:Int):=Int.ediv_nonneg aa aa;have U:=aJ G;clear G;go_wp2;go_roundw
   case rel=>
    refine⟨j,l%d,l/d::q,aa,au,rfl,Ab _ B,by have:=P.o;simp;omega,Sj HX.o U.o Q.o,?_,J.trans (Only.set _ _ _ _)⟩;have:=I.set (d:=l/d) R.o rfl M;rwa[Q3 (by rw[L.o];omega)] at this
   case measure=>simp[intOf]<;>omega
def Tj{q j y}:(List.replicate (j+1) 0++q).set j y=List.replicate j 0++(y::q):=by
 rw[List.replicate_succ',Ha,abG _ _ ag];simp
def Ah{s}(hs:s<=32):2^s*2^(32-s)=4294967296:=by
 rw[<-aaJ,show s+(32-s)=32 by omega]
def TD{x s}(B:x<4294967296)(hs:s<32):x*2^s<18446744073709551616:=by
 have j:2^s<=2^31:=BB aa aa;have l:x*2^s<=x*2^31:=lh _ j;omega
def La{x s:Nat}(j:x<4294967296)(hs:s<32):IntKind.u64.wrap ((x:Int)*2^s)=((x*2^s:Nat):Int):=by
 have h:=TD j hs;have e:((x:Int)*2^s)=((x*2^s:Nat):Int):=by push_cast;rfl
 rw[e];exact abF _ aa
def IJ{x s}(hs:s<=32):2^s∣x*2^s%4294967296:=by
 rw[Nat.dvd_mod_iff (show 2^s∣4294967296 from ⟨2^(32-s),(Ah aa).symm⟩)];exact acT _ _
def Eo{x s J}(hs:s<=32)(hc:J<2^s):J+x*2^s%4294967296<4294967296:=by
 obtain⟨a,ha⟩:=IJ (x:=x) hs;have hb:=Ah (show s<=32 by omega);have Z:x*2^s%4294967296<4294967296:=Ab _ aa;rw[ha] at Z⊢;have l:a<2^(32-s):=by
  rw[<-hb] at Z;exact abZ Z
 have j:2^s*(a+1)<=2^s*2^(32-s):=lh _ l;rw[hb,Δ,aar] at j;omega
def VK{x s J:Nat}(j:x<4294967296)(hs:s<32)(hc:J<2^s):bits .or .u32 (J:Int) (IntKind.u64.wrap ((x:Int)*2^s)%4294967296)=((J+x*2^s%4294967296:Nat):Int):=by
 have l:=Eo (x:=x) (aaH hs) hc;obtain⟨a,ha⟩:=IJ (x:=x) (aaH hs);rw[La j hs,show((x*2^s:Nat):Int)%4294967296=((x*2^s%4294967296:Nat):Int) from rfl];rw[adr .u32 32 aj wraps_u32 s _ _ aa (by exact_mod_cast hc) aa aa ?_ aa]
 .omega
 .rw[ha];have:((2^s*a:Nat):Int)%2^s=((2^s*a%2^s:Nat):Int):=by push_cast;rfl
  rw[this,Nat.mul_mod_right];rfl
def sJ{x s}(j:x<4294967296):x*2^s/4294967296<2^s:=by
 rw[aaW aa,qb];exact Nat.mul_lt_mul_of_pos_left j (aah aa)
def Vi{x s:Nat}(j:x<4294967296)(hs:s<32):IntKind.u64.wrap ((x:Int)*2^s)/4294967296%4294967296=((x*2^s/4294967296:Nat):Int):=by
 have h:=TD j hs;rw[La j hs];omega
def Ni{o k n a b J}(j:o.length=k)(l:k<n):((o++J::List.replicate (n-k) 0).set k a).set (k+1) b=(o++[a])++b::List.replicate (n-(k+1)) 0:=by
 subst j;rw[show n-o.length=(n-(o.length+1))+1 by omega,abm];simp
def QH{o p:List Nat}{k J x s}(j:o.length=k)(l:p[k]? =γ x)(h:val o+4294967296^k*J=val (p.take k)*2^s):
  val (o++[J+x*2^s%4294967296])+4294967296^(k+1)*(x*2^s/4294967296)=val (p.take (k+1))*2^s:=by
 rw[mf,bW l,j,De,ω,aaa,<-h,Δ];have e:4294967296^k*(x*2^s%4294967296)+4294967296^k*(4294967296*(x*2^s/4294967296))=4294967296^k*(x*2^s):=by
  rw[<-Δ];congr 1;omega
 rw[ω (4294967296^k) x];omega
def uK(A)(n c s:Nat)(p)(w:World)(h:RM w A n c p)(hn:n<=1000000)(hs:s<32):
  Calls prog 220 #[.slice A n c,.int .i64 (s:Int)] w fun e w'=>e=.returned (.slice (γ ⟨w.heap.size,0,δ⟩) (n+1) (n+1))/\∃q,jT w' w.heap.size q/\q.length=n+1/\val q=val p*2^s/\Ext w w':=by
 have V:=aJ h.len;have P:=nT ((n:Int)+1) (n+1) aa aa;go_enter func220,ntmps220;go_wp2;clear P;go_loopw [15] (fun i wr=>∃(k J:Nat) (o:List Nat),k<=n/\i=.int .i64 k/\o.length=k/\J<2^s/\val o+4294967296^k*J=val (p.take k)*2^s/\jT wr w.heap.size (o++J::List.replicate (n-k) 0)/\Ext w wr) (fun i _=>n-(intOf i).toNat)
 case atStart=>exact⟨0,0,[],Ex _,rfl,rfl,aah aa,by simp[val],⟨by simpa[abm] using Blk.new w 208 (mg (List.replicate (n+1) 0)).toArray,by simpa[abm] using Dig.replicate (n+1)⟩,Ext.new _ _⟩
 case round=>
  obtain⟨k,J,o,hk,rfl,Q,N,hv,j,M⟩:=hrel;have T:=aJ hv;clear hv;have G:=aJ Q;clear Q;by_cases H:k<n
  .obtain⟨R,x,rfl,_,S,D,K⟩:=(h.ext M).at_ H;have Y:=aJ S;clear S;obtain⟨z,O,C,Z,W⟩:=j.at_ (k:=k) (by simp[G.o]);obtain⟨z1,L,l,F,B⟩:=j.at_ (k:=k+1) (by simp[G.o];omega);obtain rfl:z=J:=by
    rw[nG (by rw[G.o];exact κ _),G.o,aa7] at O;simpa using O.symm
   have I:=aJ j;clear j O L;go_wp2;go_roundw
   case rel=>
    refine⟨k+1,x*2^s/4294967296,o++[z+x*2^s%4294967296],aa,au,by simp[G.o],sJ D,QH G.o Y.o T.o,?_,(M.setCell (κ _) _).setCell (κ _) _⟩;have U:=(I.set (k:=k) (VK D hs N) (Eo (aaH hs) N)).set (k:=k+1) (Vi D hs) (π (sJ D) (by rw[<-Ah (show s<=32 by omega)];exact Nat.le_mul_of_pos_right _ (aah aa)));rwa[Ni G.o H] at U
   case measure=>simp[intOf]<;>omega
  .obtain rfl:k=n:=aa;have I:=aJ j;clear j;go_wp2;go_ret;refine⟨rfl,o++[J],by simpa using I.o,by simp[G.o],?_,M⟩;rw[mf,G.o,T.o,Λ (by rw[V.o];omega)]
def V5{x s}(hs:s<=32):x*4294967296/2^s=x*2^(32-s):=by
 rw[<-Ah hs,abB,Nat.mul_div_cancel_left _ (aah aa)]
def TP{x s:Nat}(hs:s<=32):(x:Int)*4294967296/2^s=((x*2^(32-s):Nat):Int):=by
 rw[<-V5 hs,acX,Int.natCast_mul,Int.natCast_pow];rfl
def zL{x s}(j:x<4294967296)(hs:s<=32):x*2^(32-s)/4294967296<4294967296:=by
 have B:=sJ (x:=x) (s:=32-s) j;have l:2^(32-s)<=2^32:=BB aa aa;omega
def MU{y:Nat}(j:y<4294967296):bits .or .u32 ((0:Nat):Int) (y:Int)=(y:Int):=by
 rw[adr .u32 32 aj wraps_u32 0 _ _ aa aa aa aa aa aa];omega
def TA{x s:Nat}(j:x<4294967296)(hs:s<=32):bits .or .u32 ((0:Nat):Int) ((x:Int)*4294967296/2^s/4294967296%4294967296)=((x*2^(32-s)/4294967296:Nat):Int):=by
 have h:=zL j hs;rw[TP hs];have e:((x*2^(32-s):Nat):Int)/4294967296%4294967296=((x*2^(32-s)/4294967296:Nat):Int):=aa;rw[e,MU h]
def Vh{x s y:Nat}(hs:s<=32)(j:y<2^(32-s)):bits .or .u32 (y:Int) ((x:Int)*4294967296/2^s%4294967296)=((y+x*2^(32-s)%4294967296:Nat):Int):=by
 have l:=Eo (x:=x) (s:=32-s) aa j;obtain⟨a,ha⟩:=IJ (x:=x) (s:=32-s) aa;rw[TP hs,show((x*2^(32-s):Nat):Int)%4294967296=((x*2^(32-s)%4294967296:Nat):Int) from rfl];rw[adr .u32 32 aj wraps_u32 (32-s) _ _ aa (by exact_mod_cast j) aa aa ?_ aa]
 .omega
 .rw[ha];have:((2^(32-s)*a:Nat):Int)%2^(32-s)=((2^(32-s)*a%2^(32-s):Nat):Int):=by push_cast;rfl
  rw[this,Nat.mul_mod_right];rfl
def Np{x s}(hs:s<=32):x*2^(32-s)/4294967296=x/2^s:=by
 rw[<-Ah hs,adh _ _ (aah aa)]
def Sq{o p:List Nat}{j x y s}(hs:s<=32)(l:o.length=j+1)(C:o[j]? =γ y)(F:p[j+1]? =γ x)(h:val o=val (p.take (j+1))/2^s):
  val (o.set j (y+x*2^(32-s)%4294967296)++[x*2^(32-s)/4294967296])=val (p.take (j+2))/2^s:=by
 have D:=qZ (y:=y+x*2^(32-s)%4294967296) C;rw[mf,abt,l,bW F];have B:4294967296^(j+1)*x=2^s*(4294967296^j*(x*2^(32-s))):=by
  rw[De,<-ω,<-ω,qb (2^s*4294967296^j*x),<-ω,<-ω,qb (2^(32-s)) (2^s),Ah hs,qb 4294967296]
 rw[B,Nat.add_mul_div_left _ _ (aah aa),<-h];have G:4294967296^j*(x*2^(32-s)%4294967296)+4294967296^(j+1)*(x*2^(32-s)/4294967296)=4294967296^j*(x*2^(32-s)):=by
  rw[De,ω,<-Δ];congr 1;omega
 rw[Δ] at D;omega
def last_at{o:List Nat}{j y}(l:o.length=j+1)(B:o[j]? =γ y):o.getLast? =γ y:=by
 rw[abY,l];exact B
def Bj(A)(n c s:Nat)(p w)(h:RM w A n c p)(hn:n<=1000000)(hs:s<32):
  CV 222 #[.slice A n c,.int .i64 (s:Int)] w fun v w'=>SlM (dV (val p/2^s)) v w':=by
 have HL:=aJ h.len;have Xt:=nT (n:Int) n rfl aa;go_enter func222,ntmps222;go_wp2;clear Xt;go_loopw [14] (fun i wr=>∃(k:Nat) (o:List Nat),k<=n/\i=.int .i64 k/\o.length=k/\(∀y,o.getLast? =γ y->y<2^(32-s))/\val o=val (p.take k)/2^s/\jT wr w.heap.size (o++List.replicate (n-k) 0)/\Ext w wr) (fun i _=>n-(intOf i).toNat)
 case atStart=>exact⟨0,[],Ex _,rfl,rfl,ag,by simp[val],⟨by simpa using Blk.new w _ _,by simpa using Dig.replicate n⟩,Ext.new _ _⟩
 case round=>
  obtain⟨k,o,hk,rfl,ho,P,hv,L,M⟩:=hrel;have HV:=aJ hv;clear hv;have N:=aJ ho;clear ho;have HY:=aJ P;clear P;by_cases Q:k<n
  .obtain⟨R,x,rfl,_,hx,D,K⟩:=(h.ext M).at_ Q;have HX:=aJ hx;clear hx;obtain⟨z,W,C,Wo,WI⟩:=L.at_ (k:=k) (by simp[N.o];omega);by_cases h0:k=0
   .subst h0;have Y:wr.cell? R=γ (.int .u32 (x:Int)):=K;have S:o=[]:=NK N.o;have O:z=0:=by
     have:=xx W;rw[S] at this;simpa using ab4 this
    have I:=aJ L;clear L W;have YO:=aJ S;clear S;have U:=aJ O;clear O;go_wp2;go_roundw
    case rel=>
     refine⟨1,[x*2^(32-s)/4294967296],aa,au,rfl,?_,?_,?_,M.setCell (κ _) _⟩
     .intro y P;simp at P;rw[<-P];exact sJ D
     .rw[bW (k:=0) HX.o,Np aa];simp[val]
     .have Z:=I.set (k:=0) (d:=x*2^(32-s)/4294967296) (z:=bits .or .u32 (z:Int) ((x:Int)*4294967296/2^s/4294967296%4294967296)) (by rw[U.o];exact TA D aa) (zL D aa);rwa[YO.o,zV (o:=[]) (k:=0) rfl Q] at Z
    case measure=>simp[intOf]<;>omega
   .obtain⟨j,rfl⟩:∃j,k=j+1:=⟨k-1,aa⟩;obtain⟨z1,T,l,F,B⟩:=L.at_ (k:=j) (by simp[N.o];omega);have Y:wr.cell? ⟨R.block,R.off+(j+1),δ⟩=γ (.int .u32 (x:Int)):=by simpa[Addr.add] using K
    have O:z=0:=by
     rw[nG (by rw[N.o];exact κ _),N.o] at W;exact ab4 (xx W)
    have J:o[j]? =γ z1:=by
     rw[Ω (by rw[N.o];omega)] at T;exact T
    have I:=aJ L;clear L W T;have U:=aJ O;clear O;have V:=aJ J;clear J;have G:z1<2^(32-s):=HY.o z1 (last_at N.o V.o);go_wp2;go_roundw
    case rel=>
     refine⟨j+2,o.set j (z1+x*2^(32-s)%4294967296)++[x*2^(32-s)/4294967296],aa,au,by simp[N.o],?_,Sq aa N.o V.o HX.o HV.o,?_,(M.setCell (κ _) _).setCell (κ _) _⟩
     .intro y P;simp at P;rw[<-P];exact sJ D
     .have Z:=(I.set (k:=j+1) (d:=x*2^(32-s)/4294967296) (z:=bits .or .u32 (z:Int) ((x:Int)*4294967296/2^s/4294967296%4294967296)) (by rw[U.o];exact TA D aa) (zL D aa)).set (k:=j) (Vh (x:=x) aa G) (Eo aa G);rw[zV N.o Q,Ha,adm _ _ (by rw[N.o];omega),<-Ha] at Z;exact Z
    case measure=>simp[intOf]<;>omega
  .obtain rfl:k=n:=aa;simp only[aa7,abV,aaj] at L;(go_wp2_with fail);refine(jK _ _ _ o _ (L.rm N.o aa)).mono ?_;rintro e w1 ⟨v1,rfl,hR,H⟩;rw[HV.o,Λ (by rw[HL.o];omega)] at hR;exact Abq
def jX (S V u2 u1 v1 g rest:Nat):Prop:=g*v1+rest=u2*4294967296+u1/\S/V<=g
section
variable {S V P u2 u1 u0 v1 v0 g rest:Nat}
def jX.first(t:rT S V P u2 u1 u0 v1 v0):jX S V u2 u1 v1 ((u2*4294967296+u1)/v1) ((u2*4294967296+u1)%v1):=
 ⟨by rw[qb];exact abr _ _,t.first⟩
def jX.le(t:rT S V P u2 u1 u0 v1 v0)(h:jX S V u2 u1 v1 g rest):g<=4294967299:=by
 have B:=t.KC;have j:=h.1;have C:=t.top;have l:=t.l1;rcases aab 4294967299 g with hc|hc
 .exfalso;have:4294967300*v1<=g*v1:=Aa _ hc;omega
 .exact hc
def agb(t:rT S V P u2 u1 u0 v1 v0)(h:jX S V u2 u1 v1 g rest)(l:4294967296<=g):jX S V u2 u1 v1 (g-1) (rest+v1):=by
 have j:=t.Vs;refine⟨?_,aa⟩;rw[<-h.1,Nat.sub_mul,aay];have:1*v1<=g*v1:=Aa _ aa;omega
def af1(t:rT S V P u2 u1 u0 v1 v0)(h:jX S V u2 u1 v1 g rest)(B:g*v0>u0+4294967296*rest):0<g/\jX S V u2 u1 v1 (g-1) (rest+v1):=by
 have l:=t.above ((Bh (u0:=u0) (v0:=v0) h.1).1 aa);have j:0<g:=nH (Ex _) l;refine⟨j,?_,aa⟩;rw[<-h.1,Nat.sub_mul,aay];have:1*v1<=g*v1:=Aa _ j;omega
def jX.pass(t:rT S V P u2 u1 u0 v1 v0)(h:jX S V u2 u1 v1 g rest)(hb:g<4294967296)(j:¬g*v0>u0+4294967296*rest):S/V<=g/\g<=S/V+1:=by
 refine⟨h.2,t.close hb ?_⟩;have:=mt (Bh (u0:=u0) (v0:=v0) h.1).2 aa;omega
def afn(t:rT S V P u2 u1 u0 v1 v0)(h:jX S V u2 u1 v1 g rest)(l:4294967296<=rest):g<4294967296/\S/V<=g/\g<=S/V+1:=by
 have B:=t.KC;have j:=h.1;have hb:g<4294967296:=by
  rcases aab g 4294967296 with hc|hc
  .exact hc
  .exfalso;have:4294967296*v1<=g*v1:=Aa _ hc;omega
 refine⟨hb,h.pass t hb ?_⟩;have:=yX hb t.l0;omega
end
def pF{l}(h:Dig l)(k):val (l.take k)<4294967296^k:=by
 have j:=nY (h.take k);exact π j (BB aa (by rw[PI];omega))
theorem vG{p q}:decide (qH p q<0)=decide (p<q):=by
 unfold qH;by_cases h:p<q
 .simp[h]
 .by_cases j:q<p<;>simp[h,j]
def Ij{a n}(h:(dV a).length=n)(j:n≠0):4294967296^(n-1)<=a:=by
 have:=Iz (eu a) (by intro e;rw[e] at h;simp at h;omega);rwa[bD,h] at this

structure H9 (b n s:Nat) (x:Nat):Prop where
 len:(dV b).length=n+2
 top:(dV b)[n+1]? =γ x
 lo:2147483648<=x*2^s
 hi:x*2^s<4294967296
 hs:s<32
def H9.lt{b n s x}(h:H9 b n s x):b*2^s<4294967296^(n+2):=by
 have B:=bW h.top;rw[jR (by rw[h.len];omega),bD] at B;have D:=pF (tL b) (n+1);have C:x*2^s+2^s<=4294967296:=by
  have e:=Ah (show s<=32 by have:=h.hs;omega);have l:=h.hi;rw[<-e,qb x] at l;have H:=abZ l;have j:2^s*(x+1)<=2^s*2^(32-s):=lh _ H;rw[e,Δ,aar,qb] at j;exact j
 have l:b*2^s<4294967296^(n+1)*(x+1)*2^s:=by
  refine aa5 ?_ (aah aa);rw[Δ,aar];omega
 have H:4294967296^(n+1)*(x+1)*2^s=4294967296^(n+1)*(x*2^s+2^s):=by rw[ω,aaa,aay]
 have j:4294967296^(n+1)*(x*2^s+2^s)<=4294967296^(n+1)*4294967296:=lh _ C;rw[show n+2=(n+1)+1 from rfl,De];omega
def H9.ge{b n s x}(h:H9 b n s x):2147483648*4294967296^(n+1)<=b*2^s:=by
 have j:=bW h.top;rw[jR (by rw[h.len];omega),bD] at j;have B:4294967296^(n+1)*x*2^s<=b*2^s:=Aa _ aa;have l:4294967296^(n+1)*2147483648<=4294967296^(n+1)*(x*2^s):=lh _ h.lo;rw[<-ω] at l;omega
def H9.digits{b n s x q}(h:H9 b n s x)(hq:q.length=n+3)(hd:Dig q)(hv:val q=b*2^s):val (q.take (n+2))=b*2^s/\∃v1 v0,(q.take (n+2))[n+1]? =γ v1/\(q.take (n+2))[n]? =γ v0/\2147483648<=v1:=by
 have B:=gV q (n+2) aa;have F:=h.lt;have C:val (q.drop (n+2))=0:=by
  rcases Na (val (q.drop (n+2))) with j|j
  .exact j
  .have:4294967296^(n+2)*1<=4294967296^(n+2)*val (q.drop (n+2)):=lh _ j;omega
 have l:val (q.take (n+2))=b*2^s:=by rw[C] at B;omega
 have V:(q.take (n+2)).length=n+2:=by rw[PI];omega
 refine⟨l,_,_,ν aa,ν aa,?_⟩;have H:(q.take (n+2))[n+1]? =γ (q.take (n+2))[n+1]:=ν aa;have D:=bW H;rw[jR aa,l] at D;have G:=pF (hd.take (n+2)) (n+1);have I:=h.ge;generalize (q.take (n+2))[n+1]=v1 at*
 rcases aab v1 2147483648 with hc|hc
 .exfalso;have:4294967296^(n+1)*(v1+1)<=4294967296^(n+1)*2147483648:=lh _ hc;rw[Δ,aar] at this;omega
 .exact hc
def qh (U qs:List Nat) (N V k:Nat):Prop:=val U+V*(4294967296^k*val qs)=N/\val (U.drop k)<V
def Kw{U j x V}(hd:Dig U)(l:U[j]? =γ x)(h:val (U.drop (j+1))<V):val (U.drop j)<4294967296*V:=by
 rw[EP l];have:=hd.at_ l;have B:4294967296*(val (U.drop (j+1))+1)<=4294967296*V:=lh _ h;omega
def qh.step{U l qs N V j q}(h:qh U qs N V (j+1))(G:j<=U.length)(Z:l.length=U.length)(B:l.take j=U.take j)(hv:val l+4294967296^j*(V*q)=val U)(hq:q=val (U.drop j)/V)(hV:0<V):qh l (q::qs) N V j:=by
 have I:=gV U j G;have D:=gV l j aa;rw[B] at D;have F:4294967296^j*(val (l.drop j)+V*q)=4294967296^j*val (U.drop j):=by rw[Δ];omega
 have L:=abg (aah aa) F;refine⟨?_,?_⟩
 .rw[<-h.1,<-hv,val,Δ,Δ,De];have J:V*(4294967296^j*q)=4294967296^j*(V*q):=abB _ _ _;have K:V*(4294967296^j*(4294967296*val qs))=V*(4294967296^j*4294967296*val qs):=by rw[ω (4294967296^j)]
  omega
 .have C:=abr (val (U.drop j)) V;have H:=Ab (val (U.drop j)) hV;rw[<-hq] at C;omega
def afC{U N V k}(h:val U=N)(j:val (U.drop k)<V):qh U [] N V k:=⟨by simp[val,h],j⟩
def qh.done{U qs N V}(h:qh U qs N V 0):val qs=N/V/\val U=N%V:=by
 obtain⟨l,j⟩:=h;simp only[Nat.pow_zero,aay,χ] at l j;have hV:0<V:=aa;rw[<-l];constructor
 .rw[aa6,Nat.mul_add_div hV,acW j,Nq]
 .rw[aa6,Nat.mul_add_mod,acf j]
def Si{U v j n v1 v0}(D:Dig U)(hv:Dig v)(V:j+n+3<=U.length)(C:v.length=n+2)(K:v[n+1]? =γ v1)(J:v[n]? =γ v0)(L:2147483648<=v1)(G:val (U.drop (j+1))<val v):
  ∃u2 u1 u0,U[j+n+2]? =γ u2/\U[j+n+1]? =γ u1/\U[j+n]? =γ u0/\rT (val (U.drop j)) (val v) (4294967296^n) u2 u1 u0 v1 v0:=by
 have H:U[j+n+2]? =γ U[j+n+2]:=ν aa;have I:U[j+n+1]? =γ U[j+n+1]:=ν aa;have F:U[j+n]? =γ U[j+n]:=ν aa;have B:U[j]? =γ U[j]:=ν aa;have hS:=Kw D B G;have hV:=nY hv;rw[C] at hV;have l:val (U.drop j)<4294967296^(n+3):=by
  rw[show n+3=(n+2)+1 from rfl,De,qb];have:4294967296*val v<=4294967296*4294967296^(n+2):=lh _ (aaH hV);omega
 refine⟨_,_,_,H,I,F,aah aa,?_,?_,L,hv.at_ K,hv.at_ J,D.at_ H,D.at_ I,D.at_ F,hS⟩
 .exact V7 (D.drop j) l (by rw[aaf];exact H) (by rw[aaf];exact I) (by rw[aaf];exact F)
 .exact Wd hv C K J
def Ji{a b s}:a*2^s/(b*2^s)=a/b:=adh _ _ (aah aa)
def Jk{a b s}:a*2^s%(b*2^s)=a%b*2^s:=Nat.mul_mod_mul_right _ _ _
def S9{U n}(hd:Dig U)(hn:n<=U.length)(h:val U<4294967296^n):val (U.take n)=val U:=by
 have l:=gV U n hn;have B:val (U.drop n)=0:=by
  rcases Na (val (U.drop n)) with j|j
  .exact j
  .have:4294967296^n*1<=4294967296^n*val (U.drop n):=lh _ j;omega
 rw[B] at l;omega
def RM.VA{w:World}{R:Addr}{n c k x:Nat}{l}(h:RM w (γ R) n c l)(j:l[k]? =γ x):w.cell? (R.add k)=γ (.int .u32 (x:Int))/\w.cell? ⟨R.block,R.off+k,δ⟩=γ (.int .u32 (x:Int)):=by
 have B:k<l.length:=(μ.1 j).1;have Z:=h.len;obtain⟨b,o,e,_,hc⟩:=h.rd.plain aa;cases e
 have:=hc k _ (ry j);exact⟨by rw[add_plain];exact this,this⟩
def PP{U a b s la n}(F:val U=a*2^s)(ha:a<4294967296^la)(hb:4294967296^(n+1)<=b)(l:n+1<=la)(Z:la-n-1<=U.length):val (U.drop (la-n-1))<b*2^s:=by
 have D:=gV U (la-n-1) Z;have j:a*2^s<4294967296^la*2^s:=aa5 ha (aah aa);have B:4294967296^la=4294967296^(la-n-1)*4294967296^(n+1):=by rw[<-aaJ];congr 1;omega
 have C:4294967296^(la-n-1)*(4294967296^(n+1)*2^s)<=4294967296^(la-n-1)*(b*2^s):=lh _ (Aa _ hb);rw[B,ω] at j;have H:4294967296^(la-n-1)*val (U.drop (la-n-1))<4294967296^(la-n-1)*(b*2^s):=aa;exact abZ H
def Hu (U l v:List Nat) (j i g J B:Nat):Prop:=
 l.length=U.length/\l.take j=U.take j/\(∀t,j+i<=t->l[t]? =U[t]?)/\val l+4294967296^j*(g*val (v.take i))=val U+4294967296^(j+i)*(J+B)
def afG(U v j g):Hu U U v j 0 g 0 0:=⟨rfl,rfl,fun _ _=>rfl,by simp[val]⟩
def Pv{x j pl:Nat}(l:x<4294967296)(hb:j<=1)(hp:pl<4294967296):x+4294967296*oQ ((x:Int)-j-pl)=qA ((x:Int)-j-pl)+j+pl:=by
 have:=DV l hp hb;omega
def Hu.step{U C v j i g J l x y p}(h:Hu U C v j i g J l)(M:U[j+i]? =γ x)(L:v[i]? =γ y)(D:x<4294967296)(hb:l<=1)(hp:p=g*y+J):
  Hu U (C.set (j+i) (qA ((x:Int)-l-(p%4294967296:Nat)))) v j (i+1) g (p/4294967296) (oQ ((x:Int)-l-(p%4294967296:Nat))):=by
 obtain⟨K,I,G,O⟩:=h;refine⟨by rw[abt];exact K,?_,fun t N=> ?_,?_⟩
 .rw[abW aa];exact I
 .rw[aav aa];exact G t aa
 .have B:C[j+i]? =γ x:=by rw[G _ (κ _)];exact M
  have Q:=Pv D hb (Ab p (show 0<4294967296 by omega));generalize qA ((x:Int)-l-(p%4294967296:Nat))=dg at*
  generalize oQ ((x:Int)-l-(p%4294967296:Nat))=F at*
  have H:=qZ (y:=dg) B;rw[bW L,show j+(i+1)=(j+i)+1 from rfl,De,ω];have R:4294967296^j*(g*(val (v.take i)+4294967296^i*y))=4294967296^j*(g*val (v.take i))+4294967296^(j+i)*(g*y):=by
   rw[Δ,Δ,aaJ];congr 1;rw[abB g,ω]
  have P:4294967296^(j+i)*dg+4294967296^(j+i)*(g*y)+4294967296^(j+i)*(J+l)=4294967296^(j+i)*x+4294967296^(j+i)*(4294967296*(p/4294967296+F)):=by
   rw[<-Δ,<-Δ,<-Δ];congr 1;omega
  omega
def PX{U X:List Nat}{m}(B:val (U.drop m)=0)(F:Dig X)(Z:X.length=U.length)(h:∀t,m<=t->X[t]? =U[t]?):val X<4294967296^m:=by
 rcases aab U.length m with l|l
 .have:=nY F;exact π this (BB aa aa)
 .have e:X.drop m=U.drop m:=by
   apply aap;intro i;rw[aaf,aaf];exact h _ aa
  have j:=gV X m aa;rw[e,B] at j;have C:=pF F m;omega
def drop_zero{U:List Nat}{j m}(C:j+m<=U.length)(h:val (U.drop j)<4294967296^m):val (U.drop (j+m))=0:=by
 have B:=gV (U.drop j) m (by rw[acS];omega);rw[List.drop_drop] at B;rcases Na (val (U.drop (j+m))) with l|l
 .exact l
 .have:4294967296^m*1<=4294967296^m*val (U.drop (j+m)):=lh _ l;omega
def Ro{U G v j m g J D u}(h:Hu U G v j m g J D)(hv:v.length=m)(N:U[j+m]? =γ u)(B:u<4294967296)(hc:J<4294967296)(hb:D<=1):
  val (G.set (j+m) (qA ((u:Int)-D-J)))+4294967296^j*(g*val v)=val U+4294967296^(j+m+1)*oQ ((u:Int)-D-J):=by
 obtain⟨M,L,K,I⟩:=h;have F:G[j+m]? =γ u:=by rw[K _ (κ _)];exact N
 have P:=DV B hc hb;generalize qA ((u:Int)-D-J)=dg at*
 generalize oQ ((u:Int)-D-J)=C at*
 have H:=qZ (y:=dg) F;rw[Λ (l:=v) aa] at I;have e:4294967296^(j+m+1)*C=4294967296^(j+m)*(4294967296*C):=by rw[De,ω]
 have O:4294967296^(j+m)*u+4294967296^(j+m)*(4294967296*C)=4294967296^(j+m)*(J+D)+4294967296^(j+m)*dg:=by
  rw[<-Δ,<-Δ];congr 1
 omega
def OX{U X j m V q l}(h:val X+4294967296^j*(q*V)=val U+4294967296^m*l)(F:val X<4294967296^m)(hq:4294967296^j*(q*V)<=val U):l=0:=by
 rcases Na l with B|B
 .exact B
 .have:4294967296^m*1<=4294967296^m*l:=lh _ B;omega
def SH{U X j m V q l}(h:val X+4294967296^j*(q*V)=val U+4294967296^m*l)(hb:l<=1)(hq:val U<4294967296^j*(q*V)):l=1:=by
 rcases Na l with B|B
 .subst B;omega
 .omega
def OY{U j V q}(l:j<=U.length)(hq:V*q<=val (U.drop j)):4294967296^j*(q*V)<=val U:=by
 have C:=gV U j l;have B:4294967296^j*(q*V)<=4294967296^j*val (U.drop j):=lh _ (by rw[qb];exact hq);omega
def seg_lt{U j V q}(hd:Dig U)(l:j<=U.length)(hq:val (U.drop j)<V*q):val U<4294967296^j*(q*V):=by
 have D:=gV U j l;have C:=pF hd j;have B:4294967296^j*(val (U.drop j)+1)<=4294967296^j*(q*V):=lh _ (by rw[qb q];exact hq);rw[Δ,aar] at B;omega
def Fz (U l v:List Nat) (j i J:Nat):Prop:=
 l.length=U.length/\l.take j=U.take j/\(∀t,j+i<=t->l[t]? =U[t]?)/\val l+4294967296^(j+i)*J=val U+4294967296^j*val (v.take i)
def afE(U v j):Fz U U v j 0 0:=⟨rfl,rfl,fun _ _=>rfl,by simp[val]⟩
def Fz.step{U B v j i J x y s}(h:Fz U B v j i J)(I:U[j+i]? =γ x)(G:v[i]? =γ y)(hs:s=x+y+J):Fz U (B.set (j+i) (s%4294967296)) v j (i+1) (s/4294967296):=by
 obtain⟨F,D,C,L⟩:=h;refine⟨by rw[abt];exact F,?_,fun t K=> ?_,?_⟩
 .rw[abW aa];exact D
 .rw[aav aa];exact C t aa
 .have l:B[j+i]? =γ x:=by rw[C _ (κ _)];exact I
  have H:=qZ (y:=s%4294967296) l;rw[bW G,show j+(i+1)=(j+i)+1 from rfl,De,ω,Δ,<-ω (4294967296^j),<-aaJ];have e:4294967296^(j+i)*(s%4294967296)+4294967296^(j+i)*(4294967296*(s/4294967296))=4294967296^(j+i)*x+4294967296^(j+i)*y+4294967296^(j+i)*J:=by
   rw[<-Δ,<-Δ,<-Δ];congr 1;omega
  omega
def Tc{U X Y v j m c d V q}(F:val X+4294967296^j*((q+1)*V)=val U+4294967296^(j+m+1))(h:Fz X Y v j m c)(hv:v.length=m)(hV:val v=V)(hd:X[j+m]? =γ d)(G:val (Y.set (j+m) ((d+c)%4294967296))<4294967296^(j+m+1))(hq:4294967296^j*(q*V)<=val U)(B:d<4294967296)(hc:c<=1):
  val (Y.set (j+m) ((d+c)%4294967296))+4294967296^j*(q*V)=val U:=by
 obtain⟨L,K,J,I⟩:=h;have D:Y[j+m]? =γ d:=by rw[J _ (κ _)];exact hd
 have H:=qZ (y:=(d+c)%4294967296) D;rw[Λ (l:=v) aa,hV] at I;have N:4294967296^j*((q+1)*V)=4294967296^j*(q*V)+4294967296^j*V:=by rw[aaa,aay,Δ]
 generalize val (Y.set (j+m) ((d+c)%4294967296))=R at*
 have C:(d+c)%4294967296=d+c\/(d+c)%4294967296+4294967296=d+c:=aa;rcases C with C|C
 .exfalso;rw[C,Δ] at H;omega
 .have M:4294967296^(j+m)*((d+c)%4294967296)+4294967296^(j+m+1)=4294967296^(j+m)*d+4294967296^(j+m)*c:=by
   rw[De,<-Δ,<-Δ];congr 1
  omega
theorem Us{x c b:Nat}(j:x<4294967296)(hc:c<4294967296)(hb:b<=1):∃z:Nat,IntKind.u64.wrap (IntKind.u64.wrap ((x:Int)-c)-b)=(z:Int)/\z<18446744073709551616/\(z:Int)%4294967296=(qA ((x:Int)-b-c):Int)/\(oQ ((x:Int)-b-c)=0->z<9223372036854775808)/\(oQ ((x:Int)-b-c)=1->9223372036854775808<=z):=by
 rw[j4,j4];refine⟨((((x:Int)-c)%18446744073709551616-b)%18446744073709551616).toNat,aa,aa,?_,?_,?_⟩
 .unfold qA;omega
 .unfold oQ;split<;>omega
 .unfold oQ;split<;>omega
def D7(B gU j n c d v1 U v w)(hU:jT w gU U)(O:RM w B (n+2) d v)(Wo:∀R,B=γ R->R.block≠gU)(hn:n<=1000000)(hj:j<=1000000)(WT:j+n+3<=U.length)(hc:n+3<=c)(WN:c<=9223372036854775807)(Wv:v[n+1]? =γ v1)(Yj:2147483648<=v1)(Wj:val (U.drop (j+1))<val v):
  Calls prog 221 #[.slice (γ ⟨gU,j,δ⟩) (n+3:Nat) c,.slice B (n+2:Nat) d] w fun e w'=>e=.returned (.int .u32 ((val (U.drop j)/val v:Nat):Int))/\∃U',jT w' gU U'/\U'.length=U.length/\U'.take j=U.take j/\
   val U'+4294967296^j*(val v*(val (U.drop j)/val v))=val U/\Only gU w w':=by
 have Xf:=O.len;have Xy:=O.dg;have Xa:v[n]? =γ v[n]:=ν aa;generalize v[n]=v0 at Xa;obtain⟨u2,u1,u0,WL,WW,WU,t⟩:=Si hU.2 Xy WT Xf Wv Xa Yj Wj;obtain⟨bV,oV,rfl,_,Xx⟩:=O.rd.plain aa;have Yl:=Wo _ rfl;clear Wo;have Yu:=Xx (n+1) _ (ry Wv);have XO:=Xx n _ (ry Xa);obtain⟨x2,XD,_,Yt,_⟩:=hU.at_ (k:=j+n+2) aa;obtain⟨x1,Xq,_,YB,_⟩:=hU.at_ (k:=j+n+1) aa;obtain⟨x0,XL,_,XN,_⟩:=hU.at_ (k:=j+n) aa;obtain rfl:x2=u2:=by rw[WL] at XD;injection XD with h;exact h.symm
 obtain rfl:x1=u1:=by rw[WW] at Xq;injection Xq with h;exact h.symm
 obtain rfl:x0=u0:=by rw[WU] at XL;injection XL with h;exact h.symm
 have Xt:=aJ Xx;have WA:=aJ Wv;have Yv:=aJ Xa;have YG:=aJ WL;have Xr:=aJ WW;have XW:=aJ WU;have Xo:=aJ Xf;have XR:=t.m2;have Ye:=t.m1;have X3:=t.m0;have Yb:=t.l1;have X8:=t.l0;have Xi:=aJ (jX.first t);obtain⟨hd,Xz⟩:∃hd,hd=x2*4294967296+x1:=⟨_,rfl⟩;rw[<-Xz] at Xi;have XG:hd<18446744073709551616:=aa;have e0:bits .or .u64 ((x2:Int)*4294967296) (x1:Int)=(hd:Int):=by rw[or_hi XR Ye,Xz];omega
 have Yk:=aJ Xz;clear Xz;have YE:1<=v1:=aa;have YC:(0:Int)<=(hd:Int)/(v1:Int):=Int.ediv_nonneg aa aa;have XT:(hd:Int)/(v1:Int)<=18446744073709551615:=by
  have:=Nat.div_le_self hd v1;rw[<-acX];omega
 clear XD Xq XL Xx Wv Xa WL WW WU Xf;have T:=aJ t;clear t;have a2:j+(n+2)=j+n+2:=aa;have a1:j+(n+1)=j+n+1:=aa;have C:(n:Int)+2-1=(n:Int)+1:=aa;have k3:((n:Int)+1).toNat=n+1:=aa;have k4:((n:Int)+2).toNat=n+2:=aa;go_enter func221,ntmps221;(go_wp2_with fail);have d1:(0:Int)<=(n:Int)+2:=aa;have d2:(n:Int)+2<(n:Int)+3:=aa;have d3:(n:Int)+1<(n:Int)+3:=aa;go_quiet (fail);(go_wp2_with fail);go_quiet (fail)
 go_upto_block 0 with fail
 go_cut [8,9] (fun gv rv wx=>∃g:Nat,gv=.int .u64 (g:Int)/\g<4294967296/\val (U.drop j)/val v<=g/\g<=val (U.drop j)/val v+1/\Ext w wx)
 case first=>
  (go_wp2_with fail);clear e0;go_loopw [8,9] (fun qv rv wr=>∃g rest:Nat,qv=.int .u64 (g:Int)/\rv=.int .u64 (rest:Int)/\rest<4294967296/\jX (val (U.drop j)) (val v) x2 x1 v1 g rest/\Ext w wr) (fun qv _ _=>(intOf qv).toNat)
  case atStart=>exact⟨hd/v1,hd%v1,rfl,rfl,acY (Ab _ aa) Yb,Xi.o,((Ext.refl w).drewN _).drewN _⟩
  case round=>
   obtain⟨g,rest,rfl,rfl,hr,hG,M⟩:=hrel;have YF:=jX.le T.o hG;have S:=aJ hG;clear hG;have XO:wr.cell? ⟨bV,oV+n,δ⟩=γ (.int .u32 (v0:Int)):=M.cell_ XO;have XN:wr.cell? ⟨gU,j+n,δ⟩=γ (.int .u32 (x0:Int)):=M.cell_ XN;have k5:(n:Int)+2-2=(n:Int):=aa;have d4:(n:Int)<(n:Int)+2:=aa;have d5:(n:Int)<(n:Int)+3:=aa;by_cases hb:4294967296<=g
   .have WF:(4294967296:Int)<=(g:Int):=aa;have WS:=aJ (agb T.o S.o hb);by_cases Ws:4294967296<=rest+v1
    .have WR:(4294967296:Int)<=(rest:Int)+(v1:Int):=aa;obtain⟨s1,s2,s3⟩:=afn T.o WS.o Ws;have S1:=aJ s1;have S2:=aJ s2;have S3:=aJ s3;clear s1 s2 s3;(go_wp2_with fail);go_quiet (fail);go_wp2_with fail
     go_meet
     case rel=>exact⟨g-1,au,S1.o,S2.o,S3.o,M.drewN _⟩
    .have WR:decide ((4294967296:Int)<=(rest:Int)+(v1:Int))=ζ:=by rw[aa2];omega
     have Yx:decide (4294967296<=rest+v1)=ζ:=Γ Ws;have Wq:=aJ Ws;clear Ws;(go_wp2_with fail);go_quiet (fail);go_wp2_with fail
     go_roundw
     case rel=>exact⟨g-1,rest+v1,au,au,by have:=Wq.o;omega,WS.o,M.drewN _⟩
     case measure=>simp[intOf]<;>omega
   .obtain⟨tp,Ww⟩:∃tp,tp=g*v0:=⟨_,rfl⟩;obtain⟨z,hz⟩:∃z,z=x0+4294967296*rest:=⟨_,rfl⟩;have XP:tp<=18446744065119617025:=by rw[Ww];exact yX aa X8
    have e1:IntKind.u64.wrap ((g:Int)*(v0:Int))=(tp:Int):=by rw[abF _ (by rw[show((g:Int)*(v0:Int))=((g*v0:Nat):Int) by simp,<-Ww];omega),Ww];simp
    have e2:bits .or .u64 ((rest:Int)*4294967296) (x0:Int)=(z:Int):=by rw[or_hi hr X3,hz]
    have Ym:z<18446744073709551616:=aa;have WF:decide ((4294967296:Int)<=(g:Int))=ζ:=by rw[aa2];omega
    have WB:decide (4294967296<=g)=ζ:=Γ hb;have HB:=aJ hb;by_cases hc:z<tp
    .obtain⟨L,Xu⟩:=af1 (u0:=x0) (v0:=v0) T.o S.o (by rw[<-Ww,<-hz];exact hc);have WS:=aJ Xu;clear Xu;clear Ww hz hb;have WI:(z:Int)<(tp:Int):=aa;clear hc;by_cases Ws:4294967296<=rest+v1
     .have WR:(4294967296:Int)<=(rest:Int)+(v1:Int):=aa;obtain⟨s1,s2,s3⟩:=afn T.o WS.o Ws;have S1:=aJ s1;have S2:=aJ s2;have S3:=aJ s3;clear s1 s2 s3;have Wq:=aJ Ws;clear Ws;(go_wp2_with fail);go_quiet (fail);go_wp2_with fail
      go_meet
      case rel=>exact⟨g-1,au,S1.o,S2.o,S3.o,M.drewN _⟩
     .have WR:decide ((4294967296:Int)<=(rest:Int)+(v1:Int))=ζ:=by rw[aa2];omega
      have Yx:decide (4294967296<=rest+v1)=ζ:=Γ Ws;have Wq:=aJ Ws;clear Ws;(go_wp2_with fail);go_quiet (fail);go_wp2_with fail
      go_roundw
      case rel=>exact⟨g-1,rest+v1,au,au,by have:=Wq.o;omega,WS.o,M.drewN _⟩
      case measure=>simp[intOf]<;>omega
    .obtain⟨s2,s3⟩:=jX.pass (u0:=x0) (v0:=v0) T.o S.o aa (by rw[<-Ww,<-hz];omega);have S2:=aJ s2;have S3:=aJ s3;clear s2 s3 Ww hz hb;have WI:(tp:Int)<=(z:Int):=aa;clear hc;(go_wp2_with fail);go_quiet (fail);go_wp2_with fail
     go_meet
     case rel=>exact⟨g,rfl,by have:=HB.o;omega,S2.o,S3.o,M.drewN _⟩
 case rest=>
  obtain⟨g,rfl,Yf,Yg,X4,M⟩:=hcut;obtain⟨qd,WH⟩:∃qd,qd=val (U.drop j)/val v:=⟨_,rfl⟩;rw[<-WH] at Yg X4;have Yc:jT wc gU U:=hU.far M;have Yh:=T.Rh;have Xj:val v*qd<=val (U.drop j):=by rw[WH];exact Nat.mul_div_le _ _
  have XH:val (U.drop j)<val v*(qd+1):=by rw[WH];exact Nat.lt_mul_div_succ _ Yh
  have Xh:qd<4294967296:=by rw[WH];exact T.Vs
  have Xe:=nY Xy;rw[Xo.o] at Xe;have WG:val (U.drop (j+(n+3)))=0:=by
   refine drop_zero aa ?_;have h1:=T.fits;have h2:4294967296*val v<=4294967296*4294967296^(n+2):=lh _ (aaH Xe);rw[show n+3=(n+2)+1 from rfl,De,qb (4294967296^(n+2))];omega
  have WJ:=aJ WG;have Xv:=aJ WH;have WC:=aJ Xj;have WQ:=aJ XH;have WX:=aJ WT;have Yy:=aJ Yc;clear WG WH Xj XH WT Yc Xe Yh Wj e0 YC XT XG Yk Xi Yu XO Yt YB XN;have XF:∀(i y:Nat),v[i]? =γ y->∀wr,Only gU wc wr->wr.cell? ⟨bV,oV+i,δ⟩=γ (.int .u32 (y:Int)):=fun i y hy wr ho=>ho.cell_ (M.cell_ (Xt.o i _ (ry hy))) Yl;have X5:=aJ XF;clear XF;go_wp2_with fail
  go_loopw [10,11,75] (fun cv bv iv wr=>∃(i J bo:Nat) (U':List Nat),i<=n+2/\iv=.int .i64 i/\cv=.int .u64 (J:Int)/\bv=.int .u64 (bo:Int)/\J<4294967296/\bo<=1/\Hu U U' v j i g J bo/\jT wr gU U'/\Only gU wc wr) (fun _ _ iv _=>n+2-(intOf iv).toNat)
  case atStart=>exact⟨0,0,0,U,aa,rfl,rfl,rfl,aa,aa,afG _ _ _ _,Yy.o,Only.refl _ _⟩
  case round=>
   obtain⟨i,J,bo,U',hi,rfl,rfl,rfl,N,Wx,hM,Wn,Xc⟩:=hrel;have HM:=aJ hM;clear hM;by_cases Wj:i<n+2
   .obtain⟨x,hx,D,K,XQ⟩:=Wn.at_ (k:=j+i) (by have:=HM.o.1;have:=WX.o;omega);obtain⟨y,hy⟩:∃y,v[i]? =γ y:=⟨_,ν (by rw[Xo.o];exact Wj)⟩;have l:=Xy.at_ hy;have WP:=X5.o i y hy wr Xc;have WY:U[j+i]? =γ x:=by rw[<-HM.o.2.2.1 _ (κ _)];exact hx
    obtain⟨tp,Ww⟩:∃tp,tp=g*y:=⟨_,rfl⟩;have XP:tp<=18446744065119617025:=by rw[Ww];exact yX Yf l
    have e1:IntKind.u64.wrap ((g:Int)*(y:Int))=(tp:Int):=by rw[abF _ (by rw[show((g:Int)*(y:Int))=((g*y:Nat):Int) by simp,<-Ww];omega),Ww];simp
    obtain⟨p,hp⟩:∃p,p=tp+J:=⟨_,rfl⟩;have e2:(tp:Int)+(J:Int)=(p:Int):=aa;have Q:p<18446744073709551616:=aa;have e3:(p:Int)%4294967296=((p%4294967296:Nat):Int):=aa;have Xm:p%4294967296<4294967296:=Ab _ aa;have e4:(p:Int)/4294967296=((p/4294967296:Nat):Int):=aa;have Yz:p/4294967296<4294967296:=aa;have HS:=aJ (HM.step WY hy D Wx (p:=p) (by rw[hp,Ww]));generalize p%4294967296=pl at*
    generalize p/4294967296=ph at*
    have I:=aJ Wn;clear Wn hx hy WY Ww hp;go_wp2_with fail
    go_roundw
    case rel=>
     refine⟨i+1,ph,oQ ((x:Int)-bo-pl),_,aa,au,rfl,by rw[NQ D Xm Wx],Yz,yL _,HS.o,I.set (Qi D Xm Wx) (ze _),Xc.trans (Only.set _ _ _ _)⟩
    case measure=>simp[intOf]<;>omega
   .obtain rfl:i=n+2:=aa;obtain⟨x,hx,D,K,XQ⟩:=Wn.at_ (k:=j+n+2) (by have:=HM.o.1;have:=WX.o;omega);have WY:U[j+(n+2)]? =γ x:=by rw[<-HM.o.2.2.1 _ (κ _)];exact hx
    have Xg:=Ro HM.o Xo.o WY D N Wx;obtain⟨z,H,Ym,Wt,Wl,Xn⟩:=Us D N Wx;have Xw:=ze ((x:Int)-bo-J);have Xk:=yL ((x:Int)-bo-J);generalize qA ((x:Int)-bo-J)=dg at*
    generalize oQ ((x:Int)-bo-J)=WV at*
    have F:jT (wr.setCell ⟨gU,j+n+2,δ⟩ (.int .u32 ((z:Int)%4294967296))) gU (U'.set (j+(n+2)) dg):=Wn.set (k:=j+n+2) Wt Xw;have XJ:(U'.set (j+(n+2)) dg).length=U.length:=by rw[abt];exact HM.o.1
    have X7:(U'.set (j+(n+2)) dg).take j=U.take j:=by rw[abW aa];exact HM.o.2.1
    have XK:∀t,j+(n+3)<=t->(U'.set (j+(n+2)) dg)[t]? =U[t]? :=fun t ht=>by rw[aav aa];exact HM.o.2.2.1 _ aa
    have X9:(U'.set (j+(n+2)) dg)[j+(n+2)]? =γ dg:=by rw[abx (by rw[HM.o.1];have:=WX.o;omega)]
    have Wm:=PX WJ.o F.2 XJ XK;have HX:=aJ F;have Xp:=aJ XJ;have Yd:=aJ X7;have W9:=aJ XK;have YH:=aJ X9;have XC:=aJ Xg;have XV:=aJ Wm;have WK:=aJ Wt;generalize U'.set (j+(n+2)) dg=X at*
    have XU:=Xc.trans (Only.set wr gU (j+n+2) (.int .u32 ((z:Int)%4294967296)));clear F XJ X7 XK X9 Xg Wm Wt hx WY Wn;rcases(show g=qd\/g=qd+1 by omega) with WZ|WZ
    .have WE:WV=0:=OX (m:=j+(n+2)+1) (q:=g) (V:=val v) XC.o XV.o (by rw[WZ];exact OY (by have:=WX.o;omega) WC.o);have YA:=Wl WE;have Z:=aJ WE;have YK:=aJ WZ;have Yq:(z:Int)/9223372036854775808=0:=aa;have Yo:z/9223372036854775808=0:=aa;clear Wl Xn WE WZ;(go_wp2_with fail);go_ret;refine⟨aO (by rw[<-Xv.o,YK.o]),X,HX.o,Xp.o,Yd.o,?_,(afi M).trans XU⟩;have h1:=XC.o;rw[Z.o,YK.o,Nat.mul_zero,Nq,qb qd] at h1;rw[<-Xv.o];exact h1
    .have Wz:WV=1:=SH (U:=U) (X:=X) (j:=j) (m:=j+(n+2)+1) (q:=g) (V:=val v) XC.o Xk (by rw[WZ];exact seg_lt hU.2 (by have:=WX.o;omega) WQ.o);have YA:=Xn Wz;have G:=aJ Wz;have YK:=aJ WZ;have Yq:(z:Int)/9223372036854775808=1:=aa;have Yo:z/9223372036854775808=1:=aa;clear Wl Xn Wz WZ;(go_wp2_with fail);have W:=aJ XU;clear XU;generalize Yp:wr.setCell ⟨gU,j+n+2,δ⟩ (.int .u32 ((z:Int)%4294967296))=w2 at*
     clear Yp;go_loopw [10,128] (fun cv iv wr=>∃(i J:Nat) (Y:List Nat),i<=n+2/\iv=.int .i64 i/\cv=.int .u64 (J:Int)/\J<=1/\Fz X Y v j i J/\jT wr gU Y/\Only gU wc wr) (fun _ iv _=>n+2-(intOf iv).toNat)
     case atStart=>exact⟨0,0,X,aa,rfl,rfl,aa,afE _ _ _,HX.o,W.o⟩
     case round=>
      rename_i Ya _ _ _ _ _
      obtain⟨i,P,Y,WM,rfl,rfl,XZ,Xd,Wn,Xc⟩:=hrel;have Wy:=aJ Xd;clear Xd;by_cases Wu:i<n+2
      .obtain⟨x',Wp,Yw,XE,YD⟩:=Wn.at_ (k:=j+i) (by have:=Wy.o.1;have:=Xp.o;have:=WX.o;omega);obtain⟨y,hy⟩:∃y,v[i]? =γ y:=⟨_,ν (by rw[Xo.o];exact Wu)⟩;have l:=Xy.at_ hy;have WP:=X5.o i y hy _ Xc;have WY:X[j+i]? =γ x':=by rw[<-Wy.o.2.2.1 _ (κ _)];exact Wp
       have HS:=aJ (Wy.step WY hy (s:=x'+y+P) rfl);have I:=aJ Wn;have f1:(i:Int)<(n:Int)+2:=aa;have f2:(i:Int)<(n:Int)+3:=aa;clear Wn Wp hy WY;(go_wp2_with fail);go_quiet (fail);go_wp2_with fail
       go_roundw
       case rel=>
        refine⟨i+1,(x'+y+P)/4294967296,_,aa,au,au,aa,HS.o,jT.set (I.drewN _) aa (Ab _ aa),(Xc.trans (afi ((Ext.refl _).drewN _))).trans (Only.set _ _ _ _)⟩
       case measure=>simp[intOf]<;>omega
      .obtain rfl:i=n+2:=aa;obtain⟨dd,WO,XM,XB,XX⟩:=Wn.at_ (k:=j+n+2) (by have:=Wy.o.1;have:=Xp.o;have:=WX.o;omega);have X6:X[j+(n+2)]? =γ dd:=by rw[<-Wy.o.2.2.1 _ (κ _)];exact WO
       have YL:∀z:Int,z=((dd+P)%4294967296:Nat)->jT (wr.setCell ⟨gU,j+n+2,δ⟩ (.int .u32 z)) gU (Y.set (j+(n+2)) ((dd+P)%4294967296)):=fun z hz=>Wn.set (k:=j+n+2) hz (Ab _ aa);have Wq:=aJ YL;have Xg:=XC.o;rw[G.o,aar,YK.o] at Xg;have XI:(Y.set (j+(n+2)) ((dd+P)%4294967296)).length=U.length:=by rw[abt,Wy.o.1];exact Xp.o
       have XY:(Y.set (j+(n+2)) ((dd+P)%4294967296)).take j=U.take j:=by rw[abW aa,Wy.o.2.1];exact Yd.o
       have Yi:∀t,j+(n+3)<=t->(Y.set (j+(n+2)) ((dd+P)%4294967296))[t]? =U[t]? :=fun t ht=>by rw[aav aa,Wy.o.2.2.1 _ aa];exact W9.o t ht
       have Xb:=Tc (q:=qd) (V:=val v) Xg Wy.o Xo.o rfl X6 (PX WJ.o (YL _ rfl).2 XI Yi) (OY (by have:=WX.o;omega) WC.o) XM XZ;have XA:=aJ Xb;have Yn:=aJ XI;have Yr:=aJ XY;clear YL Xg XI XY Yi Xb X6 WO Wn;have Xl:1<=g:=by rw[YK.o];omega
       (go_wp2_with fail);go_ret;refine⟨aO (by rw[<-Xv.o];have:=YK.o;omega),_,Wq.o _ aa,Yn.o,Yr.o,?_,((afi M).trans Xc).trans (Only.set _ _ _ _)⟩;rw[<-Xv.o,qb (val v)];exact XA.o
theorem SX{x}(F:0<x)(C:x<4294967296):∃s:Nat,s<32/\32-(Lib.bitLen x:Int)=(s:Int)/\2147483648<=x*2^s/\x*2^s<4294967296:=by
 obtain⟨D,j,B⟩:=Lib.bitLenAux_bounds 64 x aa aa;have l:=Lib.bitLen_le x 32 aa C;unfold Lib.bitLen at l⊢;generalize Lib.bitLenAux 64 x=L at*
 obtain⟨t,rfl⟩:∃t,L=t+1:=⟨L-1,aa⟩;refine⟨31-t,aa,aa,?_,?_⟩
 .have H:2^t*2^(31-t)<=x*2^(31-t):=Aa _ (by simpa using j);rw[<-aaJ,show t+(31-t)=31 by omega] at H;exact H
 .have H:x*2^(31-t)<2^(t+1)*2^(31-t):=aa5 B (aah aa);rw[<-aaJ,show t+1+(31-t)=32 by omega] at H;exact H
def LF(A B n m c d a b w)(l:RM w A n c (dV a))(O:RM w B m d (dV b))(j:a<b)(hn:n<=1000000):
  Calls prog 204 #[.slice A n c,.slice B m d] w fun e w'=>∃q r,e=.returned (.tuple #[q,r])/\SlM (dV (a/b)) q w'/\SlM (dV (a%b)) r w'/\Ext w w':=by
 have D:decide (qH a b<0)=ε:=by rw[vG];exact pq j
 go_enter adN,ads;(go_wp2_with fail);refine(iq A B n m c d _ _ _ l O (eu _) (eu _)).mono ?_;rintro e w1 ⟨rfl,H⟩;rw[bD,bD];(go_wp2_with (at_builtin;refine kL Bb rfl (.const (.slice δ 0 0)) (.tmp 16) rfl w1.heap.size _ 0 [] rf (aaA _ _ _ _) _ n _ (mg (dV a)) rf (l.ext H).rd IV aa aa aa ?_));intro I w2 C F;have P:=jW F (Ext.refl _) (by simp[Value.ownBlock]);have G:=aJ C;clear C;go_wp2
 go_ret2
 refine⟨_,_,rfl,⟨δ,0,0,rfl,?_⟩,?_,H.trans P⟩
 .rw[acW j,iQ];exact aff
 .rw[acf j];exact afO (by simpa using G.o) (tL _)
def H6(A B la n c d a b w)(hA:RM w A la c (dV a))(O:RM w B (n+2) d (dV b))(Ws:b<=a)(Xu:la<=10000):
  Calls prog 204 #[.slice A la c,.slice B (n+2) d] w fun e w'=>∃q r,e=.returned (.tuple #[q,r])/\SlM (dV (a/b)) q w'/\SlM (dV (a%b)) r w'/\Ext w w':=by
 have WN:decide (qH a b<0)=ζ:=by rw[vG];exact Γ aa
 have XA:=aJ hA.len;have XJ:=O.len;have Wz:n+2<=la:=by
  have h1:=kK (n:=b) (k:=la) (nH Ws (il (by have:=XA.o;omega)));omega
 obtain⟨R,x,rfl,_,hx,D,_⟩:=O.at_ (k:=n+1) aa;have G:0<x:=by
  have:=eu b x (last_at XJ hx);omega
 have HX:=aJ hx;clear hx;have WF:=aJ XJ;clear XJ;have t1:(((n+2:Nat):Int)==1)=ζ:=ae;have t2:((n:Int)+2==1)=ζ:=ae;go_enter adN,ads;(go_wp2_with fail);refine(iq A (γ R) la (n+2) c d _ _ _ hA O (eu _) (eu _)).mono ?_;rintro e w1 ⟨rfl,H⟩;rw[bD,bD];obtain⟨I,Wy⟩:=(O.ext H).VA HX.o;(go_wp2_with fail);obtain⟨s,hs,Xg,WK,WV⟩:=SX G D;refine(bits_LeadingZeros32 (x:Int) _ aa aa).mono ?_;rintro e wz ⟨rfl,WS⟩;rw[WS];clear WS;rw[I6,Xg];clear Xg;have hN:H9 b n s x:=⟨WF.o,HX.o,WK,WV,hs⟩;have HN:=aJ hN;clear hN;clear I Wy;(go_wp2_with fail);refine(uK A la c s (dV a) _ (hA.ext H) aa aa).mono ?_;rintro e w2 ⟨rfl,U,hU,F,Wj,P⟩;rw[bD] at Wj;(go_wp2_with fail);refine(uK (γ R) (n+2) d s (dV b) _ (O.ext (H.trans P)) aa aa).mono ?_;rintro e w3 ⟨rfl,Q,hQ,Wu,WE,Wl⟩;rw[bD] at WE;obtain⟨hV,v1,v0,Wv,Xa,Xv⟩:=HN.digits Wu hQ.2 WE;have Xj:n+2<=n+2+1:=aa;have q1:(0:Int)<=(n:Int)+2:=aa;have Xt:=nT ((la:Int)-((n:Int)+2)+1) (la-n-1) aa aa;(go_wp2_with fail);clear Xt;obtain⟨V,WB⟩:∃V,V=val (Q.take (n+2)):=⟨_,rfl⟩;have Wn:V=b*2^s:=by rw[WB,hV]
 have S:0<V:=by
  have h1:=HN.ge;have h2:0<4294967296^(n+1):=aah aa;have h3:0<2147483648*4294967296^(n+1):=Nat.mul_pos aa h2;omega
 have Xe:V<4294967296^(n+2):=by rw[Wn];exact HN.lt
 have WG:jT (w3.alloc (.cells (mg (List.replicate (la-n-1) 0)).toArray 208)) w1.heap.size U:=hU.far (Wl.alloc _);have Xi:jT (w3.alloc (.cells (mg (List.replicate (la-n-1) 0)).toArray 208)) w2.heap.size Q:=hQ.far (Ext.new _ _);have Wm:qh U [] (a*2^s) V (la-n-1):=by
  refine afC Wj ?_;rw[Wn];exact PP Wj (il (by rw[XA.o];exact κ _)) (by have:=Ij WF.o aa;simpa using this) aa aa
 have Wx:=aJ WB;have Xk:=aJ Wn;clear WB Wn hV Wj WE;have Y:=P.size;have XW:=Wl.size;have Xy:=hU.1.lt;have Xz:=hQ.1.lt;have l:=aJ F;have WJ:=aJ Wu;have WA:=aJ Wv;have Yv:=aJ Xa;have Wp:=aJ Wm;clear Wm F Wu Wv Xa;have WQ:=aJ WG;have Xn:=aJ Xi;clear WG Xi hU hQ;have N:Ext w w3:=(H.trans P).trans Wl;go_loopw [11] (fun iv wr=>∃(k:Nat) (U qs:List Nat),k<=la-n-1/\iv=.int .i64 ((k:Int)-1)/\U.length=la+1/\k+qs.length=la-n-1/\qh U qs (a*2^s) V k/\jT wr w1.heap.size U/\jT wr w2.heap.size Q/\jT wr w3.heap.size (List.replicate k 0++qs)/\Ext w wr) (fun iv _=>(intOf iv+1).toNat)
 case atStart=>exact⟨la-n-1,U,[],κ _,by congr 1;omega,l.o,ag,Wp.o,WQ.o,Xn.o,⟨by simpa using Blk.new w3 _ _,by simpa using Dig.replicate _⟩,N.alloc _⟩
 case round=>
  clear WQ Xn Wp l;obtain⟨k,U,qs,hk,rfl,F,W9,WM,hU,hQ,hq,M⟩:=hrel;have l:=aJ F;clear F;have Xl:=aJ W9;clear W9;have W:=aJ WM;clear WM;by_cases h0:k=0
  .subst h0;have Z:=W.done;have WO:=aJ Z;clear Z;have Xo:RM wr (γ ⟨w3.heap.size,0,δ⟩) (la-n-1) (la-n-1) qs:=by
    have h1:jT wr w3.heap.size qs:=by simpa using hq
    exact h1.rm AcQ aa
   have Xr:RM wr (γ ⟨w1.heap.size,0,δ⟩) (n+2) (n+2) (U.take (n+2)):=(hU.rm (n:=la+1) l.o aa).take aa aa aa;go_wp2;have q2:(0:Int)<=(n:Int)+2:=aa;have q3:(n:Int)+2<=(la:Int)+1:=aa;refine bQ 9 [(ε,0),(ε,2),(ε,3),(ε,4),(ε,5),(ε,6),(ζ,1),(ζ,7),(ε,8)] ah ah ?_;refine aV [0,2,3,4,5,6] [(ζ,1),(ζ,7),(ε,8)] _ ah ?_;simp only[cZ,aZ,ξ,ο];(repeat (go_big_quiet_step (fail)));refine τ ?_;refine aT 1 [(ζ,7),(ε,8)] ah ?_;intro K J;simp only[aZ];(go_wp2_with fail);refine(jK _ _ _ qs _ (Xo.ext (Ext.refl wr).drew)).mono ?_;rintro e wa ⟨va,rfl,YB,Yt⟩;have Yt:=Yt.qm;go_wp2;refine J _ _ ⟨⟨wa,Yt⟩,rfl⟩ ?_;clear J K;refine aT 7 [(ε,8)] ah ?_;intro K J;simp only[aZ];(go_wp2_with fail);refine(Bj _ (n+2) _ s (U.take (n+2)) _ (Xr.ext Yt) aa aa).mono ?_;rintro e wb ⟨vb,rfl,WZ,WY⟩;have Wq:=Yt.trans WY;go_wp2;refine J _ _ ⟨⟨wb,Wq⟩,rfl⟩ ?_;clear J K;refine aV [8] [] _ ah ?_;simp only[cZ,aZ,ξ,ο];(repeat (go_big_quiet_step (fail)));refine τ ?_;simp only[bT,ρ,χ];have WX:val qs=a/b:=by rw[WO.o.1,Xk.o,Ji]
   have Xm:val (U.take (n+2))/2^s=a%b:=by
    have h1:=WO.o.2;rw[Xk.o,Jk] at h1;rw[S9 hU.2 (by rw[l.o];omega),h1,Nat.mul_div_cancel _ (aah aa)];have h2:=W.o.2;rw[χ] at h2;omega
   rw[WX] at YB;rw[Xm] at WZ;have Xp:=aJ (YB.ext WY);have Xw:=aJ WZ;clear YB WZ WX Xm;go_wp2
   go_ret2
   exact⟨_,_,rfl,Xp.o,Xw.o,M.trans Wq⟩
  .obtain⟨j,rfl⟩:∃j,k=j+1:=⟨k-1,aa⟩;rw[show((j+1:Nat):Int)-1=(j:Int) by omega];have WU:RM wr (γ ⟨w2.heap.size,0,δ⟩) (n+2) (n+2) (Q.take (n+2)):=(hQ.rm (n:=n+3) WJ.o aa).take aa aa aa;have q2:(0:Int)<=(j:Int):=aa;have q3:(j:Int)<=(j:Int)+((n:Int)+2)+1:=aa;have q4:(j:Int)+((n:Int)+2)+1<=(la:Int)+1:=aa;have T:((j:Int)+((n:Int)+2)+1-(j:Int)).toNat=n+3:=aa;(go_wp2_with fail);rw[show j+(n+2)+1-j=n+3 by omega];refine(D7 (γ ⟨w2.heap.size,0,δ⟩) w1.heap.size j n _ _ v1 U (Q.take (n+2)) _ hU WU (fun R e=>by cases e;simp;omega) aa aa (by rw[l.o];omega) aa aa WA.o Xv (by rw[<-Wx.o];exact W.o.2)).mono ?_;rintro e w5 ⟨rfl,U',Xb,L,Wt,C,Xc⟩;rw[<-Wx.o] at C;rw[<-Wx.o];have Xh:val (U.drop j)/V<4294967296:=by
    rw[aaW S];obtain⟨xj,Ww⟩:∃xj,U[j]? =γ xj:=⟨_,ν (by rw[l.o];omega)⟩;exact Kw hU.2 Ww W.o.2
   obtain⟨qd,WH⟩:∃qd,qd=val (U.drop j)/V:=⟨_,rfl⟩;rw[<-WH] at C Xh;rw[<-WH];have WC:jT w5 w3.heap.size (List.replicate (j+1) 0++qs):=⟨Xc.blk hq.1 aa,hq.2⟩;have Xf:jT w5 w2.heap.size Q:=⟨Xc.blk hQ.1 aa,hQ.2⟩;obtain⟨z,_,_,Wo,WI⟩:=WC.at_ (k:=j) ae;have Xd:=W.step (by rw[l.o];omega) L Wt C WH S;have WR:=aJ Xd;have WP:=aJ Xb;have WT:=aJ Xf;have Xq:=aJ WC;have WL:=aJ L;clear Xd Xb Xf WC L Wt C hU WU hQ hq WH;have Xx:=M.size;have WW:Ext w w5:=Xc.ext M (by have:=H.size;omega);have q6:(j:Int)<((la-n-1:Nat):Int):=aa;go_wp2;go_roundw
   case rel=>
    refine⟨j,U',qd::qs,aa,au,by rw[WL.o,l.o],by have:=Xl.o;simp;omega,WR.o,?_,?_,?_,WW.setCell N.size _⟩
    .exact⟨WP.o.1.far ae _,WP.o.2⟩
    .exact⟨WT.o.1.far ae _,WT.o.2⟩
    .have h1:=Xq.set (k:=j) (d:=qd) rfl Xh;rwa[Tj] at h1
   case measure=>simp[intOf]<;>omega
def IC(A B n c d a b w)(hA:RM w A n c (dV a))(O:RM w B 1 d (dV b))(Ws:b<=a)(hn:n<=1000000):
  Calls prog 204 #[.slice A n c,.slice B 1 d] w fun e w'=>∃q r,e=.returned (.tuple #[q,r])/\SlM (dV (a/b)) q w'/\SlM (dV (a%b)) r w'/\Ext w w':=by
 have WN:decide (qH a b<0)=ζ:=by rw[vG];exact Γ aa
 obtain⟨R,x,rfl,_,hx,D,K⟩:=O.at_ (k:=0) aa;have Z:=O.len;have M:dV b=[x]:=by
  match hd:dV b,Z,hx with
  |[y],_,h=>simp at h;rw[h]
 have hb:b=x:=by rw[<-bD b,M];simp[val]
 subst hb;have T:0<b:=by
  rcases Na b with h|h
  .subst h;rw[iQ] at Z;simp at Z
  .exact h
 have XA:=aJ hA.len;have HC:=aJ K;clear K hx Z M;go_enter adN,ads;(go_wp2_with fail);refine(iq A (γ R) n 1 c d _ _ _ hA O (eu _) (eu _)).mono ?_;rintro e w1 ⟨rfl,H⟩;rw[bD,bD];(go_wp2_with (at_builtin;refine kL Bb rfl (.const (.slice δ 0 0)) (.tmp 22) rfl w1.heap.size _ 0 [] rf (aaA _ _ _ _) _ n _ (mg (dV a)) rf (hA.ext H).rd IV aa aa aa ?_));intro v2 w2 ho hg;have P:=jW hg (Ext.refl _) (by simp[Value.ownBlock]);have N:=H.trans P;rcases agz ho (tL _) with ⟨_,h1,h2⟩|⟨g,F,r,rfl,Ye,Wn,C,l⟩
 .exfalso;rw[oL] at h2;omega
 .clear ho hg;have I:w2.cell? R=γ (.int .u32 (b:Int)):=N.cell_ HC.o;(go_wp2_with fail);refine(Gn g n F b (dV a) r _ Wn XA.o hn T D).mono ?_;rintro e w3 ⟨rfl,q,hq,V,j,Xc⟩;rw[bD] at j;rw[bD];have Wl:Ext w w3:=Xc.ext N (nk H.size Ye);have U:a%b<4294967296:=acY (Ab _ T) D;generalize hr:a%b=rr at*
  have WP:=aJ hr;clear hr;have L:=aJ j;clear j;have G:=hq.rm V C l;have WJ:=aJ V;clear V;(go_wp2_with fail);refine(jK _ n F q _ G).mono ?_;rintro e w4 ⟨v4,rfl,W,Q⟩;rw[L.o] at W;(go_wp2_with fail);refine(jK _ 1 1 [rr] _ (RM.blk (Blk.new _ _ _) (Dig.one U) rfl aa)).mono ?_;rintro e w5 ⟨v5,rfl,Y,S⟩;have J:=W.ext ((Ext.new w4 _).trans S);go_wp2
  go_ret2
  refine⟨_,_,rfl,J,by rw[WP.o];simpa[val] using Y,(Wl.trans Q).trans ((Ext.new w4 _).trans S)⟩
def BN(A B n m c d a b w)(j:RM w A n c (dV a))(O:RM w B m d (dV b))(hb:0<b)(hn:n<=10000):
  Calls prog 204 #[.slice A n c,.slice B m d] w fun e w'=>∃q r,e=.returned (.tuple #[q,r])/\SlM (dV (a/b)) q w'/\SlM (dV (a%b)) r w'/\Ext w w':=by
 rcases aab a b with h|h
 .exact LF A B n m c d a b w j O h aa
 .match m,O with
  |0,O=>
   have l:=O.empty;rw[oL] at l;omega
  |1,O=>exact IC A B n c d a b w j O h aa
  |k+2,O=>exact H6 A B n k c d a b w j O h hn
def PW{x y q r}(l:y≠0)(h:q*y+r=x)(j:0<=r)(C:r<(y.natAbs:Int)):x/y=q/\x%y=r:=by
 rcases Int.lt_or_lt_of_ne l with hn|hp
 .have B:(-y)*(-q)+r=x:=by rw[Int.neg_mul_neg,acU];exact h
  have:=(adn (a:=x) (b:= -y) (q:= -q) (r:=r) aa).2 ⟨aa,j,aa⟩;rw[Int.ediv_neg,Int.emod_neg] at this;exact⟨aa,this.2⟩
 .exact(adn hp).2 ⟨by rw[acU] at h;omega,j,aa⟩
theorem Fs(z):zOf (decide (z<0)) z.natAbs=z:=by
 unfold zOf;by_cases h:z<0
 .simp[h];omega
 .simp[h];omega
def FP(a b m n):zOf a m*zOf b n=zOf (a !=b) (m*n):=by
 cases a<;>cases b<;>simp[zOf,Int.neg_mul,Int.mul_neg]
theorem EK{x y}(B:y≠0)(h:x<0->x.natAbs%y.natAbs=0):x/y=zOf (decide (x<0) !=decide (y<0)) (x.natAbs/y.natAbs)/\x%y=((x.natAbs%y.natAbs:Nat):Int):=by
 have hp:0<y.natAbs:=aa;have C:=abr x.natAbs y.natAbs;have D:=Ab x.natAbs hp;refine PW B ?_ aa aa;have e:zOf (decide (x<0) !=decide (y<0)) (x.natAbs/y.natAbs)*y=zOf (decide (x<0)) (x.natAbs/y.natAbs*y.natAbs):=by
  have l:=FP (decide (x<0) !=decide (y<0)) (decide (y<0)) (x.natAbs/y.natAbs) y.natAbs;rw[Fs] at l;rw[l];congr 1;cases decide (x<0)<;>cases decide (y<0)<;>rfl
 rw[e];rw[qb] at C;generalize x.natAbs/y.natAbs*y.natAbs=t at*
 unfold zOf;by_cases j:x<0
 .have:=h j;simp[j];omega
 .simp[j];omega
theorem ET{x y}(l:y≠0)(C:x<0)(h:0<x.natAbs%y.natAbs):x/y=zOf (decide (x<0) !=decide (y<0)) (x.natAbs/y.natAbs+1)/\x%y=((y.natAbs-x.natAbs%y.natAbs:Nat):Int):=by
 have hp:0<y.natAbs:=aa;have B:=abr x.natAbs y.natAbs;have D:=Ab x.natAbs hp;refine PW l ?_ aa aa;have e:zOf (decide (x<0) !=decide (y<0)) (x.natAbs/y.natAbs+1)*y=zOf (decide (x<0)) ((x.natAbs/y.natAbs+1)*y.natAbs):=by
  have j:=FP (decide (x<0) !=decide (y<0)) (decide (y<0)) (x.natAbs/y.natAbs+1) y.natAbs;rw[Fs] at j;rw[j];congr 1;cases decide (x<0)<;>cases decide (y<0)<;>rfl
 rw[e,aaa,aay];rw[qb] at B;generalize x.natAbs/y.natAbs*y.natAbs=t at*
 unfold zOf;simp[C];omega
def LG{x y:Int}(j:y≠0)(D:x<0)(h:0<x.natAbs%y.natAbs):x.natAbs/y.natAbs+1<=x.natAbs:=by
 have hp:0<y.natAbs:=aa;have B:=abr x.natAbs y.natAbs;have l:=Ab x.natAbs hp;have C:1*(x.natAbs/y.natAbs)<=y.natAbs*(x.natAbs/y.natAbs):=Aa _ hp;omega
def UQ (q r e:Int) (v:Value) (w:World):Prop:=∃a b,v=.tuple #[a,b,.int .i64 e]/\RI w a q/\RI w b r

section
variable {w w1:World} {x y r s:Obj} {cs:Array Value} {t:TypeId}
def LQ(j:Ext ((((w.alloc x).alloc y).alloc r).alloc s) w1):Ext w w1:=((((Ext.new w _).alloc _).alloc _).alloc _).trans j
def JV(j:Ext ((((w.alloc (.cells cs t)).alloc y).alloc r).alloc s) w1):Blk w1 w.heap.size t cs:=((((Blk.new w t cs).alloc _).alloc _).alloc _).ext j
def GG(j:Ext ((((w.alloc x).alloc (.cells cs t)).alloc r).alloc s) w1):Blk w1 (w.heap.size+1) t cs:=(((aeE t cs ag).alloc _).alloc _).ext j
def Tt(j:Ext ((((w.alloc x).alloc y).alloc (.cells cs t)).alloc s) w1):Blk w1 (w.heap.size+2) t cs:=((aeE t cs ag).alloc _).ext j
def Ty(j:Ext ((((w.alloc x).alloc y).alloc r).alloc (.cells cs t)) w1):Blk w1 (w.heap.size+3) t cs:=(aeE t cs ag).ext j
end
def K9{x y:Int}(D:x.natAbs<lim):x.natAbs/y.natAbs<lim:=nH (Nat.div_le_self _ _) D
def SC{x y:Int}(D:x.natAbs<lim):x.natAbs%y.natAbs<lim:=nH (Nat.mod_le _ _) D
def ul{s k z}(h:z=zOf s k)(j:k<lim):uC (zOf s k)=(z,0):=by rw[uy (by rw[DY];exact j),h]
def qY{k n}(h:(dV k).length=n):0<n↔0<k:=by
 rcases Na k with j|j
 .subst j;rw[iQ] at h;simp at h;omega
 .have:dV k≠[]:=fun e=>by rw[oL] at e;omega
  have:=acr.2 this;omega
def Mq(v u x y w)(F:RI w v x)(l:RI w u y)(D:x.natAbs<lim)(L:y.natAbs<lim)(Wo:y≠0):
  CV 195 #[v,u] w fun v w'=>UQ (x/y) (x%y) 0 v w':=by
 have WA:=aJ (aeP F D);have V:=aJ (aeP l L);obtain⟨A,n,c,rfl,hx⟩:=F;obtain⟨B,m,d,rfl,hy⟩:=l;have hn:=hx.uF D;have hm:=hy.uF L;have W9:0<m:=(qY hy.len).2 aa;have t1:((m:Int)==0)=ζ:=ae;have t2:(m==0)=ζ:=ae;generalize WJ:decide (x<0)=sx at*
 generalize WE:decide (y<0)=sy at*
 have Ww:=aJ WJ;have WK:=aJ WE;clear WJ WE;go_enter func195,ntmps195;(go_wp2_with fail);refine(gF _ A n c _ _ (hx.ext ((((Ext.new w _).alloc _).alloc _).alloc _))).mono ?_;rintro e w1 ⟨rfl,H⟩;rw[WA.o];have c0:=(JV H).cell;have c1:=(GG H).cell;(go_wp2_with fail);refine(gF _ B m d _ _ (hy.ext (LQ H))).mono ?_;rintro e w2 ⟨rfl,P⟩;rw[V.o];clear c0 c1;have P:=H.trans P;have c0:=(JV P).cell;have c1:=(GG P).cell;(go_wp2_with fail);refine(BN A B n m c d x.natAbs y.natAbs _ (hx.ext (LQ P)) (hy.ext (LQ P)) aa aa).mono ?_;rintro e w3 ⟨q,r,rfl,⟨Aq,nq,cq,rfl,hQ⟩,⟨Ar,nr,cr,rfl,hR⟩,Wl⟩;clear c0 c1;have Wl:=P.trans Wl;have c0:=(JV Wl).cell;have c1:=(GG Wl).cell;have Wu:=qY hR.len;by_cases O:sx=ε/\0<nr
 .obtain⟨rfl,WG⟩:=O;have G:x<0:=abf Ww.o;have T:=Wu.1 WG;have Xm:=ET (x:=x) (y:=y) Wo G T;rw[Ww.o,WK.o] at Xm;have XL:=aJ Xm;clear Xm;have WC:=aJ (LG Wo G T);have YE:nq<=400:=by have:=hQ.len;have:=tZ (K9 (y:=y) D);omega
  have U:=Ab x.natAbs (show 0<y.natAbs by omega);have WI:nr<=m:=by
   have h1:=hR.len;have h2:=kK (n:=x.natAbs%y.natAbs) (k:=m) (acY U (il (by rw[hy.len];exact κ _)));omega
  have WP:(0:Int)<(nr:Int):=aa;have WH:=aJ U;clear U G T Wu;(go_wp2_with fail);refine(zN Aq _ nq 1 cq 1 _ [1] _ (hQ.ext (Ext.new w3 _)) (RM.blk (Blk.new _ _ _) (Dig.one aa) rfl aa) aa aa).mono ?_;rintro e w4 ⟨v4,rfl,⟨Aq,nq,cq,rfl,hQ⟩,Q⟩;rw[bD,show val [1]=1 from rfl] at hQ;have Wp:=(Ext.new w3 _).trans Q;have W:=hR.ext Wp;have Q:=Wl.trans Wp;clear c0 c1 hR;have c1:=(GG Q).cell;(go_wp2_with fail);refine(uP B Ar m nr d cr _ _ _ (hy.ext (LQ Q)) W aa WI (by rw[bD,bD];exact aaH WH.o)).mono ?_;rintro e w5 ⟨v5,rfl,⟨Ar,nr,cr,rfl,hR⟩,S⟩;rw[bD,bD] at hR;have hQ:=hQ.ext S;have S:=Q.trans S;clear c1;have c0:=(JV S).cell;have c1:=(GG S).cell;clear Q Wp;obtain⟨zq,Ws⟩:∃z,z=x/y:=⟨_,rfl⟩;obtain⟨N,Wm⟩:∃z,z=x%y:=⟨_,rfl⟩;(go_wp2_with fail);refine(gY _ Aq nq cq _ _ hQ).mono ?_;rintro e w4 ⟨v4,rfl,j,Q⟩;have WF:=aJ Ws;have Wj:=aJ Wm;clear Ws Wm;have Wv:=WF.trans XL.o.1;simp only[Bool.true_bne] at Wv;rw[bD,ul Wv (nH WC.o D)] at j;have Wn:=aJ Wv;clear Wv;obtain⟨u4,rfl,A4,n4,c4,rfl,Z⟩:=j;have W:=hR.ext Q;have Q:=S.trans Q;clear c0 c1;have b4:=Tt Q;have Wx:=b4.cell;have f4:=b4.frozen;obtain⟨C,k2,k3⟩:=ou (LQ Q) aa b4 (decide (zq<0)) A4 n4 c4;have Y:=k3 _ _ _ _ W;have M:=k3 _ _ _ _ Z;have b5:=((Ty Q).far (p:=⟨w.heap.size+2,0,δ⟩) ag (.bool (decide (zq<0)))).far (p:=⟨w.heap.size+2,1,δ⟩) ag (.slice A4 n4 c4);clear k3;have K1:=aJ C;have K2:=aJ k2;have Wq:=aJ M;have Xg:=aJ Y;have Wt:=aJ b5;clear C k2 M Y b5 Z W hQ hR;(go_wp2_with fail);refine(gY ζ Ar _ cr _ _ Xg.o).mono ?_;rintro e w6 ⟨v6,rfl,j,I⟩;rw[bD,ul (show N=zOf ζ _ from Wj.o.trans XL.o.2) (nH (Nat.sub_le _ _) L)] at j;exact Aah
 .have Xm:=EK (x:=x) (y:=y) Wo (fun h=>by
   have h1:sx=ε:=by rw[<-Ww.o];exact pq h
   have:¬0<nr:=fun h2=>O ⟨h1,h2⟩;rw[Wu] at this;omega)
  rw[Ww.o,WK.o] at Xm;have XL:=aJ Xm;clear Xm;have Xi:sx=ζ\/(sx=ε/\nr=0):=by
   cases sx
   .exact .inl rfl
   .simp at O;exact .inr ⟨rfl,aa⟩
  clear O Wu;rcases Xi with rfl|⟨rfl,rfl⟩
  all_goals
   obtain⟨zq,Ws⟩:∃z,z=x/y:=⟨_,rfl⟩;obtain⟨N,Wm⟩:∃z,z=x%y:=⟨_,rfl⟩;(go_wp2_with fail);refine(gY _ Aq nq cq _ _ hQ).mono ?_;rintro e w4 ⟨v4,rfl,j,Q⟩;have WF:=aJ Ws;have Wj:=aJ Wm;clear Ws Wm;have Wv:=WF.trans XL.o.1;simp only[Bool.false_bne,Bool.true_bne] at Wv;rw[bD,ul Wv (K9 D)] at j;have Wn:=aJ Wv;clear Wv;obtain⟨u4,rfl,A4,n4,c4,rfl,Z⟩:=j;have W:=hR.ext Q;have Q:=Wl.trans Q;clear c0 c1;have b4:=Tt Q;have Wx:=b4.cell;have f4:=b4.frozen;obtain⟨C,k2,k3⟩:=ou (LQ Q) aa b4 (decide (zq<0)) A4 n4 c4;have Y:=k3 _ _ _ _ W;have M:=k3 _ _ _ _ Z;have b5:=((Ty Q).far (p:=⟨w.heap.size+2,0,δ⟩) ag (.bool (decide (zq<0)))).far (p:=⟨w.heap.size+2,1,δ⟩) ag (.slice A4 n4 c4);clear k3;have K1:=aJ C;have K2:=aJ k2;have Wq:=aJ M;have Xg:=aJ Y;have Wt:=aJ b5;clear C k2 M Y b5 Z W hQ hR;(go_wp2_with fail);refine(gY ζ Ar _ cr _ _ Xg.o).mono ?_;rintro e w6 ⟨v6,rfl,j,I⟩;rw[bD,ul (show N=zOf ζ _ from Wj.o.trans XL.o.2) (SC D)] at j;exact Aah
def FD(a b:Nat)(w)(ha:a<18446744073709551616)(hb:b<18446744073709551616):
  CE 201 #[.int .u64 (a:Int),.int .u64 (b:Int)] w (.int .u64 ((Nat.gcd a b:Nat):Int)):=by
 go_enter func201,ntmps201;go_wp2_with fail
 go_loopw [0,1] (fun H bv wr=>∃p q:Nat,H=.int .u64 (p:Int)/\bv=.int .u64 (q:Int)/\p<18446744073709551616/\q<18446744073709551616/\Nat.gcd p q=Nat.gcd a b/\Ext w wr) (fun _ bv _=>(intOf bv).toNat)
 case atStart=>exact⟨a,b,rfl,rfl,ha,hb,rfl,Ext.refl _⟩
 case round=>
  obtain⟨p,q,rfl,rfl,hp,hq,C,M⟩:=hrel;have S:=aJ C;clear C;by_cases G:q=0
  .subst G;go_wp2;go_ret;exact⟨aO (by rw[<-S.o,Nat.gcd_zero_right]),M⟩
  .have l:0<q:=aa;have L:=Ab p l;have D:(p:Int)%(q:Int)=((p%q:Nat):Int):=ag;have B:=aJ (show Nat.gcd q (p%q)=Nat.gcd a b by rw[<-S.o,aa8 p q,Nat.gcd_rec q p,aa8]);have K:((q:Int) !=0)=ε:=ae;have I:(q !=0)=ε:=ae;have J:(q:Int)≠0:=aa;have F:=aJ D;clear D;generalize R:p%q=j at*
   clear R;(go_wp2_with fail);go_quiet (fail);go_wp2_with fail
   go_roundw
   case rel=>exact⟨q,j,rfl,by rw[F.o],hq,aa,B.o,M.drewN _⟩
   case measure=>simp only[intOf];rw[F.o];omega
def uI{k n}(h:(dV k).length=n)(hn:n<=2):k<18446744073709551616:=il (k:=2) aa
def JA(g):val [g%4294967296,g/4294967296]=g:=by simp only[val];omega
def UG(v u x y w)(F:RI w v x)(l:RI w u y)(D:x.natAbs<lim)(L:y.natAbs<lim):
  CV 177 #[v,u] w fun v w'=>vE ((Nat.gcd x.natAbs y.natAbs:Nat),0) v w':=by
 have WA:=aJ (aeP F D);have V:=aJ (aeP l L);obtain⟨A,n,c,rfl,hx⟩:=F;obtain⟨B,m,d,rfl,hy⟩:=l;go_enter func177,ntmps177;(go_wp2_with fail);refine(gF _ A n c _ _ (hx.ext (((Ext.new w _).alloc _).alloc _))).mono ?_;rintro e w1 ⟨rfl,H⟩;rw[WA.o];have c0:=(mX H).cell;have c1:=(ni H).cell;(go_wp2_with fail);refine(gF _ B m d _ _ (hy.ext (jH H))).mono ?_;rintro e w2 ⟨rfl,P⟩;rw[V.o];clear c0 c1;have P:=H.trans P;have c0:=(mX P).cell;have c1:=(ni P).cell;(go_wp2_with fail);go_quiet (fail);(go_wp2_with fail);clear c0 c1;go_loopg [6,7] y.natAbs (fun gk av bv wr=>∃A n c B m d p,av=.slice A n c/\bv=.slice B m d/\RM wr A n c (dV p)/\RM wr B m d (dV gk)/\p<lim/\gk<lim/\Nat.gcd p gk=Nat.gcd x.natAbs y.natAbs/\Ext w2 wr)
 case atStart=>exact⟨A,n,c,B,m,d,x.natAbs,rfl,rfl,hx.ext ((jH P).drewN _),hy.ext ((jH P).drewN _),D,L,rfl,(Ext.refl _).drewN _⟩
 case round=>
  clear hx hy;obtain⟨A',n',c',B',Y,d',p,rfl,rfl,hA,O,hp,hq,hg,M⟩:=hrel;have Wn:=hA.len;have YZ:=O.len;have Wq:n'<=400:=by have:=tZ hp;omega
  have W:Y<=400:=by have:=tZ hq;omega
  have Xa:=qY YZ;have S:=aJ hg;have XA:=aJ Wn;have WF:=aJ YZ;clear hg Wn YZ;by_cases h0:0<Y
  .have WN:=Xa.1 h0;have Wu:(0:Int)<(Y:Int):=aa;by_cases J:n'<=2/\Y<=2
   .obtain⟨Xh,WI⟩:=J;have Wp:(n':Int)<=2:=aa;have Ws:(Y:Int)<=2:=aa;have Wo:=uI XA.o Xh;have Wm:=uI WF.o WI;(go_wp2_with fail);refine(FY A' n' c' _ _ hA Xh).mono ?_;rintro e w4 ⟨rfl,rfl⟩;rw[bD];(go_wp2_with fail);refine(FY B' Y d' _ _ O WI).mono ?_;rintro e w5 ⟨rfl,rfl⟩;rw[bD];(go_wp2_with fail);refine(FD p gk _ Wo Wm).mono ?_;rintro e w6 ⟨rfl,I⟩;rw[S.o];have I:=(P.trans M).trans I;obtain⟨G,hG⟩:∃G,G=Nat.gcd x.natAbs y.natAbs:=⟨_,rfl⟩;have N:G<lim:=by rw[hG,<-S.o];exact nH (Nat.gcd_le_right _ WN) hq
    have Wt:G<18446744073709551616:=by rw[hG,<-S.o];exact nH (Nat.gcd_le_right _ WN) Wm
    rw[<-hG];have WB:=aJ hG;clear hG;have e1:(G:Int)%4294967296=((G%4294967296:Nat):Int):=aa;have e2:(G:Int)/4294967296=((G/4294967296:Nat):Int):=aa;have X9:Dig [G%4294967296,G/4294967296]:=by
     intro z hz;simp at hz;omega
    have Xv:=JA G;have Ww:G/4294967296<4294967296:=aa;generalize G%4294967296=g0 at*
    generalize G/4294967296=g1 at*
    have HV:=aJ Xv;clear Xv;(go_wp2_with fail);refine(gY ζ _ 2 2 [g0,g1] _ (RM.blk (Blk.new _ _ _) X9 rfl aa)).mono ?_;rintro e w7 ⟨v7,rfl,j,Wj⟩;obtain⟨Z,hZ⟩:∃Z:Int,Z=(G:Int):=⟨_,rfl⟩;rw[HV.o,ul (z:=Z) (hZ.trans (by simp[zOf])) N] at j;have HZ:=aJ hZ;clear hZ;obtain⟨u7,rfl,A2,n2,c2,rfl,hI⟩:=j;have Wl:=(I.trans (Ext.new w6 _)).trans Wj;exact AaA
   .have WQ:decide ((n':Int)<=2)=ζ\/(n'<=2/\decide ((Y:Int)<=2)=ζ):=by
     by_cases h:n'<=2
     .exact .inr ⟨h,by rw[aa2];omega⟩
     .exact .inl (by rw[aa2];omega)
    have Wv:=aJ J;clear J;have WB:=aJ (show Nat.gcd gk (p%gk)=Nat.gcd x.natAbs y.natAbs by rw[<-S.o,aa8 p gk,Nat.gcd_rec gk p,aa8]);have U:=Ab p WN;rcases WQ with WQ|⟨Xh,WQ⟩
    all_goals
     try have Wp:(n':Int)<=2:=aa
     (go_wp2_with fail);refine(BN A' B' n' Y c' d' p gk _ hA O WN aa).mono ?_;rintro e w4 ⟨q,r,rfl,⟨Aq,nq,cq,rfl,hQ⟩,⟨Ar,nr,cr,rfl,hR⟩,Q⟩;have T:=O.ext Q;go_wp2_with fail
     go_roundg (p%gk)
     case measure=>exact U
     case rel=>exact⟨B',Y,d',Ar,nr,cr,gk,rfl,rfl,T,hR,hq,acY U hq,WB.o,M.trans Q⟩
  .obtain rfl:Y=0:=aa;obtain rfl:gk=0:=by
    rcases Na gk with h|h
    .exact h
    .exact absurd (Xa.2 h) h0
   have R:p=Nat.gcd x.natAbs y.natAbs:=by rw[<-S.o,Nat.gcd_zero_right]
   obtain⟨G,hG⟩:∃G,G=p:=⟨_,rfl⟩;subst hG;have WB:=aJ R;clear R;have N:=hp;(go_wp2_with fail);refine(uh A' n' c' _ _ hA aa).mono ?_;rintro e w4 ⟨v4,rfl,⟨A4,n4,c4,rfl,K⟩,Q⟩;(go_wp2_with fail);refine(gY ζ A4 n4 c4 _ _ K).mono ?_;rintro e w7 ⟨v7,rfl,j,Wj⟩;obtain⟨Z,hZ⟩:∃Z:Int,Z=(G:Int):=⟨_,rfl⟩;rw[bD,ul (z:=Z) (hZ.trans (by simp[zOf])) N] at j;have HZ:=aJ hZ;clear hZ;obtain⟨u7,rfl,A2,n2,c2,rfl,hI⟩:=j;have Wl:=((P.trans M).trans Q).trans Wj;exact AaA
end Go.Proofs.YtbfnfkppkmpieaaGreat
