/- Contract: the reference's text of an integer. -/
import Derived.Test.YtfdpbcjcinchgaaDoorTf
import Derived.Test.YtfdpbcjcinchgaaDoorIn
import Derived.Laws.IdiomStrings
namespace Go.Proofs.YtfdpbcjcinchgaaDoor
open Go.RowKit
set_option linter.unusedVariables false

theorem elem_u8 : Elem Tryd.prog 59 5 1 1 := by
  obtain ⟨i0, hi, hz0, hz1, hz2⟩ := info_split bInfo
  exact ⟨i0, .int .u8 0, Tryd.underlying59, hi, hz0, hz1, hz2, rfl, by decide⟩
theorem bc_one (l : List UInt8) : ∀ v ∈ Lib.byteCells l, v.oneCell' = true := by
  intro v hv
  simp only [Lib.byteCells, List.mem_map] at hv
  obtain ⟨b, _, rfl⟩ := hv
  rfl
theorem bc_snoc (l : List UInt8) (b : UInt8) : Lib.byteCells (l ++ [b]) = Lib.byteCells l ++ [.int .u8 (b.toNat : Int)] := by simp [Lib.byteCells]
theorem dgt_nat (r : Nat) : (dgt r).toNat = 48 + r % 10 := by
  unfold dgt
  rw [UInt8.toNat_ofNat']
  exact Nat.mod_eq_of_lt (by omega)
theorem dgt_int {r : Nat} : (((dgt r).toNat : Nat) : Int) = 48 + (r : Int) % 10 := by rw [dgt_nat]; omega

set_option maxRecDepth 100000 in
set_option maxHeartbeats 800000 in
theorem rshort_fresh (A : Option Addr) (n c d : Nat) (p : List Nat) (w : World) (h : RM w A n c p) (hn : n ≤ 1000000) (hd0 : 0 < d) (hd : d < 4294967296) :
    Calls Tryd.prog 61 #[.slice A n c, .int .u32 (d : Int)] w fun e w' => ∃ v, e = .returned (.tuple #[v, .int .u32 ((val p % d : Nat) : Int)]) ∧ (SlM (digs (val p / d)) v w' ∧ ∀ g, v.ownBlock = some g → w.heap.size ≤ g) ∧ Ext w w' := by
  have HL := Lib.hid h.len
  have hmk := make_u32 (n : Int) n rfl (by omega)
  go_enter Tryd.func61, Tryd.ntmps61
  go_wp2
  clear hmk
  go_loopw [7, 8] (fun rv i wr => ∃ (k rest : Nat) (q : List Nat), k ≤ n ∧ i = .int .i64 ((k : Int) - 1) ∧ rv = .int .u64 (rest : Int) ∧ rest < d ∧ k + q.length = n ∧ val (p.drop k) = d * val q + rest ∧ RowD wr w.heap.size (List.replicate k 0 ++ q) ∧ Ext w wr) (fun _ i _ => (intOf i + 1).toNat)
  case atStart => exact ⟨n, 0, [], Nat.le_refl _, rfl, rfl, hd0, rfl, by rw [List.drop_eq_nil_of_le (by rw [HL.out]; omega)]; simp [val], by rw [List.append_nil]; exact ⟨Blk.new w _ _, Dig.replicate _⟩, Ext.new _ _⟩
  case round =>
    obtain ⟨k, rest, q, hk, rfl, rfl, hr, hq, hv, hrow, hex⟩ := hrel
    have HV := Lib.hid hv; clear hv
    have HQ := Lib.hid hq; clear hq
    by_cases h0 : k = 0
    · subst h0
      go_wp2_with fail
      simp only [List.replicate_zero, List.nil_append] at hrow
      refine (rtrim_fresh _ n n q _ (hrow.rm (by have := HQ.out; omega) (by omega)) hn).mono ?_
      rintro e w1 ⟨v1, rfl, hR, hx1⟩
      have hv := HV.out
      simp only [List.drop_zero] at hv
      have e1 : val p / d = val q := by rw [hv, Nat.mul_add_div hd0, Nat.div_eq_of_lt hr, Nat.add_zero]
      have e2 : rest = val p % d := by rw [hv, Nat.mul_add_mod, Nat.mod_eq_of_lt hr]
      have E1 := Lib.hid e1; have E2 := Lib.hid e2; clear e1 e2 hv
      go_wp2
      go_ret2
      refine ⟨v1, ?_, ⟨by rw [E1.out]; exact hR.1, fun g hg => Nat.le_trans hex.size (hR.2 g hg)⟩, hex.trans hx1⟩
      rw [← E2.out]; rfl
    · obtain ⟨j, rfl⟩ : ∃ j, k = j + 1 := ⟨k - 1, by omega⟩
      obtain ⟨ad, x, rfl, hb, hx, hx32, hcx⟩ := (h.ext hex).at_ (k := j) (by omega)
      have HX := Lib.hid hx; clear hx
      have hjl : j < (List.replicate (j + 1) 0 ++ q).length := by simp; omega
      obtain ⟨z, _, _, hcz, hfz⟩ := hrow.at_ hjl
      have HR := Lib.hid hrow; clear hrow hjl
      obtain ⟨nn, hnn⟩ : ∃ nn, nn = x + 4294967296 * rest := ⟨_, rfl⟩
      have hnb : nn < 18446744073709551616 := by omega
      have e1 : bits .or .u64 ((rest : Int) * 4294967296) (x : Int) = (nn : Int) := by rw [or_hi (by omega) hx32, hnn]
      have hq1 : nn / d < 4294967296 := dw_lt hx32 hr hnn
      have hq2 : (nn : Int) / (d : Int) < 4294967296 := by rw [← Int.natCast_ediv]; omega
      have hq3 : (0 : Int) ≤ (nn : Int) / (d : Int) := Int.ediv_nonneg (by omega) (by omega)
      have HN := Lib.hid hnn; clear hnn
      go_wp2
      go_roundw
      case rel =>
        refine ⟨j, nn % d, nn / d :: q, by omega, by go_num, rfl, Nat.mod_lt _ hd0, by have := HQ.out; simp; omega, dw_step HX.out HN.out HV.out, ?_, hex.setCell (Nat.le_refl _) _⟩
        have := HR.out.set (k := j) (d := nn / d) rfl hq1
        rwa [sh_list] at this
      case measure => simp [intOf] <;> omega
/-- Digits apart from the row that grows. -/
theorem rm_grown {w w' : World} {o : Obj} {A : Option Addr} {n c : Nat} {l : List Nat} {row : Option Nat} (h : RM w A n c l) (hg : (w.alloc o).grownBy w' row) (hne : 0 < n → ∀ ad, A = some ad → row ≠ some ad.block) : RM w' A n c l := by
  have hs : w.heap.size ≤ w'.heap.size := by have := hg.size; simp at this; omega
  refine ⟨⟨h.rd.1, fun hn => ?_⟩, h.dg, h.nc, h.cm⟩
  obtain ⟨ad, e, hb, hc⟩ := h.rd.2 hn
  refine ⟨ad, e, Nat.lt_of_lt_of_le hb hs, fun j u hu => ?_⟩
  have h1 := hc j u hu
  have h2 : (w.alloc o).cell? (ad.add j) = some u := (Ext.new w o).cell_ h1
  rw [← h2]
  refine World.cell?_of_block (hg.block _ (by rw [block_of_add]; simp; omega) ?_)
  rw [block_of_add]
  exact fun e' => hne hn ad e e'.symm
theorem apart_grown {w : World} {A : Option Addr} {n c g : Nat} {l : List Nat} {bv : Value} (h : RM w A n c l) (hap : 0 < n → ∀ ad, A = some ad → bv.ownBlock ≠ some ad.block) (hg : bv.ownBlock = some g ∨ g = w.heap.size + 1) (h0 : 0 < n) (ad : Addr) (e : A = some ad) (he : g = ad.block) : False := by
  rcases hg with h1 | h1
  · exact hap h0 ad e (by rw [h1, he])
  · obtain ⟨ad', e', hb, _⟩ := h.rd.2 h0
    rw [e] at e'
    cases e'
    omega
/-- A row of bytes. -/
def RowB (w : World) (g : Nat) (p : List UInt8) (r : List Value) : Prop := Blk w g 5 (Lib.byteCells p ++ r).toArray
theorem RowB.at_ {w : World} {g k : Nat} {p : List UInt8} {r : List Value} {b : UInt8} (h : RowB w g p r) (hb : p[k]? = some b) : w.cell? ⟨g, k, none⟩ = some (.int .u8 (b.toNat : Int)) ∧ w.frozen? ⟨g, k, none⟩ = false := by
  refine ⟨?_, Blk.frozen h k⟩
  have hk : k < p.length := (List.getElem?_eq_some_iff.1 hb).1
  rw [Blk.cell h, List.getElem?_toArray, List.getElem?_append_left (by rw [Lib.byteCells_length]; exact hk)]
  simp [Lib.byteCells, hb]
theorem RowB.set {w : World} {g k : Nat} {p : List UInt8} {r : List Value} {b : UInt8} (h : RowB w g p r) (hk : k < p.length) : RowB (w.setCell ⟨g, k, none⟩ (.int .u8 (b.toNat : Int))) g (p.set k b) r := by
  have := Blk.setL (i := k) h (.int .u8 (b.toNat : Int))
  rw [List.set_append_left _ _ (by rw [Lib.byteCells_length]; exact hk)] at this
  unfold RowB
  rw [show Lib.byteCells (p.set k b) = (Lib.byteCells p).set k (.int .u8 (b.toNat : Int)) by simp [Lib.byteCells, List.map_set]]
  exact this
theorem RowB.of_own {w : World} {base n : Nat} {v : Value} {p : List UInt8} (h : w.ownsRow base 5 1 v n (Lib.byteCells p)) (hn : 0 < n) : ∃ g cap r, v = .slice (some ⟨g, 0, none⟩) n cap ∧ base ≤ g ∧ RowB w g p r ∧ n ≤ cap := by
  rcases h.2 with ⟨h1, h2⟩ | ⟨g, cap, cur, h1, h2, h3, h4, h5, h6, h7⟩
  · omega
  · refine ⟨g, cap, cur.toList.drop n, h1, h2, ?_, h4⟩
    unfold RowB
    have e : Lib.byteCells p = cur.toList.take n := by
      have := h7
      simpa using this.symm
    rw [e, List.take_append_drop]
    exact h3

/-- A list with its first and last i elements exchanged. -/
def Half (p q : List UInt8) (i : Nat) : Prop := q.length = p.length ∧ ∀ j, j < p.length → q[j]? = if j < i ∨ p.length - 1 - j < i then p[p.length - 1 - j]? else p[j]?
theorem half_zero (p : List UInt8) : Half p p 0 := ⟨rfl, fun j hj => by simp⟩
theorem half_step {p q : List UInt8} {i : Nat} {x y : UInt8} (h : Half p q i) (hi : i < p.length / 2) (hx : q[p.length - 1 - i]? = some x) (hy : q[i]? = some y) : Half p ((q.set i x).set (p.length - 1 - i) y) (i + 1) := by
  obtain ⟨h1, h2⟩ := h
  have e1 := h2 (p.length - 1 - i) (by omega)
  rw [hx, if_neg (by omega)] at e1
  have e2 := h2 i (by omega)
  rw [hy, if_neg (by omega)] at e2
  refine ⟨by simp [h1], fun j hj => ?_⟩
  rw [List.getElem?_set]
  by_cases hj1 : p.length - 1 - i = j
  · subst hj1
    rw [if_pos rfl, if_pos (by simp; omega), if_pos (by omega), show p.length - 1 - (p.length - 1 - i) = i by omega]
    exact e2
  · rw [if_neg hj1, List.getElem?_set]
    by_cases hj2 : i = j
    · subst hj2
      rw [if_pos rfl, if_pos (by omega), if_pos (by omega)]
      exact e1
    · rw [if_neg hj2, h2 j hj]
      by_cases hc : j < i ∨ p.length - 1 - j < i
      · rw [if_pos hc, if_pos (by omega)]
      · rw [if_neg hc, if_neg (by omega)]
theorem half_end {p q : List UInt8} {i : Nat} (h : Half p q i) (hi : ¬ i < p.length / 2) : q = p.reverse := by
  obtain ⟨h1, h2⟩ := h
  apply List.ext_getElem?
  intro j
  by_cases hj : j < p.length
  · rw [h2 j hj, List.getElem?_reverse hj]
    by_cases hc : j < i ∨ p.length - 1 - j < i
    · rw [if_pos hc]
    · rw [if_neg hc, show p.length - 1 - j = j by omega]
  · rw [List.getElem?_eq_none (by omega), List.getElem?_eq_none (by simp; omega)]

set_option maxRecDepth 100000 in
set_option maxHeartbeats 400000 in
theorem rText_bad (v : Value) (s : Bool) (l : List Nat) (w : World) (hX : RX w v s l) (hv : validB s l = false) :
    Calls Tryd.prog 24 #[v] w fun e w' => e = .returned (.string ⟨#[]⟩) ∧ Ext w w' := by
  obtain ⟨A, n, c, rfl, hx⟩ := hX
  have HV1 := Lib.hid hv; clear hv
  go_enter Tryd.func24, Tryd.ntmps24
  go_wp2_with fail
  refine (rValid_any _ A n c _ _ (hx.ext (Ext.new w _))).mono ?_
  rintro e w1 ⟨rfl, hx1⟩
  rw [HV1.out]
  go_wp2
  go_ret
  exact ⟨rfl, (Ext.new w _).trans hx1⟩

set_option maxRecDepth 100000 in
set_option maxHeartbeats 3200000 in
theorem rText_ok (v : Value) (z : Int) (w : World) (hX : RI w v z) (az : z.natAbs < lim) :
    Calls Tryd.prog 24 #[v] w fun e w' => e = .returned (.string ⟨(txt z).toArray⟩) ∧ Ext w w' := by
  have HV1 := Lib.hid (RI.valid hX az)
  obtain ⟨A, n, c, rfl, hx⟩ := hX
  have hn := hx.le400 az
  have hlen := hx.len
  have HS := Lib.hid (digs_some0 hlen)
  have HGL := Lib.hid (rdig_len hlen)
  have HL := Lib.hid hlen; clear hlen
  generalize hsg : decide (z < 0) = sg at *
  have HSG := Lib.hid hsg; clear hsg
  go_enter Tryd.func24, Tryd.ntmps24
  go_wp2_with fail
  refine (rValid_any _ A n c _ _ (hx.ext (Ext.new w _))).mono ?_
  rintro e w1 ⟨rfl, hx1⟩
  rw [HV1.out]
  have b1 := (Blk.new w 24 #[.bool sg, .slice A n c]).ext hx1
  have c0 := b1.cell
  by_cases h0 : n = 0
  · subst h0
    go_wp2
    go_ret
    refine ⟨?_, (Ext.new w _).trans hx1⟩
    have hz : z = 0 := by
      rcases Nat.eq_zero_or_pos z.natAbs with h | h
      · omega
      · exact absurd (HS.out.2 h) (by omega)
    subst hz
    rfl
  · have t1 : ((n : Int) == 0) = false := by simp; omega
    have t2 : (n == 0) = false := by simp; omega
    have hz0 := HS.out.1 (by omega)
    have HTX := Lib.hid (txt_rdig z (by omega))
    go_wp2_with fail
    refine (rtrim_any A n c _ _ ((hx.ext (Ext.new w _)).ext hx1) (by omega)).mono ?_
    rintro e w2 ⟨v2, rfl, ⟨A2, n2, c2, rfl, hM⟩, hx2⟩
    rw [val_digs] at hM
    go_wp2_with fail
    clear c0
    go_loopg [3, 4] z.natAbs (fun gk bv av wr => ∃ (bs : List UInt8) (A' : Option Addr) (n' c' : Nat), bs ++ rdig gk = rdig z.natAbs ∧ wr.ownsRow w1.heap.size 5 1 bv bs.length (Lib.byteCells bs) ∧ av = .slice A' n' c' ∧ RM wr A' n' c' (digs gk) ∧ n' ≤ 400 ∧ Ext w1 wr)
    case atStart => exact ⟨[], _, _, _, rfl, World.ownsRow_nil _ _ _ _, rfl, hM, by have := hM.len; have := HL.out; omega, hx2⟩
    case round =>
      clear hM hx2
      obtain ⟨bs, A', n', c', hbs, hown, rfl, hA, hn', hex⟩ := hrel
      have HBS := Lib.hid hbs
      have hblen : bs.length ≤ 7200 := by
        have := HGL.out
        rw [← hbs, List.length_append] at this
        omega
      clear hbs
      have hmq := digs_some0 hA.len
      by_cases hg : 0 < n'
      · have hgk := hmq.1 hg
        have hg' : (0 : Int) < (n' : Int) := by omega
        have HMQ := Lib.hid hmq; clear hmq
        go_wp2_with fail
        refine (rshort_fresh A' n' c' 1000000000 _ _ hA (by omega) (by omega) (by omega)).mono ?_
        rintro e w3 ⟨v3, rfl, ⟨⟨Aq, nq, cq, rfl, hQ⟩, hfr⟩, hx3⟩
        have hap : 0 < nq → ∀ ad, Aq = some ad → Value.ownBlock u3 ≠ some ad.block := fun h0 ad e he => by
          subst e
          have h1 := hfr ad.block rfl
          have h2 := (hown.lt _ he).2
          omega
        rw [val_digs] at hQ
        rw [val_digs]
        have hst := rest_start (n := gk)
        have hmod := Nat.mod_lt gk (show 0 < 1000000000 by omega)
        have hlt := Nat.div_lt_self hgk (show 1 < 1000000000 by omega)
        have hql := hQ.len
        have hqs := digs_some0 hql
        have hnq : nq ≤ 400 := by
          have h5 := val_lt hA.dg
          rw [val_digs, hA.len] at h5
          have := digs_len_le (n := gk / 1000000000) (k := n') (Nat.lt_of_le_of_lt (Nat.div_le_self _ _) h5)
          omega
        generalize gk % 1000000000 = r0 at *
        generalize gk / 1000000000 = q0 at *
        have HST := Lib.hid hst; have HQS := Lib.hid hqs; clear hst hql hqs
        have hown3 := own_ext hown hx3
        have hex3 := hex.trans hx3
        clear hown hA hex hx3
        go_wp2_with fail
        go_loopw [3, 6, 7] (fun bv rv kv wx => ∃ (bs : List UInt8) (r k : Nat), k ≤ 9 ∧ r < 10 ^ (9 - k) ∧ rv = .int .u32 (r : Int) ∧ kv = .int .i64 (k : Int) ∧ bs ++ restD q0 k r = rdig z.natAbs ∧ wx.ownsRow w1.heap.size 5 1 bv bs.length (Lib.byteCells bs) ∧ RM wx Aq nq cq (digs q0) ∧ (0 < nq → ∀ ad, Aq = some ad → bv.ownBlock ≠ some ad.block) ∧ Ext w1 wx) (fun _ _ kv _ => 9 - (intOf kv).toNat)
        case atStart => exact ⟨bs, r0, 0, by omega, by omega, rfl, rfl, by rw [HST.out]; exact HBS.out, hown3, hQ, hap, hex3⟩
        case round =>
          clear hown3 hQ hex3 hap hfr
          obtain ⟨bs', r, k, hk, hr, rfl, rfl, hrest, hown, hQ, hap, hex⟩ := hrel
          have HREST := Lib.hid hrest
          have hblen' : bs'.length ≤ 7200 := by
            have := HGL.out
            rw [← hrest, List.length_append] at this
            omega
          clear hrest
          have hr9 : r < 1000000000 := Nat.lt_of_lt_of_le hr (show 10 ^ (9 - k) ≤ 10 ^ 9 from Nat.pow_le_pow_right (by decide) (by omega))
          have HR := Lib.hid hr; clear hr
          by_cases hcont : k < 9 ∧ (0 < q0 ∨ 0 < r)
          · obtain ⟨hk9, hqr⟩ := hcont
            have HSTEP := Lib.hid (rest_step hk9 hqr)
            have HLOW := Lib.hid (rest_low hk9 HR.out)
            have hqr' : 0 < nq ∨ (nq = 0 ∧ 0 < r) := by
              rcases Nat.eq_zero_or_pos nq with h | h
              · exact .inr ⟨h, by have := HQS.out; omega⟩
              · exact .inl h
            have hrd : r / 10 < 4294967296 := by omega
            have ED : Hid ((r : Int) / 10 = ((r / 10 : Nat) : Int)) := Lib.hid (by omega)
            have hrm : r ≠ 0 ∨ 0 < nq := by omega
            rcases hqr' with hq1 | ⟨hq1, hr1⟩
            · have tq : (0 : Int) < (nq : Int) := by omega
              have tq' : decide ((0 : Int) < (nq : Int)) = true := by simpa using tq
              go_wp2_with (at_builtin; refine wpList_app elem_u8 rfl (.tmp 40) (.tmp 45) rfl w1.heap.size _ bs'.length (Lib.byteCells bs') (by rfl) (hown.alloc _) wr.heap.size 1 1 [.int .u8 (48 + (r : Int) % 10)] (by rfl) (Blk.new _ _ _) rfl (by simp [Value.oneCell']) (by omega) (by omega) (by omega) (by have := hex.size; simp; omega) ?_)
              intro g4 cap4 w4 ho4 hg4 hg4' _
              have hex4 := own_grown hg4 (hex.alloc _) (fun g h => (hown.lt g h).1)
              have hQ4 : RM w4 Aq nq cq (digs q0) := rm_grown hQ hg4 hap
              have hap4 : 0 < nq → ∀ ad, Aq = some ad → Value.ownBlock (.slice (some ⟨g4, 0, none⟩) (bs'.length + 1) cap4) ≠ some ad.block := fun h0 ad e he => apart_grown hQ hap hg4' h0 ad e (by simpa [Value.ownBlock] using he)
              have HO4 := Lib.hid ho4; clear ho4 hap
              go_wp2_with fail
              go_roundw
              case rel => exact ⟨bs' ++ [dgt r], r / 10, k + 1, by omega, HLOW.out, by rw [ED.out], by go_num, by rw [← HREST.out, HSTEP.out]; simp, by rw [bc_snoc, dgt_int]; simpa using HO4.out, hQ4, (fun h => hap4 h), hex4⟩
              case measure => simp [intOf] <;> omega
            · have tq : ¬ (0 : Int) < (nq : Int) := by omega
              have tq' : decide ((0 : Int) < (nq : Int)) = false := by simpa using tq
              have tr : (0 : Int) < (r : Int) := by omega
              have tr' : decide ((0 : Int) < (r : Int)) = true := by simpa using tr
              subst hq1
              clear tq tq' hrm
              go_wp2_with (at_builtin; refine wpList_app elem_u8 rfl (.tmp 40) (.tmp 45) rfl w1.heap.size _ bs'.length (Lib.byteCells bs') (by rfl) (hown.alloc _) wr.heap.size 1 1 [.int .u8 (48 + (r : Int) % 10)] (by rfl) (Blk.new _ _ _) rfl (by simp [Value.oneCell']) (by omega) (by omega) (by omega) (by have := hex.size; simp; omega) ?_)
              intro g4 cap4 w4 ho4 hg4 hg4' _
              have hex4 := own_grown hg4 (hex.alloc _) (fun g h => (hown.lt g h).1)
              have hQ4 : RM w4 Aq 0 cq (digs q0) := rm_grown hQ hg4 hap
              have hap4 : 0 < 0 → ∀ ad, Aq = some ad → Value.ownBlock (.slice (some ⟨g4, 0, none⟩) (bs'.length + 1) cap4) ≠ some ad.block := fun h0 ad e he => apart_grown hQ hap hg4' h0 ad e (by simpa [Value.ownBlock] using he)
              have HO4 := Lib.hid ho4; clear ho4 hap
              go_wp2_with fail
              go_roundw
              case rel => exact ⟨bs' ++ [dgt r], r / 10, k + 1, by omega, HLOW.out, by rw [ED.out], by go_num, by rw [← HREST.out, HSTEP.out]; simp, by rw [bc_snoc, dgt_int]; simpa using HO4.out, hQ4, (fun h => hap4 h), hex4⟩
              case measure => simp [intOf] <;> omega
          · have HEND := Lib.hid (rest_end hk HR.out hcont)
            rcases Nat.lt_or_ge k 9 with hk9 | hk9
            · have hr0 : r = 0 := by omega
              have hq0 : nq = 0 := by have := HQS.out; omega
              clear hcont
              subst hr0
              subst hq0
              go_wp2_with fail
              go_roundg q0
              case measure => exact hlt
              case rel => exact ⟨bs', _, _, _, by rw [← HEND.out]; exact HREST.out, hown, rfl, hQ, by omega, hex⟩
            · have tk : ¬ (k : Int) < 9 := by omega
              have tk' : decide ((k : Int) < 9) = false := by simpa using tk
              clear hcont
              go_wp2_with fail
              go_roundg q0
              case measure => exact hlt
              case rel => exact ⟨bs', _, _, _, by rw [← HEND.out]; exact HREST.out, hown, rfl, hQ, by omega, hex⟩
      · obtain rfl : n' = 0 := by omega
        obtain rfl : gk = 0 := by
          rcases Nat.eq_zero_or_pos gk with h | h
          · exact h
          · exact absurd (hmq.2 h) hg
        have hbsE : bs = rdig z.natAbs := by have := HBS.out; rwa [rdig_zero, List.append_nil] at this
        subst hbsE
        have hpos : 0 < (rdig z.natAbs).length := by rw [rdig_pos hz0]; simp
        clear hmq hg hA HBS
        have c1 := (b1.ext hex).cell
        have HTX2 : Hid (txt z = (rdig z.natAbs ++ (if sg then [45] else [])).reverse) := Lib.hid (by rw [HTX.out, ← HSG.out]; simp)
        have hwE : Ext w wr := (Ext.new w _).trans (hx1.trans hex)
        have hbase : w.heap.size ≤ w1.heap.size := ((Ext.new w _).trans hx1).size
        cases sg
        · obtain ⟨P, hP⟩ : ∃ P, P = rdig z.natAbs ++ (if false then [45] else []) := ⟨_, rfl⟩
          have hown' : wr.ownsRow w1.heap.size 5 1 u3 P.length (Lib.byteCells P) := by rw [hP]; simpa using hown
          have hPl : P.length ≤ 7201 := by rw [hP]; simp; omega
          have hP0 : 0 < P.length := by rw [hP]; simp; omega
          rw [← hP] at HTX2
          obtain ⟨g5, cap5, r5, he5, hg5, hrow, hcap⟩ := RowB.of_own hown' hP0
          rw [he5]
          obtain ⟨L, hL⟩ : ∃ L, P.length = L := ⟨_, rfl⟩
          rw [hL] at hPl hP0 hcap ⊢
          have HLL := Lib.hid hL
          clear he5 hown' hL
          go_wp2_with fail
          clear c1
          go_loopw [8] (fun iv wx => ∃ (i : Nat) (q : List UInt8), i ≤ L / 2 ∧ iv = .int .i64 (i : Int) ∧ Half P q i ∧ RowB wx g5 q r5 ∧ Ext w wx) (fun iv _ => L - (intOf iv).toNat)
          case atStart => exact ⟨0, P, by omega, rfl, half_zero P, hrow, hwE⟩
          case round =>
            clear hrow
            obtain ⟨i, q, hi, rfl, hh, hrow, hex5⟩ := hrel
            have hql : q.length = L := hh.1.trans HLL.out
            by_cases hlt : i < L / 2
            · have tl : (i : Int) < (L : Int) / 2 := by omega
              have tl' : decide ((i : Int) < (L : Int) / 2) = true := by simpa using tl
              obtain ⟨m, hm⟩ : ∃ m, m = L - 1 - i := ⟨_, rfl⟩
              have em : (L : Int) - 1 - (i : Int) = (m : Int) := by omega
              have hmL : m < L := by omega
              have hiL : i < L := by omega
              have him : i ≠ m := by omega
              have hxs := List.getElem?_eq_getElem (l := q) (i := m) (by omega)
              have hys := List.getElem?_eq_getElem (l := q) (i := i) (by omega)
              generalize q[m] = bx at hxs
              generalize q[i] = bY at hys
              obtain ⟨kx, fx⟩ := RowB.at_ hrow hxs
              obtain ⟨ky, fy⟩ := RowB.at_ hrow hys
              have hstep := half_step hh (by rw [HLL.out]; exact hlt) (by rw [HLL.out, ← hm]; exact hxs) hys
              rw [HLL.out, ← hm] at hstep
              have HSTEP := Lib.hid hstep; have HXS := Lib.hid hxs; have HYS := Lib.hid hys; have HM := Lib.hid hm; have HQL := Lib.hid hql
              clear hstep hxs hys hm hql
              go_wp2_with fail
              go_region
              go_wp2_with fail
              go_roundw
              case rel => exact ⟨i + 1, _, by omega, by go_num, HSTEP.out, (hrow.set (by rw [HQL.out]; exact hiL)).set (by rw [List.length_set, HQL.out]; exact hmL), ((hex5.setCell (p := ⟨g5, i, none⟩) (by show w.heap.size ≤ g5; omega) _).setCell (p := ⟨g5, m, none⟩) (by show w.heap.size ≤ g5; omega) _).drew⟩
              case measure => simp [intOf] <;> omega
            · have tl : ¬ (i : Int) < (L : Int) / 2 := by omega
              have tl' : decide ((i : Int) < (L : Int) / 2) = false := by simpa using tl
              have hend := half_end hh (by rw [HLL.out]; exact hlt)
              have hcv : (convert 59 9 (.slice (some ⟨g5, 0, none⟩) L cap5)).run Tryd.prog wr = .ok (.string ⟨q.toArray⟩) wr := by
                have h := run_convert_bytes_back (P := Tryd.prog) wr 59 9 5 ⟨g5, 0, none⟩ cap5 q Tryd.underlying59 Tryd.underlying5 Tryd.underlying9 (fun j hj => by
                  rw [add_plain, Nat.zero_add]
                  exact (RowB.at_ hrow (List.getElem?_eq_getElem hj)).1)
                rwa [hql] at h
              have HEND := Lib.hid hend; clear hend
              go_wp2
              go_ret
              refine ⟨?_, hex5⟩
              rw [HTX2.out, ← HEND.out]
              rfl
        · obtain ⟨P, hP⟩ : ∃ P, P = rdig z.natAbs ++ (if true then [45] else []) := ⟨_, rfl⟩
          rw [← hP] at HTX2
          have HP := Lib.hid hP; clear hP
          go_wp2_with (at_builtin; refine wpList_app elem_u8 rfl (.tmp 52) (.tmp 53) rfl w1.heap.size _ (rdig z.natAbs).length (Lib.byteCells (rdig z.natAbs)) (by rfl) (hown.alloc _) wr.heap.size 1 1 [.int .u8 45] (by rfl) (Blk.new _ _ _) rfl (by simp [Value.oneCell']) (by omega) (by omega) (by omega) (by have := hex.size; simp; omega) ?_)
          intro g4 cap4 w4 ho4 hg4 hg4' _
          have hex4 := own_grown hg4 (hex.alloc _) (fun g h => (hown.lt g h).1)
          have hwE4 : Ext w w4 := (Ext.new w _).trans (hx1.trans hex4)
          have hP := HP.out
          have hown' : w4.ownsRow w1.heap.size 5 1 (.slice (some ⟨g4, 0, none⟩) ((rdig z.natAbs).length + 1) cap4) P.length (Lib.byteCells P) := by
            rw [hP]
            simpa [Lib.byteCells] using ho4
          have hPl : P.length ≤ 7201 := by rw [hP]; simp; omega
          have hP0 : 0 < P.length := by rw [hP]; simp
          clear ho4 hg4 hg4' hown hP
          obtain ⟨g5, cap5, r5, he5, hg5, hrow, hcap⟩ := RowB.of_own hown' hP0
          rw [he5]
          obtain ⟨L, hL⟩ : ∃ L, P.length = L := ⟨_, rfl⟩
          rw [hL] at hPl hP0 hcap ⊢
          have HLL := Lib.hid hL
          clear he5 hown' hL
          go_wp2_with fail
          clear c1
          go_loopw [8] (fun iv wx => ∃ (i : Nat) (q : List UInt8), i ≤ L / 2 ∧ iv = .int .i64 (i : Int) ∧ Half P q i ∧ RowB wx g5 q r5 ∧ Ext w wx) (fun iv _ => L - (intOf iv).toNat)
          case atStart => exact ⟨0, P, by omega, rfl, half_zero P, hrow, hwE4⟩
          case round =>
            clear hrow
            obtain ⟨i, q, hi, rfl, hh, hrow, hex5⟩ := hrel
            have hql : q.length = L := hh.1.trans HLL.out
            by_cases hlt : i < L / 2
            · have tl : (i : Int) < (L : Int) / 2 := by omega
              have tl' : decide ((i : Int) < (L : Int) / 2) = true := by simpa using tl
              obtain ⟨m, hm⟩ : ∃ m, m = L - 1 - i := ⟨_, rfl⟩
              have em : (L : Int) - 1 - (i : Int) = (m : Int) := by omega
              have hmL : m < L := by omega
              have hiL : i < L := by omega
              have him : i ≠ m := by omega
              have hxs := List.getElem?_eq_getElem (l := q) (i := m) (by omega)
              have hys := List.getElem?_eq_getElem (l := q) (i := i) (by omega)
              generalize q[m] = bx at hxs
              generalize q[i] = bY at hys
              obtain ⟨kx, fx⟩ := RowB.at_ hrow hxs
              obtain ⟨ky, fy⟩ := RowB.at_ hrow hys
              have hstep := half_step hh (by rw [HLL.out]; exact hlt) (by rw [HLL.out, ← hm]; exact hxs) hys
              rw [HLL.out, ← hm] at hstep
              have HSTEP := Lib.hid hstep; have HXS := Lib.hid hxs; have HYS := Lib.hid hys; have HM := Lib.hid hm; have HQL := Lib.hid hql
              clear hstep hxs hys hm hql
              go_wp2_with fail
              go_region
              go_wp2_with fail
              go_roundw
              case rel => exact ⟨i + 1, _, by omega, by go_num, HSTEP.out, (hrow.set (by rw [HQL.out]; exact hiL)).set (by rw [List.length_set, HQL.out]; exact hmL), ((hex5.setCell (p := ⟨g5, i, none⟩) (by show w.heap.size ≤ g5; omega) _).setCell (p := ⟨g5, m, none⟩) (by show w.heap.size ≤ g5; omega) _).drew⟩
              case measure => simp [intOf] <;> omega
            · have tl : ¬ (i : Int) < (L : Int) / 2 := by omega
              have tl' : decide ((i : Int) < (L : Int) / 2) = false := by simpa using tl
              have hend := half_end hh (by rw [HLL.out]; exact hlt)
              have hcv : (convert 59 9 (.slice (some ⟨g5, 0, none⟩) L cap5)).run Tryd.prog wr = .ok (.string ⟨q.toArray⟩) wr := by
                have h := run_convert_bytes_back (P := Tryd.prog) wr 59 9 5 ⟨g5, 0, none⟩ cap5 q Tryd.underlying59 Tryd.underlying5 Tryd.underlying9 (fun j hj => by
                  rw [add_plain, Nat.zero_add]
                  exact (RowB.at_ hrow (List.getElem?_eq_getElem hj)).1)
                rwa [hql] at h
              have HEND := Lib.hid hend; clear hend
              go_wp2
              go_ret
              refine ⟨?_, hex5⟩
              rw [HTX2.out, ← HEND.out]
              rfl
end Go.Proofs.YtfdpbcjcinchgaaDoor
