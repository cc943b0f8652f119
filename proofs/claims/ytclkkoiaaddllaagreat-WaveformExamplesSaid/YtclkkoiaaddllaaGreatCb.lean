/- The samples of a phasor: the walk of Channel. -/
import Derived.Test.YtclkkoiaaddllaaGreatCa
namespace Go.Proofs.YtclkkoiaaddllaaGreat
open Go.RowKit
set_option linter.unusedVariables false

section
variable {w : World} {s1 s2 s3 s4 s5 s6 : Bool} {A1 A2 A3 A4 A5 A6 : Option Addr} {n1 c1 n2 c2 n3 c3 n4 c4 n5 c5 n6 c6 : Nat} {p : PQ} {n : Nat}
theorem PV.gu (h : PV w (pv s1 A1 n1 c1 s2 A2 n2 c2 s3 A3 n3 c3 s4 A4 n4 c4 s5 A5 n5 c5 s6 A6 n6 c6) p n) : GV w (gv s1 A1 n1 c1 s2 A2 n2 c2 s3 A3 n3 c3) p.u n := by
  obtain ⟨a, b, d, x, y, z, hR, I, S, J, T⟩ := h
  exact ⟨a, b, d, RG.mk (RP.at1 hR) (RP.at2 hR) (RP.at3 hR), I, S⟩
theorem PV.gw (h : PV w (pv s1 A1 n1 c1 s2 A2 n2 c2 s3 A3 n3 c3 s4 A4 n4 c4 s5 A5 n5 c5 s6 A6 n6 c6) p n) : GV w (gv s4 A4 n4 c4 s5 A5 n5 c5 s6 A6 n6 c6) p.v n := by
  obtain ⟨a, b, d, x, y, z, hR, I, S, J, T⟩ := h
  exact ⟨x, y, z, RG.mk (RP.at4 hR) (RP.at5 hR) (RP.at6 hR), J, T⟩
theorem PV.opn {v : Value} (h : PV w v p n) : ∃ s1 A1 n1 c1 s2 A2 n2 c2 s3 A3 n3 c3 s4 A4 n4 c4 s5 A5 n5 c5 s6 A6 n6 c6, v = pv s1 A1 n1 c1 s2 A2 n2 c2 s3 A3 n3 c3 s4 A4 n4 c4 s5 A5 n5 c5 s6 A6 n6 c6 := by
  obtain ⟨a, b, d, x, y, z, ⟨s1, A1, n1, c1, s2, A2, n2, c2, s3, A3, n3, c3, s4, A4, n4, c4, s5, A5, n5, c5, s6, A6, n6, c6, e, _⟩, _⟩ := h
  exact ⟨s1, A1, n1, c1, s2, A2, n2, c2, s3, A3, n3, c3, s4, A4, n4, c4, s5, A5, n5, c5, s6, A6, n6, c6, e⟩
end
theorem xZero_bb (v : Value) (q : GQ) (n : Nat) (b : Bool) (w : World) (hX : GV w v q n) (hn : n ≤ 12800) (h : b = true ↔ q = GQ.i 0 0) :
    Calls Tryz.prog 53 #[v] w fun e w' => e = .returned (.bool b) ∧ Ext w w' := by
  cases b
  · exact xZero_no v q n w hX hn (fun e => by simp [e] at h)
  · exact xZero_yes v q n w hX hn (h.1 rfl)
theorem zero12 : (List.replicate 12 (Value.int .i64 0)).toArray = #[.int .i64 0, .int .i64 0, .int .i64 0, .int .i64 0, .int .i64 0, .int .i64 0, .int .i64 0, .int .i64 0, .int .i64 0, .int .i64 0, .int .i64 0, .int .i64 0] := rfl

theorem a12_sz {cs : Array Value} (h : cs.size = 12) : (Tryz.prog.info? 48).map (·.size) = some cs.size := by rw [h]; kernel_rfl
theorem smp_one (L : Int) (f : Nat → Int) (k : Nat) : (smp L f k).toArray.all (·.oneCell') = true := by simp [smp, Value.oneCell']
theorem smp_at {L : Int} {f : Nat → Int} {m k : Nat} (hk : k < 12) : (smp L f m).toArray[k]? = some (.int .i64 (if k < m then lm L (f k) else 0)) := by
  unfold smp
  rw [List.getElem?_toArray, List.getElem?_map, List.getElem?_range hk]; rfl
/-- Two results: a row and a slot. -/
theorem results_row2 {P : Program} {fn : Func} {p u : Tmp} {ty : TypeId} (h : fn.results = #[.cell p ty, .tmp u]) (tmps : Array Value) (w : World) (g : Nat) (t : TypeId) (cs : Array Value) (fr : Nat × Nat) (d : TypeDesc)
    (hp : tmps.getD p undef = .pointer (some ⟨g, 0, none⟩)) (hg : w.heap[g]? = some (.cells cs t fr))
    (hu : P.underlying ty = some d) (hd : (match d with | .struct _ | .array _ _ => true | _ => false) = true) (hi : (P.info? ty).map (·.size) = some cs.size) :
    (results fn tmps).run P w = .ok (.tuple #[.agg cs, tmps.getD u undef]) w := by
  have hp' : tmps[p]?.getD undef = .pointer (some ⟨g, 0, none⟩) := by simpa using hp
  simp [results, h, hp', asAddr, run_loadVar_row w g t ty cs fr d hg hu hd hi]
theorem Only.setRow (w : World) (g : Nat) (cs : Array Value) : Only g w (w.setRow g cs) := ⟨rfl, rfl, rfl, by simp, fun i _ hne => setRow_other w g i cs (fun e => hne (by rw [e]))⟩
theorem phasor_size {cs : Array Value} (h : cs.size = 12) : (Tryz.prog.info? 46).map (·.size) = some cs.size := by rw [h]; kernel_rfl

theorem z12_one : (#[.int .i64 0, .int .i64 0, .int .i64 0, .int .i64 0, .int .i64 0, .int .i64 0, .int .i64 0, .int .i64 0, .int .i64 0, .int .i64 0, .int .i64 0, .int .i64 0] : Array Value).all (·.oneCell') = true := by simp [Value.oneCell']
theorem smp_all0 {L : Int} {f : Nat → Int} (l1 : 1 ≤ L) (_ : L ≤ 16383) (h : ∀ k, k < 12 → f k = 0) : smp L f 12 = List.replicate 12 (Value.int .i64 0) := by
  have e : lm L 0 = 0 := by unfold lm clamp; omega
  unfold smp
  have : ∀ j ∈ List.range 12, (Value.int .i64 (if j < 12 then lm L (f j) else 0)) = Value.int .i64 0 := by
    intro j hj
    have hj := List.mem_range.1 hj
    rw [if_pos hj, h j hj, e]
  rw [List.map_congr_left this]
  rfl
theorem zu0 {p : PQ} (hu : p.u = GQ.i 0 0) (hv : p.v = GQ.i 0 0) (k : Nat) : (p * PQ.zp k).u = GQ.i 0 0 := by
  rw [PQ.mul_u, hu, hv]
  ext <;> simp only [GQ.mul_re, GQ.mul_im, GQ.add_re, GQ.add_im, GQ.i_re, GQ.i_im] <;> grind
theorem zv0 {p : PQ} (hu : p.u = GQ.i 0 0) (hv : p.v = GQ.i 0 0) (k : Nat) : (p * PQ.zp k).v = GQ.i 0 0 := by
  rw [PQ.mul_v, hu, hv]
  ext <;> simp only [GQ.mul_re, GQ.mul_im, GQ.add_re, GQ.add_im, GQ.i_re, GQ.i_im] <;> grind

set_option maxRecDepth 100000 in
set_option maxHeartbeats 12800000 in
theorem channel_w (s1 s2 s3 s4 s5 s6 : Bool) (A1 A2 A3 A4 A5 A6 : Option Addr) (n1 c1 n2 c2 n3 c3 n4 c4 n5 c5 n6 c6 : Nat) (p : PQ) (n : Nat) (r L : Int) (f : Nat → Int) (w : World)
    (hX : PV w (pv s1 A1 n1 c1 s2 A2 n2 c2 s3 A3 n3 c3 s4 A4 n4 c4 s5 A5 n5 c5 s6 A6 n6 c6) p n) (hn : 8 * n + 400 ≤ 12800) (r1 : 1 ≤ r) (r2 : r ≤ 10000) (l1 : 1 ≤ L) (l2 : L ≤ 16383) (hf : ∀ k, k < 12 → Rd (p * PQ.zp k) r (f k))
    (bu bv : Bool) (hu : bu = true ↔ p.u = GQ.i 0 0) (hv : bv = true ↔ p.v = GQ.i 0 0) :
    Calls Tryz.prog 24 #[pv s1 A1 n1 c1 s2 A2 n2 c2 s3 A3 n3 c3 s4 A4 n4 c4 s5 A5 n5 c5 s6 A6 n6 c6, .int .i64 r, .int .i64 L] w fun e w' => e = .returned (.tuple #[.agg (smp L f 12).toArray, .int .i64 0]) ∧ Ext w w' := by
  have HX := Lib.hid hX; have HF := Lib.hid hf; have HU := Lib.hid hu; have HV := Lib.hid hv; clear hX hf hu hv
  have t1 : decide (r < 1) = false := by simp; omega
  have t2 : decide ((10000 : Int) < r) = false := by simp; omega
  have t3 : decide (L < 1) = false := by simp; omega
  have t4 : decide ((16383 : Int) < L) = false := by simp; omega
  have hB3 : Blk (((w.alloc (.cells #[.bool s1, .slice A1 n1 c1, .bool s2, .slice A2 n2 c2, .bool s3, .slice A3 n3 c3, .bool s4, .slice A4 n4 c4, .bool s5, .slice A5 n5 c5, .bool s6, .slice A6 n6 c6] 46)).alloc (.cells #[.int .i64 0, .int .i64 0, .int .i64 0, .int .i64 0, .int .i64 0, .int .i64 0, .int .i64 0, .int .i64 0, .int .i64 0, .int .i64 0, .int .i64 0, .int .i64 0] 48)).alloc (.cells #[.int .i64 0, .int .i64 0, .int .i64 0, .int .i64 0, .int .i64 0, .int .i64 0, .int .i64 0, .int .i64 0, .int .i64 0, .int .i64 0, .int .i64 0, .int .i64 0] 48)) w.heap.size 46 #[.bool s1, .slice A1 n1 c1, .bool s2, .slice A2 n2 c2, .bool s3, .slice A3 n3 c3, .bool s4, .slice A4 n4 c4, .bool s5, .slice A5 n5 c5, .bool s6, .slice A6 n6 c6] := ((Blk.new _ _ _).alloc _).alloc _
  have hB6 : Blk (((w.alloc (.cells #[.bool s1, .slice A1 n1 c1, .bool s2, .slice A2 n2 c2, .bool s3, .slice A3 n3 c3, .bool s4, .slice A4 n4 c4, .bool s5, .slice A5 n5 c5, .bool s6, .slice A6 n6 c6] 46)).alloc (.cells #[.int .i64 0, .int .i64 0, .int .i64 0, .int .i64 0, .int .i64 0, .int .i64 0, .int .i64 0, .int .i64 0, .int .i64 0, .int .i64 0, .int .i64 0, .int .i64 0] 48)).alloc (.cells #[.int .i64 0, .int .i64 0, .int .i64 0, .int .i64 0, .int .i64 0, .int .i64 0, .int .i64 0, .int .i64 0, .int .i64 0, .int .i64 0, .int .i64 0, .int .i64 0] 48)) (w.heap.size + 1) 48 #[.int .i64 0, .int .i64 0, .int .i64 0, .int .i64 0, .int .i64 0, .int .i64 0, .int .i64 0, .int .i64 0, .int .i64 0, .int .i64 0, .int .i64 0, .int .i64 0] := (Blk.new' _ _ (by simp)).alloc _
  have hB8 : Blk (((w.alloc (.cells #[.bool s1, .slice A1 n1 c1, .bool s2, .slice A2 n2 c2, .bool s3, .slice A3 n3 c3, .bool s4, .slice A4 n4 c4, .bool s5, .slice A5 n5 c5, .bool s6, .slice A6 n6 c6] 46)).alloc (.cells #[.int .i64 0, .int .i64 0, .int .i64 0, .int .i64 0, .int .i64 0, .int .i64 0, .int .i64 0, .int .i64 0, .int .i64 0, .int .i64 0, .int .i64 0, .int .i64 0] 48)).alloc (.cells #[.int .i64 0, .int .i64 0, .int .i64 0, .int .i64 0, .int .i64 0, .int .i64 0, .int .i64 0, .int .i64 0, .int .i64 0, .int .i64 0, .int .i64 0, .int .i64 0] 48)) (w.heap.size + 2) 48 #[.int .i64 0, .int .i64 0, .int .i64 0, .int .i64 0, .int .i64 0, .int .i64 0, .int .i64 0, .int .i64 0, .int .i64 0, .int .i64 0, .int .i64 0, .int .i64 0] := Blk.new' _ _ (by simp)
  have hE : Ext w (((w.alloc (.cells #[.bool s1, .slice A1 n1 c1, .bool s2, .slice A2 n2 c2, .bool s3, .slice A3 n3 c3, .bool s4, .slice A4 n4 c4, .bool s5, .slice A5 n5 c5, .bool s6, .slice A6 n6 c6] 46)).alloc (.cells #[.int .i64 0, .int .i64 0, .int .i64 0, .int .i64 0, .int .i64 0, .int .i64 0, .int .i64 0, .int .i64 0, .int .i64 0, .int .i64 0, .int .i64 0, .int .i64 0] 48)).alloc (.cells #[.int .i64 0, .int .i64 0, .int .i64 0, .int .i64 0, .int .i64 0, .int .i64 0, .int .i64 0, .int .i64 0, .int .i64 0, .int .i64 0, .int .i64 0, .int .i64 0] 48)) := ((Ext.new _ _).alloc _).alloc _
  have k0 := hB3.cell
  go_enter Tryz.func24, Tryz.ntmps24
  go_wp2_with fail
  generalize (((w.alloc (.cells #[.bool s1, .slice A1 n1 c1, .bool s2, .slice A2 n2 c2, .bool s3, .slice A3 n3 c3, .bool s4, .slice A4 n4 c4, .bool s5, .slice A5 n5 c5, .bool s6, .slice A6 n6 c6] 46)).alloc (.cells #[.int .i64 0, .int .i64 0, .int .i64 0, .int .i64 0, .int .i64 0, .int .i64 0, .int .i64 0, .int .i64 0, .int .i64 0, .int .i64 0, .int .i64 0, .int .i64 0] 48)).alloc (.cells #[.int .i64 0, .int .i64 0, .int .i64 0, .int .i64 0, .int .i64 0, .int .i64 0, .int .i64 0, .int .i64 0, .int .i64 0, .int .i64 0, .int .i64 0, .int .i64 0] 48)) = w1 at hB3 hB6 hB8 hE k0 ⊢
  have hb0 : w.heap.size ≤ w.heap.size := Nat.le_refl _
  generalize hg8 : w.heap.size + 2 = g8 at hB8 ⊢
  generalize hg6 : w.heap.size + 1 = g6 at hB6 ⊢
  generalize hg3 : w.heap.size = g3 at hB3 k0 ⊢
  have HG := Lib.hid (And.intro hg3 (And.intro hg6 hg8)); clear hg3 hg6 hg8 hb0
  have HE := Lib.hid hE; clear hE
  refine (eValid_gv _ p.u n _ (HX.out.gu.ext HE.out) (by omega)).mono ?_
  rintro e w2 ⟨rfl, hx⟩
  clear k0
  have hx1 := HE.out.trans hx
  replace hB3 := hB3.ext hx; replace hB6 := hB6.ext hx; replace hB8 := hB8.ext hx
  clear HE hx
  have HE := Lib.hid hx1; clear hx1
  have k0 := hB3.cell
  go_wp2_with fail
  refine (eValid_gv _ p.v n _ (HX.out.gw.ext HE.out) (by omega)).mono ?_
  rintro e w3 ⟨rfl, hx⟩
  clear k0
  have hx1 := HE.out.trans hx
  replace hB3 := hB3.ext hx; replace hB6 := hB6.ext hx; replace hB8 := hB8.ext hx
  clear HE hx
  have HE := Lib.hid hx1; clear hx1
  have k0 := hB3.cell
  go_wp2_with fail
  refine (xZero_bb _ p.u n bu _ (HX.out.gu.ext HE.out) (by omega) HU.out).mono ?_
  rintro e w4 ⟨rfl, hx⟩
  clear k0
  have hx1 := HE.out.trans hx
  replace hB3 := hB3.ext hx; replace hB6 := hB6.ext hx; replace hB8 := hB8.ext hx
  clear HE hx
  have HE := Lib.hid hx1; clear hx1
  have k0 := hB3.cell
  cases bu
  · clear HV
    clear k0
    go_wp2_with fail
    go_loopw [48] (fun i wr => ∃ k : Nat, k ≤ 12 ∧ i = .int .i64 k ∧ Blk wr g8 48 (smp L f k).toArray ∧ Blk wr g6 48 #[.int .i64 0, .int .i64 0, .int .i64 0, .int .i64 0, .int .i64 0, .int .i64 0, .int .i64 0, .int .i64 0, .int .i64 0, .int .i64 0, .int .i64 0, .int .i64 0] ∧ Blk wr g3 46 #[.bool s1, .slice A1 n1 c1, .bool s2, .slice A2 n2 c2, .bool s3, .slice A3 n3 c3, .bool s4, .slice A4 n4 c4, .bool s5, .slice A5 n5 c5, .bool s6, .slice A6 n6 c6] ∧ Ext w wr) (fun i _ => 12 - (intOf i).toNat)
    case atStart => exact ⟨0, by omega, rfl, by rw [smp_zero, zero12]; exact hB8, hB6, hB3, HE.out⟩
    case round =>
      obtain ⟨k, hk, rfl, b8, b6, b3, hx⟩ := hrel
      clear hB3 hB6 hB8 HE
      by_cases hlt : k < 12
      · have hd : decide ((k : Int) < 12) = true := by simp; omega
        have HXX := Lib.hid hx; have HB8 := Lib.hid b8; have HB6 := Lib.hid b6; clear hx b8 b6
        go_wp2_with (refine wpList_load_row rfl 46 _ rfl g3 (by rfl) 46 _ (0, 0) _ b3 Tryz.underlying46 rfl (phasor_size rfl) ?_)
        refine (xTurn_ok (pv s1 A1 n1 c1 s2 A2 n2 c2 s3 A3 n3 c3 s4 A4 n4 c4 s5 A5 n5 c5 s6 A6 n6 c6) p n k k _ (HX.out.ext HXX.out) (by omega) (by omega) (by omega) (by omega)).mono ?_
        rintro e w5 ⟨v5, rfl, ⟨u5, rfl, hP⟩, hx5⟩
        obtain ⟨t1, B1, m1, d1, t2, B2, m2, d2, t3, B3, m3, d3, t4, B4, m4, d4, t5, B5, m5, d5, t6, B6, m6, d6, rfl⟩ := hP.opn
        have HP := Lib.hid hP; clear hP
        have HX5 := Lib.hid hx5; clear hx5
        have hW : wr.heap.size ≤ w5.heap.size := HX5.out.size
        have hA : ∀ cs : Array Value, Ext wr (w5.alloc (.cells cs 46)) := fun cs => HX5.out.alloc _
        go_wp2_with (refine wpList_load_row rfl 46 _ rfl w5.heap.size (by rfl) 46 _ (0, 0) _ (Blk.new w5 46 _) Tryz.underlying46 rfl (phasor_size rfl) ?_)
        refine (xRound_q _ (p * PQ.zp k) (n + n + 65) r (f k) _ (HP.out.ext ((Ext.refl _).alloc _)) r1 r2 (by omega) (HF.out k hlt)).mono ?_
        rintro e w6 ⟨rfl, hx6⟩
        have hx7 : Ext wr w6 := (hA _).trans hx6
        clear hA
        have hb8 := HB8.out.ext hx7
        have hfz := hb8.frozen k
        have hcl := (hb8.cell k).trans (smp_at (L := L) (f := f) (m := k) hlt)
        have q1 : (0 : Int) ≤ (k : Int) := by omega
        have q2 : (k : Int) < 12 := by omega
        have LM := IntWalk.wrap64_in (-L) (by omega)
        have HX7 := Lib.hid hx7; have HB := Lib.hid hb8; clear hx7 hb8 hx6
        go_wp2_with fail
        go_roundw
        case rel =>
          have hO := Only.set w6 g8 k (.int .i64 (lm L (f k)))
          have h8 := HB.out.setL (i := k) (.int .i64 (lm L (f k)))
          rw [smp_set hlt] at h8
          obtain ⟨h1, h2, h3⟩ := HG.out
          exact ⟨k + 1, by omega, by go_num, h8, hO.blk (HB6.out.ext HX7.out) (by omega), hO.blk (b3.ext HX7.out) (by omega), hO.ext (HXX.out.trans HX7.out) (by omega)⟩
        case measure => simp [intOf]; omega
      · obtain rfl : k = 12 := by omega
        have HB8 := Lib.hid b8; have HX := Lib.hid hx
        go_wp2_with (first | (refine wpList_load_row rfl 48 _ rfl g8 (by rfl) 48 _ (0, 0) _ b8 Tryz.underlying48 rfl (a12_sz (by simp [smp])) ?_) | (refine wpList_store_row rfl 48 _ _ rfl g6 (smp L f 12).toArray rfl rfl 48 _ b6 (a12_sz (by simp [smp])) (by simp [smp]) (smp_one _ _ _) ?_))
        have hO := Only.setRow wr g6 (smp L f 12).toArray
        obtain ⟨h1, h2, h3⟩ := HG.out
        refine Go.bodyPost_ret_by (results_row2 rfl _ _ g6 48 (smp L f 12).toArray (0, 0) _ rfl (setRow_heap wr g6 _ _ _ _ b6) Tryz.underlying48 rfl (a12_sz (by simp [smp]))) rfl ⟨rfl, hO.ext hx (by omega)⟩
  · go_wp2_with fail
    refine (xZero_bb _ p.v n bv _ (HX.out.gw.ext HE.out) (by omega) HV.out).mono ?_
    rintro e w5 ⟨rfl, hx⟩
    clear k0
    have hx1 := HE.out.trans hx
    replace hB3 := hB3.ext hx; replace hB6 := hB6.ext hx; replace hB8 := hB8.ext hx
    clear HE hx
    have HE := Lib.hid hx1; clear hx1
    have k0 := hB3.cell
    cases bv
    · clear HU
      clear k0
      go_wp2_with fail
      go_loopw [48] (fun i wr => ∃ k : Nat, k ≤ 12 ∧ i = .int .i64 k ∧ Blk wr g8 48 (smp L f k).toArray ∧ Blk wr g6 48 #[.int .i64 0, .int .i64 0, .int .i64 0, .int .i64 0, .int .i64 0, .int .i64 0, .int .i64 0, .int .i64 0, .int .i64 0, .int .i64 0, .int .i64 0, .int .i64 0] ∧ Blk wr g3 46 #[.bool s1, .slice A1 n1 c1, .bool s2, .slice A2 n2 c2, .bool s3, .slice A3 n3 c3, .bool s4, .slice A4 n4 c4, .bool s5, .slice A5 n5 c5, .bool s6, .slice A6 n6 c6] ∧ Ext w wr) (fun i _ => 12 - (intOf i).toNat)
      case atStart => exact ⟨0, by omega, rfl, by rw [smp_zero, zero12]; exact hB8, hB6, hB3, HE.out⟩
      case round =>
        obtain ⟨k, hk, rfl, b8, b6, b3, hx⟩ := hrel
        clear hB3 hB6 hB8 HE
        by_cases hlt : k < 12
        · have hd : decide ((k : Int) < 12) = true := by simp; omega
          have HXX := Lib.hid hx; have HB8 := Lib.hid b8; have HB6 := Lib.hid b6; clear hx b8 b6
          go_wp2_with (refine wpList_load_row rfl 46 _ rfl g3 (by rfl) 46 _ (0, 0) _ b3 Tryz.underlying46 rfl (phasor_size rfl) ?_)
          refine (xTurn_ok (pv s1 A1 n1 c1 s2 A2 n2 c2 s3 A3 n3 c3 s4 A4 n4 c4 s5 A5 n5 c5 s6 A6 n6 c6) p n k k _ (HX.out.ext HXX.out) (by omega) (by omega) (by omega) (by omega)).mono ?_
          rintro e w5 ⟨v5, rfl, ⟨u5, rfl, hP⟩, hx5⟩
          obtain ⟨t1, B1, m1, d1, t2, B2, m2, d2, t3, B3, m3, d3, t4, B4, m4, d4, t5, B5, m5, d5, t6, B6, m6, d6, rfl⟩ := hP.opn
          have HP := Lib.hid hP; clear hP
          have HX5 := Lib.hid hx5; clear hx5
          have hW : wr.heap.size ≤ w5.heap.size := HX5.out.size
          have hA : ∀ cs : Array Value, Ext wr (w5.alloc (.cells cs 46)) := fun cs => HX5.out.alloc _
          go_wp2_with (refine wpList_load_row rfl 46 _ rfl w5.heap.size (by rfl) 46 _ (0, 0) _ (Blk.new w5 46 _) Tryz.underlying46 rfl (phasor_size rfl) ?_)
          refine (xRound_q _ (p * PQ.zp k) (n + n + 65) r (f k) _ (HP.out.ext ((Ext.refl _).alloc _)) r1 r2 (by omega) (HF.out k hlt)).mono ?_
          rintro e w6 ⟨rfl, hx6⟩
          have hx7 : Ext wr w6 := (hA _).trans hx6
          clear hA
          have hb8 := HB8.out.ext hx7
          have hfz := hb8.frozen k
          have hcl := (hb8.cell k).trans (smp_at (L := L) (f := f) (m := k) hlt)
          have q1 : (0 : Int) ≤ (k : Int) := by omega
          have q2 : (k : Int) < 12 := by omega
          have LM := IntWalk.wrap64_in (-L) (by omega)
          have HX7 := Lib.hid hx7; have HB := Lib.hid hb8; clear hx7 hb8 hx6
          go_wp2_with fail
          go_roundw
          case rel =>
            have hO := Only.set w6 g8 k (.int .i64 (lm L (f k)))
            have h8 := HB.out.setL (i := k) (.int .i64 (lm L (f k)))
            rw [smp_set hlt] at h8
            obtain ⟨h1, h2, h3⟩ := HG.out
            exact ⟨k + 1, by omega, by go_num, h8, hO.blk (HB6.out.ext HX7.out) (by omega), hO.blk (b3.ext HX7.out) (by omega), hO.ext (HXX.out.trans HX7.out) (by omega)⟩
          case measure => simp [intOf]; omega
        · obtain rfl : k = 12 := by omega
          have HB8 := Lib.hid b8; have HX := Lib.hid hx
          go_wp2_with (first | (refine wpList_load_row rfl 48 _ rfl g8 (by rfl) 48 _ (0, 0) _ b8 Tryz.underlying48 rfl (a12_sz (by simp [smp])) ?_) | (refine wpList_store_row rfl 48 _ _ rfl g6 (smp L f 12).toArray rfl rfl 48 _ b6 (a12_sz (by simp [smp])) (by simp [smp]) (smp_one _ _ _) ?_))
          have hO := Only.setRow wr g6 (smp L f 12).toArray
          obtain ⟨h1, h2, h3⟩ := HG.out
          refine Go.bodyPost_ret_by (results_row2 rfl _ _ g6 48 (smp L f 12).toArray (0, 0) _ rfl (setRow_heap wr g6 _ _ _ _ b6) Tryz.underlying48 rfl (a12_sz (by simp [smp]))) rfl ⟨rfl, hO.ext hx (by omega)⟩
    · clear k0
      have hu0 : p.u = GQ.i 0 0 := by simpa using HU.out
      have hv0 : p.v = GQ.i 0 0 := by simpa using HV.out
      have hp0 : smp L f 12 = List.replicate 12 (Value.int .i64 0) := smp_all0 l1 l2 (fun k hk => Rd.unique (HF.out k hk) (Rd.zero (by omega) (zu0 hu0 hv0 k) (zv0 hu0 hv0 k)))
      have HP0 := Lib.hid hp0; clear hp0 hu0 hv0
      go_wp2_with (first | (refine wpList_load_row rfl 48 _ rfl g8 (by rfl) 48 _ (0, 0) _ hB8 Tryz.underlying48 rfl (a12_sz rfl) ?_) | (refine wpList_store_row rfl 48 _ _ rfl g6 #[.int .i64 0, .int .i64 0, .int .i64 0, .int .i64 0, .int .i64 0, .int .i64 0, .int .i64 0, .int .i64 0, .int .i64 0, .int .i64 0, .int .i64 0, .int .i64 0] rfl rfl 48 _ hB6 (a12_sz rfl) rfl z12_one ?_))
      obtain ⟨h1, h2, h3⟩ := HG.out
      refine Go.bodyPost_ret_by (results_row2 rfl _ _ g6 48 #[.int .i64 0, .int .i64 0, .int .i64 0, .int .i64 0, .int .i64 0, .int .i64 0, .int .i64 0, .int .i64 0, .int .i64 0, .int .i64 0, .int .i64 0, .int .i64 0] (0, 0) _ rfl (setRow_heap _ g6 _ _ _ _ hB6) Tryz.underlying48 rfl (a12_sz rfl)) rfl ?_
      refine ⟨?_, (Only.setRow _ g6 _).ext HE.out (by omega)⟩
      rw [HP0.out, zero12]; rfl

theorem channel_q (v : Value) (p : PQ) (n : Nat) (r L : Int) (f : Nat → Int) (w : World) (hX : PV w v p n) (hn : 8 * n + 400 ≤ 12800) (r1 : 1 ≤ r) (r2 : r ≤ 10000) (l1 : 1 ≤ L) (l2 : L ≤ 16383) (hf : ∀ k, k < 12 → Rd (p * PQ.zp k) r (f k)) :
    Calls Tryz.prog 24 #[v, .int .i64 r, .int .i64 L] w fun e w' => e = .returned (.tuple #[.agg (smp L f 12).toArray, .int .i64 0]) ∧ Ext w w' := by
  obtain ⟨s1, A1, n1, c1, s2, A2, n2, c2, s3, A3, n3, c3, s4, A4, n4, c4, s5, A5, n5, c5, s6, A6, n6, c6, rfl⟩ := hX.opn
  obtain ⟨bu, hu⟩ : ∃ b : Bool, b = true ↔ p.u = GQ.i 0 0 := by
    by_cases h : p.u = GQ.i 0 0
    · exact ⟨true, by simp [h]⟩
    · exact ⟨false, by simp [h]⟩
  obtain ⟨bv, hv⟩ : ∃ b : Bool, b = true ↔ p.v = GQ.i 0 0 := by
    by_cases h : p.v = GQ.i 0 0
    · exact ⟨true, by simp [h]⟩
    · exact ⟨false, by simp [h]⟩
  exact channel_w _ _ _ _ _ _ _ _ _ _ _ _ _ _ _ _ _ _ _ _ _ _ _ _ p n r L f w hX hn r1 r2 l1 l2 hf bu bv hu hv
end Go.Proofs.YtclkkoiaaddllaaGreat
