/- Linear: duplicate's walk. -/
import Derived.Test.YtclkkoiaaddllaaGreatQYlalbh

namespace Go.Proofs.YtclkkoiaaddllaaGreat
open Go.RowKit
set_option linter.unusedVariables false

/-- What duplicate has made after i rows. -/
structure DI (w W : World) (G m na i : Nat) (X : Nat → Nat → GQ) (R : Nat → Rw) : Prop where
  out : Blk W G 37 (mxc m R).toArray
  gx : w.heap.size ≤ G
  len : ∀ i', i' < i → (R i').n = na ∧ (R i').c = na
  row : ∀ i', i' < i → (R i').A = some ⟨(R i').b, 0, none⟩ ∧ RowIs W (R i').b na (X i') ∧ w.heap.size ≤ (R i').b
  inj : ∀ i' j', i' < i → j' < i → (R i').b = (R j').b → i' = j'
  ext : Ext w W
theorem mxc_upd {m : Nat} {R : Nat → Rw} {i : Nat} {r : Rw} : (mxc m R).toArray.setIfInBounds i r.v = (mxc m (upd R i r)).toArray := by
  rw [List.setIfInBounds_toArray]
  congr 1
  apply List.ext_getElem
  · simp [mxc]
  · intro k h1 h2
    simp only [mxc, List.getElem_set, List.getElem_map, List.getElem_range]
    by_cases e : i = k
    · subst e; rw [if_pos rfl, upd_same]
    · rw [if_neg e, upd_ne (fun x => e x.symm)]
theorem RI3 {w : World} {e : En} {q : GQ} {n : Nat} (h : GV w e.v q n) : ∃ a b d, RI w (iv e.s1 e.A1 e.n1 e.c1) a ∧ RI w (iv e.s2 e.A2 e.n2 e.c2) b ∧ RI w (iv e.s3 e.A3 e.n3 e.c3) d ∧ Is q a b d ∧ Sz n a b d := by
  obtain ⟨a, b, d, h1, I, Z⟩ := h
  have := RG.inj (show RG w (gv e.s1 e.A1 e.n1 e.c1 e.s2 e.A2 e.n2 e.c2 e.s3 e.A3 e.n3 e.c3) a b d from h1)
  exact ⟨a, b, d, this.1, this.2.1, this.2.2, I, Z⟩
theorem RI.small {w : World} {s : Bool} {A : Option Addr} {n c : Nat} {z : Int} (h : RI w (iv s A n c) z) (hz : z.natAbs < 2 ^ 12800) : n ≤ 1000000 := by
  have h1 : z.natAbs < 2 ^ (32 * 400) := by rw [show 32 * 400 = 12800 from rfl]; exact hz
  have := RI.le h h1
  omega
theorem Only.setRow (w : World) (g : Nat) (cs : Array Value) : Only g w (w.setRow g cs) := ⟨rfl, rfl, rfl, by simp, fun i _ hne => setRow_other w g i cs (fun e => hne (by rw [e]))⟩
theorem copy_row {W2 : World} {g na b o cs : Nat} {As : Option Addr} {f0 f : Nat → En} (hb : Blk W2 g 32 (rowc na f0).toArray) (hsrc : 0 < na → As = some ⟨b, o, none⟩) (hc : ∀ j, j < na → ∀ t u, (f j).cells[t]? = some u → W2.cell? ⟨b, o + (j * 6 + t), none⟩ = some u) :
    ∃ W3, Sem.run Tryz.prog (Builtin.copy_ #[37, 37] 3 #[.slice (some ⟨g, 0, none⟩) na na, .slice As na cs]) W2 = .ok (goInt na) W3 ∧ Blk W3 g 32 (rowc na f).toArray ∧ Mod (fun k => k = g) W2 W3 := by
  have hmin : Nat.min na na = na := by simp
  by_cases h0 : na = 0
  · subst h0
    refine ⟨W2, ?_, hb, Mod.refl _ _⟩
    have hl : ∀ (x : Addr), (loadCells x 0).run Tryz.prog W2 = .ok #[] W2 := fun x => by simpa using run_loadCells_list (P := Tryz.prog) W2 x [] (by simp)
    cases hq : Tryz.prog.info? 32 with
    | none => have := gauss_six; rw [hq] at this; cases this
    | some i => cases As <;> simp [Builtin.copy_, run_underlying Tryz.underlying37, Builtin.lenOf, Builtin.firstCells, sizeOf, typeInfo, hq, storeCells, hl]
  · have hA := hsrc (by omega)
    subst hA
    have h := run_copy_k 6 W2 37 37 3 32 g 0 na na ⟨b, o, none⟩ na cs (rowc na f0).toArray 32 (rowc na f) Tryz.underlying37 gauss_six hb (by rw [rowc_len, hmin]) (fun j v hj => by
      have hj2 : j < na * 6 := by have := (List.getElem?_eq_some_iff.1 hj).1; rwa [rowc_len] at this
      have e : j = (j / 6) * 6 + j % 6 := by omega
      rw [e, rowc_at (Nat.mod_lt _ (by omega)) (by omega)] at hj
      have := hc _ (by omega) _ _ hj
      rw [← e] at this
      have e2 : (⟨b, o, none⟩ : Addr).add j = ⟨b, o + j, none⟩ := by unfold Addr.add; by_cases hj0 : j = 0 <;> simp [hj0]
      rw [e2]; exact this) (by rw [rowc_len]; simp [rowc_len]) (rowc_one na f)
    rw [hmin] at h
    refine ⟨_, h, ?_, ?_⟩
    · have e : ((rowc na f0).toArray.toList.take 0 ++ rowc na f ++ (rowc na f0).toArray.toList.drop (0 + (rowc na f).length)).toArray = (rowc na f).toArray := by
        simp [rowc_len]
      rw [e]
      exact setRow_heap _ g _ _ _ _ hb
    · exact Mod.only (Only.setRow _ _ _) rfl
theorem clone_st1 {w wA : World} {g na j : Nat} {f : Nat → En} {x : Nat → GQ} {A' : Option Addr} {n' c' : Nat} {z : Int} (hb : Blk w g 32 (rowc na f).toArray) (hv : ∀ j, j < na → GV w (f j).v (x j) 12800) (hj : j < na) (hz : RI w (iv (f j).s1 (f j).A1 (f j).n1 (f j).c1) z) (xx : Ext w wA) (hr : RI wA (iv (f j).s1 A' n' c') z) (I3 : ∃ a b d, RI w (iv (f j).s1 (f j).A1 (f j).n1 (f j).c1) a ∧ RI w (iv (f j).s2 (f j).A2 (f j).n2 (f j).c2) b ∧ RI w (iv (f j).s3 (f j).A3 (f j).n3 (f j).c3) d ∧ Is (x j) a b d ∧ Sz 12800 a b d ∧ z = a) :
    ∃ f', Blk (wA.setCell ⟨g, j * 6 + 1, none⟩ (.slice A' n' c')) g 32 (rowc na f').toArray ∧ (∀ j', j' < na → GV (wA.setCell ⟨g, j * 6 + 1, none⟩ (.slice A' n' c')) (f' j').v (x j') 12800) ∧ Mod (fun k => k = g) w (wA.setCell ⟨g, j * 6 + 1, none⟩ (.slice A' n' c')) := by
  obtain ⟨a, b, d, i1, i2, i3, I, Z, rfl⟩ := I3
  have hp := RowIs.put1 (e := { f j with A1 := A', n1 := n', c1 := c' }) (t := 1) (u := .slice A' n' c') (hb.ext xx) (fun j hj => (hv j hj).ext xx) hj (by omega) rfl ⟨_, _, _, ⟨_, _, _, _, _, _, _, _, _, _, _, _, rfl, hr, i2.ext xx, i3.ext xx⟩, I, Z⟩
  exact ⟨_, hp.1.1, hp.1.2, (Mod.of xx).trans hp.2⟩
theorem clone_st2 {w wA : World} {g na j : Nat} {f : Nat → En} {x : Nat → GQ} {A' : Option Addr} {n' c' : Nat} {z : Int} (hb : Blk w g 32 (rowc na f).toArray) (hv : ∀ j, j < na → GV w (f j).v (x j) 12800) (hj : j < na) (hz : RI w (iv (f j).s2 (f j).A2 (f j).n2 (f j).c2) z) (xx : Ext w wA) (hr : RI wA (iv (f j).s2 A' n' c') z) (I3 : ∃ a b d, RI w (iv (f j).s1 (f j).A1 (f j).n1 (f j).c1) a ∧ RI w (iv (f j).s2 (f j).A2 (f j).n2 (f j).c2) b ∧ RI w (iv (f j).s3 (f j).A3 (f j).n3 (f j).c3) d ∧ Is (x j) a b d ∧ Sz 12800 a b d ∧ z = b) :
    ∃ f', Blk (wA.setCell ⟨g, j * 6 + 3, none⟩ (.slice A' n' c')) g 32 (rowc na f').toArray ∧ (∀ j', j' < na → GV (wA.setCell ⟨g, j * 6 + 3, none⟩ (.slice A' n' c')) (f' j').v (x j') 12800) ∧ Mod (fun k => k = g) w (wA.setCell ⟨g, j * 6 + 3, none⟩ (.slice A' n' c')) := by
  obtain ⟨a, b, d, i1, i2, i3, I, Z, rfl⟩ := I3
  have hp := RowIs.put1 (e := { f j with A2 := A', n2 := n', c2 := c' }) (t := 3) (u := .slice A' n' c') (hb.ext xx) (fun j hj => (hv j hj).ext xx) hj (by omega) rfl ⟨_, _, _, ⟨_, _, _, _, _, _, _, _, _, _, _, _, rfl, i1.ext xx, hr, i3.ext xx⟩, I, Z⟩
  exact ⟨_, hp.1.1, hp.1.2, (Mod.of xx).trans hp.2⟩
theorem clone_st3 {w wA : World} {g na j : Nat} {f : Nat → En} {x : Nat → GQ} {A' : Option Addr} {n' c' : Nat} {z : Int} (hb : Blk w g 32 (rowc na f).toArray) (hv : ∀ j, j < na → GV w (f j).v (x j) 12800) (hj : j < na) (hz : RI w (iv (f j).s3 (f j).A3 (f j).n3 (f j).c3) z) (xx : Ext w wA) (hr : RI wA (iv (f j).s3 A' n' c') z) (I3 : ∃ a b d, RI w (iv (f j).s1 (f j).A1 (f j).n1 (f j).c1) a ∧ RI w (iv (f j).s2 (f j).A2 (f j).n2 (f j).c2) b ∧ RI w (iv (f j).s3 (f j).A3 (f j).n3 (f j).c3) d ∧ Is (x j) a b d ∧ Sz 12800 a b d ∧ z = d) :
    ∃ f', Blk (wA.setCell ⟨g, j * 6 + 5, none⟩ (.slice A' n' c')) g 32 (rowc na f').toArray ∧ (∀ j', j' < na → GV (wA.setCell ⟨g, j * 6 + 5, none⟩ (.slice A' n' c')) (f' j').v (x j') 12800) ∧ Mod (fun k => k = g) w (wA.setCell ⟨g, j * 6 + 5, none⟩ (.slice A' n' c')) := by
  obtain ⟨a, b, d, i1, i2, i3, I, Z, rfl⟩ := I3
  have hp := RowIs.put1 (e := { f j with A3 := A', n3 := n', c3 := c' }) (t := 5) (u := .slice A' n' c') (hb.ext xx) (fun j hj => (hv j hj).ext xx) hj (by omega) rfl ⟨_, _, _, ⟨_, _, _, _, _, _, _, _, _, _, _, _, rfl, i1.ext xx, i2.ext xx, hr⟩, I, Z⟩
  exact ⟨_, hp.1.1, hp.1.2, (Mod.of xx).trans hp.2⟩
set_option maxRecDepth 100000 in
set_option maxHeartbeats 6400000 in
theorem dup_w {A : Option Addr} {B O m c na : Nat} {R : Nat → Rw} {E : Nat → Nat → En} {X : Nat → Nat → GQ} {w : World} (h : Mem w A B O m R E) (hn : ∀ i, i < m → (R i).n = na) (hv : ∀ i j, i < m → j < na → GV w (E i j).v (X i j) 12800) (hm : m ≤ 24) (hna : na ≤ 24) :
    Calls Tryz.prog 31 #[.slice A m c] w fun e w' => ∃ (G : Nat) (R' : Nat → Rw), e = .returned (.slice (some ⟨G, 0, none⟩) m m) ∧ DI w w' G m na m X R' := by
  have HM := Lib.hid h; have HN := Lib.hid hn; have HV := Lib.hid hv; clear h hn hv
  have hmk := make_mx m (by omega)
  have hmr := make_row na (by omega)
  go_enter Tryz.func31, Tryz.ntmps31
  go_wp2_with fail
  clear hmk
  go_loopw [13] (fun i wr => ∃ (i' : Nat) (R' : Nat → Rw), i' ≤ m ∧ i = .int .i64 i' ∧ DI w wr w.heap.size m na i' X R') (fun i _ => m - (intOf i).toNat)
  case atStart => exact ⟨0, fun _ => nilRw, by omega, rfl, Blk.new _ _ _, Nat.le_refl _, by intros; omega, by intros; omega, by intros; omega, Ext.new _ _⟩
  case round =>
    obtain ⟨i, R', hi, rfl, hD⟩ := hrel
    have HD := Lib.hid hD; clear hD
    by_cases hlt : i < m
    · have hd : decide ((i : Int) < (m : Int)) = true := by simp; omega
      have hA := HM.out.at0 (by omega)
      have hr := HM.out.rowc hlt HD.out.ext
      rw [HN.out i hlt] at hr
      subst hA
      have hE1 := Ext.new wr (.cells (rowc na fun _ => zEn).toArray 32)
      have hO1 := HD.out.out.ext hE1
      have fr := hO1.frozen
      have k1 : (wr.alloc (.cells (rowc na fun _ => zEn).toArray 32)).cell? ⟨w.heap.size, i, none⟩ = some (R' i).v := by rw [hO1.cell]; exact mxc_at hlt
      have hO2 : Blk ((wr.alloc (.cells (rowc na fun _ => zEn).toArray 32)).setCell ⟨w.heap.size, i, none⟩ (.slice (some ⟨wr.heap.size, 0, none⟩) na na)) w.heap.size 37 (mxc m (upd R' i ⟨some ⟨wr.heap.size, 0, none⟩, wr.heap.size, 0, na, na⟩)).toArray := by
        rw [← mxc_upd]; exact hO1.set_ _ _
      have k2 : ((wr.alloc (.cells (rowc na fun _ => zEn).toArray 32)).setCell ⟨w.heap.size, i, none⟩ (.slice (some ⟨wr.heap.size, 0, none⟩) na na)).cell? ⟨w.heap.size, i, none⟩ = some (.slice (some ⟨wr.heap.size, 0, none⟩) na na) := by rw [hO2.cell, mxc_at hlt, upd_same]; rfl
      have hO1' := Lib.hid hO1; have hO2' := Lib.hid hO2; have hE1' := Lib.hid hE1
      clear hO1 hO2 hE1
      have hgw : w.heap.size < wr.heap.size := HD.out.out.lt
      have hB2 : Blk ((wr.alloc (.cells (rowc na fun _ => zEn).toArray 32)).setCell ⟨w.heap.size, i, none⟩ (.slice (some ⟨wr.heap.size, 0, none⟩) na na)) wr.heap.size 32 (rowc na fun _ => zEn).toArray := (Blk.new _ _ _).far (by show wr.heap.size ≠ w.heap.size; omega) _
      have hX2 : Ext w ((wr.alloc (.cells (rowc na fun _ => zEn).toArray 32)).setCell ⟨w.heap.size, i, none⟩ (.slice (some ⟨wr.heap.size, 0, none⟩) na na)) := (HD.out.ext.trans hE1'.out).setCell (Nat.le_refl _) _
      obtain ⟨w3, hcp, hB3, hm3⟩ := copy_row (cs := (R i).c) hB2 (fun h0 => HM.out.ra i hlt (by rw [HN.out i hlt]; exact h0)) (fun j hj t u hu => hX2.cell_ (HM.out.el i j hlt (by rw [HN.out i hlt]; exact hj) t u hu))
      have hX3 : Ext w w3 := ⟨hm3.os.trans hX2.os, hm3.tape.trans hX2.tape, hm3.output.trans hX2.output, Nat.le_trans hX2.size hm3.size, fun k hk => (hm3.block k (Nat.lt_of_lt_of_le hk hX2.size) (by omega)).trans (hX2.block k hk)⟩
      have hO3 := hO2'.out.mod hm3 (by show ¬ w.heap.size = wr.heap.size; omega)
      have k3 : w3.cell? ⟨w.heap.size, i, none⟩ = some (.slice (some ⟨wr.heap.size, 0, none⟩) na na) := by rw [hO3.cell, mxc_at hlt, upd_same]; rfl
      have HO3 := Lib.hid hO3; have HB3 := Lib.hid hB3; have HX3 := Lib.hid hX3; have HM3 := Lib.hid hm3
      have HGW := Lib.hid hgw
      clear hO3 hB3 hX3 hm3 hB2 hX2 hgw
      go_wp2_with fail
      clear hcp k1 k2 fr hr
      have hM0 : Mod (fun k => k = w.heap.size ∨ k = wr.heap.size) wr w3 := ((Mod.of hE1'.out).trans (Mod.only (Only.set _ _ _ _) (.inl rfl))).trans (HM3.out.mono fun k hk => .inr hk)
      have HM0 := Lib.hid hM0; clear hM0 HM3 hO1' hO2' hE1'
      generalize hgg : wr.heap.size = g at *
      have HGG := Lib.hid hgg; clear hgg
      go_loopw [35] (fun i2 wz => ∃ (j : Nat) (f : Nat → En), j ≤ na ∧ i2 = .int .i64 j ∧ Blk wz g 32 (rowc na f).toArray ∧ (∀ j', j' < na → GV wz (f j').v (X i j') 12800) ∧ Mod (fun k => k = g) w3 wz) (fun i2 _ => na - (intOf i2).toNat)
      case atStart => exact ⟨0, E i, by omega, rfl, HB3.out, fun j hj => (HV.out i j hlt hj).ext HX3.out, Mod.refl _ _⟩
      case round =>
        clear k3
        rename World => wz
        obtain ⟨j, f, hj, rfl, hb, hgv, hmz⟩ := hrel
        have HBz := Lib.hid hb; have HGV := Lib.hid hgv; have HMz := Lib.hid hmz; clear hb hgv hmz
        have hGg : w.heap.size ≠ g := by have := HGW.out; omega
        have hOz := HO3.out.mod HMz.out hGg
        have HOz := Lib.hid hOz
        by_cases hjt : j < na
        · have hd : decide ((j : Int) < (na : Int)) = true := by simp; omega
          have k3 : wz.cell? ⟨w.heap.size, i, none⟩ = some (.slice (some ⟨g, 0, none⟩) na na) := by rw [hOz.cell, mxc_at hlt, upd_same]; rfl
          clear hOz
          have HVz := HGV
          obtain ⟨_, a1, _, _, _, _⟩ := RowIs.cells HBz.out hjt rfl
          obtain ⟨za, zb, zd, i1, i2, i3, I, Z⟩ := RI3 (HVz.out j hjt)
          have HI := Lib.hid i1; have H3 := Lib.hid (show ∃ a b d, RI _ (iv (f j).s1 (f j).A1 (f j).n1 (f j).c1) a ∧ RI _ (iv (f j).s2 (f j).A2 (f j).n2 (f j).c2) b ∧ RI _ (iv (f j).s3 (f j).A3 (f j).n3 (f j).c3) d ∧ Is (X i j) a b d ∧ Sz 12800 a b d ∧ za = a from ⟨za, zb, zd, i1, i2, i3, I, Z, rfl⟩)
          have hsm := RI.small i1 Z.a
          clear i1 i2 i3 I Z
          go_wp2_with fail
          refine (clone_gv _ _ _ _ _ _ HI.out hsm).mono ?_
          rintro e w4 ⟨A', n', c', rfl, hI', hx4⟩
          replace a1 := hx4.cell_ a1
          have fr := (HBz.out.ext hx4).frozen
          obtain ⟨fa, hba, hva, hma⟩ := clone_st1 HBz.out HVz.out hjt HI.out hx4 hI' H3.out
          have HBa := Lib.hid hba; have HVa := Lib.hid hva; have HMa := Lib.hid hma
          clear hba hva hma hI' hx4 HI H3 hsm
          iterate 15 (try (first | go_values | go_skip | go_guarded | go_step | go_upon | go_in | go_back | go_simp))
          clear a1 fr
          generalize w4.setCell _ _ = wa at HBa HVa HMa ⊢
          obtain ⟨_, _, _, a1, _, _⟩ := RowIs.cells HBa.out hjt rfl
          obtain ⟨za, zb, zd, i1, i2, i3, I, Z⟩ := RI3 (HVa.out j hjt)
          have HI := Lib.hid i2; have H3 := Lib.hid (show ∃ a b d, RI _ (iv (fa j).s1 (fa j).A1 (fa j).n1 (fa j).c1) a ∧ RI _ (iv (fa j).s2 (fa j).A2 (fa j).n2 (fa j).c2) b ∧ RI _ (iv (fa j).s3 (fa j).A3 (fa j).n3 (fa j).c3) d ∧ Is (X i j) a b d ∧ Sz 12800 a b d ∧ zb = b from ⟨za, zb, zd, i1, i2, i3, I, Z, rfl⟩)
          have hsm := RI.small i2 Z.b
          clear i1 i2 i3 I Z
          go_wp2_with fail
          refine (clone_gv _ _ _ _ _ _ HI.out hsm).mono ?_
          rintro e w4 ⟨A', n', c', rfl, hI', hx4⟩
          replace a1 := hx4.cell_ a1
          have fr := (HBa.out.ext hx4).frozen
          obtain ⟨fb, hbb, hvb, hmb⟩ := clone_st2 HBa.out HVa.out hjt HI.out hx4 hI' H3.out
          have HBb := Lib.hid hbb; have HVb := Lib.hid hvb; have HMb := Lib.hid hmb
          clear hbb hvb hmb hI' hx4 HI H3 hsm
          iterate 15 (try (first | go_values | go_skip | go_guarded | go_step | go_upon | go_in | go_back | go_simp))
          clear a1 fr
          generalize w4.setCell _ _ = wb at HBb HVb HMb ⊢
          obtain ⟨_, _, _, _, _, a1⟩ := RowIs.cells HBb.out hjt rfl
          obtain ⟨za, zb, zd, i1, i2, i3, I, Z⟩ := RI3 (HVb.out j hjt)
          have HI := Lib.hid i3; have H3 := Lib.hid (show ∃ a b d, RI _ (iv (fb j).s1 (fb j).A1 (fb j).n1 (fb j).c1) a ∧ RI _ (iv (fb j).s2 (fb j).A2 (fb j).n2 (fb j).c2) b ∧ RI _ (iv (fb j).s3 (fb j).A3 (fb j).n3 (fb j).c3) d ∧ Is (X i j) a b d ∧ Sz 12800 a b d ∧ zd = d from ⟨za, zb, zd, i1, i2, i3, I, Z, rfl⟩)
          have hsm := RI.small i3 Z.d
          clear i1 i2 i3 I Z
          go_wp2_with fail
          refine (clone_gv _ _ _ _ _ _ HI.out hsm).mono ?_
          rintro e w4 ⟨A', n', c', rfl, hI', hx4⟩
          replace a1 := hx4.cell_ a1
          have fr := (HBb.out.ext hx4).frozen
          obtain ⟨fc, hbc, hvc, hmc⟩ := clone_st3 HBb.out HVb.out hjt HI.out hx4 hI' H3.out
          have HBc := Lib.hid hbc; have HVc := Lib.hid hvc; have HMc := Lib.hid hmc
          clear hbc hvc hmc hI' hx4 HI H3 hsm
          go_wp2_with fail
          clear a1 fr
          generalize w4.setCell _ _ = wc at HBc HVc HMc ⊢
          go_wp2_with fail
          go_roundw
          case rel => exact ⟨j + 1, fc, by omega, by go_num, HBc.out, HVc.out, ((HMz.out.trans HMa.out).trans HMb.out).trans HMc.out⟩
          case measure => simp [intOf]; omega
        · obtain rfl : j = na := by omega
          have hd : decide ((j : Int) < (j : Int)) = false := by simp
          clear hOz
          go_wp2_with fail
          refine ⟨⟨i + 1, upd R' i ⟨some ⟨g, 0, none⟩, g, 0, j, j⟩, by omega, by go_num, ?_⟩, by simp [intOf]; omega⟩
          have hMz : Mod (fun k => k = w.heap.size ∨ k = g) wr wz := HM0.out.trans (HMz.out.mono fun k hk => .inr hk)
          have hS : Far (fun k => k = w.heap.size ∨ k = g) wr := by
            rintro k (rfl | rfl) hk
            · exact ⟨_, _, HD.out.out, noInt_slices _ _⟩
            · have := HGG.out; omega
          have hrow : ∀ i', i' < i → (R' i').b < g := fun i' hi' => by
            obtain ⟨cs, hcs⟩ := (HD.out.row i' hi').2.1.blk
            have := hcs.lt; have := HGG.out; omega
          refine ⟨HOz.out, Nat.le_refl _, fun i' hi' => ?_, fun i' hi' => ?_, fun i' j' hi' hj' e => ?_, ?_⟩
          · by_cases e : i' = i
            · subst e; rw [upd_same]; exact ⟨rfl, rfl⟩
            · rw [upd_ne e]; exact HD.out.len i' (by omega)
          · by_cases e : i' = i
            · subst e; rw [upd_same]; exact ⟨rfl, ⟨f, HBz.out, HGV.out⟩, by have := HGW.out; show w.heap.size ≤ g; omega⟩
            · rw [upd_ne e]
              obtain ⟨h1, h2, h3⟩ := HD.out.row i' (by omega)
              refine ⟨h1, h2.mod hMz hS ?_, h3⟩
              rintro (e2 | e2)
              · obtain ⟨cs, hcs⟩ := h2.blk
                exact hcs.ne_t HD.out.out (by decide) e2
              · have := hrow i' (by omega); omega
          · by_cases e1 : i' = i
            · by_cases e2 : j' = i
              · omega
              · rw [e1, upd_same, upd_ne e2] at e
                have := hrow j' (by omega)
                have e' : g = (R' j').b := e
                omega
            · by_cases e2 : j' = i
              · rw [e2, upd_same, upd_ne e1] at e
                have := hrow i' (by omega)
                have e' : (R' i').b = g := e
                omega
              · rw [upd_ne e1, upd_ne e2] at e
                exact HD.out.inj i' j' (by omega) (by omega) e
          · have hX := HX3.out; have hM := HMz.out
            exact ⟨hM.os.trans hX.os, hM.tape.trans hX.tape, hM.output.trans hX.output, Nat.le_trans hX.size hM.size, fun k hk => (hM.block k (Nat.lt_of_lt_of_le hk hX.size) (by have := HGW.out; omega)).trans (hX.block k hk)⟩
    · obtain rfl : i = m := by omega
      have hd : decide ((i : Int) < (i : Int)) = false := by simp
      go_wp2_with fail
      go_ret
      exact ⟨_, _, rfl, HD.out⟩
end Go.Proofs.YtclkkoiaaddllaaGreat

namespace Go.Proofs.YtclkkoiaaddllaaGreat
open Go.RowKit
set_option linter.unusedVariables false

theorem DI.mx {w W W' : World} {G m na : Nat} {X : Nat → Nat → GQ} {R : Nat → Rw} (h : DI w W G m na m X R) (x : Ext W W') : MxI W' G m na (fun g => ∃ i, i < m ∧ g = (R i).b) R X :=
  ⟨h.out.ext x, h.len, fun i hi _ => ⟨(h.row i hi).1, (h.row i hi).2.1.ext x⟩, fun i j hi hj _ e => h.inj i j hi hj e, fun i hi _ => ⟨i, hi, rfl⟩⟩
theorem nil_mx {W : World} {G m : Nat} {P : Nat → Prop} {X : Nat → Nat → GQ} (h : Blk W G 37 (mxc m fun _ => nilRw).toArray) : MxI W G m 0 P (fun _ => nilRw) X :=
  ⟨h, fun _ _ => ⟨rfl, rfl⟩, fun _ _ h => absurd h (by omega), fun _ _ _ _ h => absurd h (by omega), fun _ _ h => absurd h (by omega)⟩
set_option maxRecDepth 100000 in
set_option maxHeartbeats 1600000 in
theorem width_own {W : World} {G m n : Nat} {P : Nat → Prop} {R : Nat → Rw} {X : Nat → Nat → GQ} (h : MxI W G m n P R X) (h0 : m = 0 → n = 0) (c : Nat) (hm : m ≤ 1000) : Calls Tryz.prog 34 #[.slice (some ⟨G, 0, none⟩) m c] W fun e w' => e = .returned (.int .i64 n) ∧ Ext W w' := by
  by_cases hz : m = 0
  · have d0 : ((m : Int) == 0) = true := by simp [hz]
    rw [h0 hz]
    clear h h0 hz
    go_enter Tryz.func34, Tryz.ntmps34
    go_wp2_with fail
    go_ret
    exact ⟨rfl, Ext.refl _⟩
  · have d0 : ((m : Int) == 0) = false := by simp [hz]
    have hr := h.cell (i := 0) (by omega)
    have q1 : (0 : Int) < (m : Int) := by omega
    clear h h0
    go_enter Tryz.func34, Tryz.ntmps34
    go_wp2_with fail
    go_ret
    exact ⟨rfl, Ext.refl _⟩
theorem echelon_nil {gf G Gb m na N B0 : Nat} {X : Nat → Nat → GQ} {R : Nat → Rw} {w wd W : World} (hD : DI w wd G m na m X R) (hx : Ext wd W) (hB : Blk W Gb 37 (mxc m fun _ => nilRw).toArray) (hG : G ≠ Gb) (hC : CalmF W gf) (hb : B0 ≤ w.heap.size) (hb2 : B0 ≤ Gb)
    (hna0 : m = 0 → na = 0) (hm : m ≤ 24) (hna : na ≤ 24) (hN : 4 * N + 67 ≤ 12800) (hroom : Room N m na 0 X) :
    Calls Tryz.prog 30 #[.pointer (some ⟨gf, 0, none⟩), .slice (some ⟨G, 0, none⟩) m m, .slice (some ⟨Gb, 0, none⟩) m m] W fun e w' => e = .returned (.tuple #[.int .i64 (ech m X na).r, .bool (ech m X na).odd]) ∧
      EI w' gf G Gb m na 0 (fun g => ∃ i, i < m ∧ g = (R i).b) (fun _ => False) (ech m X na).X ∧ Mod (fun g => B0 ≤ g) W w' := by
  refine fechelon_w gf G Gb m m m na 0 N _ (fun _ => False) (fun g => B0 ≤ g) X W ⟨hC, ⟨R, hD.mx hx⟩, ⟨_, nil_mx hB⟩⟩ hG (fun _ _ h => h) ⟨Nat.le_trans hb hD.gx, hb2, ?_, fun _ h => h.elim⟩ hna0 hm hna (by omega) hN hroom ?_
  · rintro g ⟨i, hi, rfl⟩
    exact Nat.le_trans hb (hD.row i hi).2.2
  · intro w' x
    exact (width_own ((hD.mx hx).ext x) hna0 m (by omega))
theorem Mod.ext_of {B0 : Nat} {w W : World} (h : Mod (fun g => B0 ≤ g) w W) {w0 : World} (x : Ext w0 w) (hb : w0.heap.size ≤ B0) : Ext w0 W :=
  ⟨h.os.trans x.os, h.tape.trans x.tape, h.output.trans x.output, Nat.le_trans x.size h.size, fun k hk => (h.block k (Nat.lt_of_lt_of_le hk x.size) (by omega)).trans (x.block k hk)⟩
theorem calm_new (W : World) : CalmF (W.alloc (.cells #[.int .i64 0] 68)) W.heap.size := Blk.new _ _ _
theorem bp_tmps2' {P : Program} {fn : Func} {R : Ending → World → Prop} {a : Act} {w : World} {t u : Nat} (hr : fn.results = #[.tmp t, .tmp u]) (hd : a.defers = []) (hR : R (.returned (.tuple #[a.tmps.getD t undef, a.tmps.getD u undef])) w) : bodyPost P fn R .ret a w := bp_tmps2 hr hd hR
set_option maxRecDepth 100000 in
set_option maxHeartbeats 6400000 in
theorem rank_ok {A : Option Addr} {B O m c na N : Nat} {R : Nat → Rw} {E : Nat → Nat → En} {X : Nat → Nat → GQ} {w : World} {vb : Nat → Nat → Bool} (h : Mem w A B O m R E) (hvb : ∀ i j, i < m → j < (R i).n → VB w (E i j).v (vb i j)) (hM : IsM m R vb) (hn : ∀ i, i < m → (R i).n = na) (hna0 : m = 0 → na = 0) (hna : na ≤ 24)
    (hv : ∀ i j, i < m → j < na → GV w (E i j).v (X i j) 12800) (hN : 4 * N + 67 ≤ 12800) (hroom : Room N m na 0 X) :
    Calls Tryz.prog 10 #[.slice A m c] w fun e w' => e = .returned (.tuple #[.int .i64 (ech m X na).r, .int .i64 0]) ∧ Ext w w' := by
  have hm := hM.1
  have HM := Lib.hid h; have HV := Lib.hid hv; have HN := Lib.hid hn; have HR := Lib.hid hroom
  have HMx := Lib.hid (matrix_any (c := c) h hvb true ⟨fun _ => hM, fun _ => rfl⟩)
  clear h hv hn hroom hvb hM
  have hmk := make_mx m (by omega)
  go_enter Tryz.func10, Tryz.ntmps10
  go_wp2_with fail
  refine HMx.out.mono ?_
  rintro e w1 ⟨rfl, hx1⟩
  have HX1 := Lib.hid hx1; clear hx1
  go_wp2_with fail
  have hC2 := calm_new w1
  have hx2 : Ext w (w1.alloc (.cells #[.int .i64 0] 68)) := HX1.out.alloc _
  have HM2 := Lib.hid (HM.out.ext hx2); have HV2 : Hid (∀ i j, i < m → j < na → GV _ (E i j).v (X i j) 12800) := Lib.hid fun i j hi hj => (HV.out i j hi hj).ext hx2
  have HX2 := Lib.hid hx2; clear hx2
  have hlt4 : w1.heap.size < (w1.alloc (.cells #[.int .i64 0] 68)).heap.size := hC2.lt
  generalize (w1.alloc (.cells #[.int .i64 0] 68)) = w2 at hC2 HM2 HV2 HX2 hlt4 ⊢
  generalize w1.heap.size = g4 at hC2 hlt4 ⊢
  have HC2 := Lib.hid hC2; clear hC2
  refine wp_region_ordF 10 4 [(true, 0), (true, 2), (true, 3), (false, 1)] [(false, 5), (true, 6), (true, 7), (true, 8), (true, 9)] (fun a a' w' => ∃ Gd Gb : Nat, a' = ((((((((((a.put (some 11) (.slice A m c)).put (some 13) (.slice A m c)).put (some 14) (.int .i64 m)).put (some 12) (.slice (some ⟨Gd, 0, none⟩) m m)).put (some 15) (.slice (some ⟨Gb, 0, none⟩) m m)).put (some 16) (.tuple #[.int .i64 (ech m X na).r, .bool (ech m X na).odd])).put (some 10) (.tuple #[.int .i64 (ech m X na).r, .bool (ech m X na).odd])).put (some 17) (.int .i64 (ech m X na).r)).put (some 18) (.bool (ech m X na).odd)).put (some 5) (.int .i64 (ech m X na).r)) ∧ CalmF w' g4 ∧ Ext w2 w') (by kernel_rfl) (by kernel_rfl) ?_ ?_
  ·
    have hB_ : Ext w2 w2.drew := (Ext.refl _).drew
    generalize w2.drew = w6 at *
    refine wpOrdF_quiet [0, 2, 3] [(false, 1)] _ (by kernel_rfl) ?_
    simp only [nthOps, nthOp, List.cons_append, List.nil_append]
    repeat (go_big_quiet_step (fail))
    refine wpQuiet_nil ?_
    refine wpOrdF_act 1 [] (by kernel_rfl) (by kernel_rfl) ?_ ?_
    ·
      intro K hK
      simp only [nthOp]
      go_wp2_with fail
      refine (dup_w (HM2.out.ext hB_) HN.out (fun i j hi hj => (HV2.out i j hi hj).ext hB_) hm hna).mono ?_
      rintro e wd ⟨Gd, Rd, rfl, hD⟩
      have HLE := Lib.hid (show w2.heap.size ≤ w6.heap.size from hB_.size)
      replace hB_ := hB_.trans hD.ext
      have HD := Lib.hid hD; clear hD
      go_wp2
      refine hK _ _ ⟨⟨wd, hB_⟩, rfl⟩ ?_
      clear hK K
      refine wpOrdF_end (by kernel_rfl) ?_
      intro K hK
      simp only [nthOp]
      go_wp2_with fail
      have hxd := Ext.new wd (.cells (mxc m fun _ => nilRw).toArray 37)
      have HB := Lib.hid (Blk.new wd 37 (mxc m fun _ => nilRw).toArray)
      have HNE := Lib.hid (show Gd ≠ wd.heap.size from by have := HD.out.out.lt; omega)
      have HLB := Lib.hid (show w2.heap.size ≤ wd.heap.size from hB_.size)
      replace hB_ := hB_.trans hxd
      have HXd := Lib.hid hxd; clear hxd
      refine hK _ _ ⟨⟨_, hB_⟩, rfl⟩ ?_
      clear hK K
      have HC := Lib.hid (HC2.out.ext hB_)
      generalize wd.alloc (.cells (mxc m fun _ => nilRw).toArray 37) = wm at *
      generalize wd.heap.size = Gb at *
      refine wpOrdT_act 5 [(true, 6), (true, 7), (true, 8), (true, 9)] (by kernel_rfl) ?_
      intro K hK
      simp only [nthOp]
      go_wp2_with fail
      refine (echelon_nil (B0 := w2.heap.size) HD.out (by first | exact HXd.out | exact Ext.refl _) HB.out HNE.out HC.out (by have := HLE.out; omega) (by have := HLB.out; omega) hna0 hm hna hN HR.out).mono ?_
      rintro e w7 ⟨rfl, hEI, hMod⟩
      have hx7 := hMod.ext_of hB_ (by omega)
      have HC7 := Lib.hid hEI.calm
      clear hEI hMod
      go_wp2
      refine hK _ _ ⟨⟨w7, hx7⟩, rfl⟩ ?_
      clear hK K
      refine wpOrdT_quiet [6, 7, 8, 9] [] _ (by kernel_rfl) ?_
      simp only [nthOps, nthOp, List.cons_append, List.nil_append]
      repeat (go_big_quiet_step (fail))
      refine wpQuiet_nil ?_
      simp only [wpOrdT]
      exact ⟨Gd, Gb, by simp only [Act.put, sa0, sa1, sa2], HC7.out, hx7⟩
    ·
      intro K hK
      simp only [nthOp]
      go_wp2_with fail
      have hxd := Ext.new w6 (.cells (mxc m fun _ => nilRw).toArray 37)
      have HB0 := Lib.hid (Blk.new w6 37 (mxc m fun _ => nilRw).toArray)
      have HLB := Lib.hid (show w2.heap.size ≤ w6.heap.size from hB_.size)
      have hsz : w6.heap.size < (w6.alloc (.cells (mxc m fun _ => nilRw).toArray 37)).heap.size := HB0.out.lt
      replace hB_ := hB_.trans hxd
      clear hxd
      refine hK _ _ ⟨⟨_, hB_⟩, rfl⟩ ?_
      clear hK K
      generalize w6.alloc (.cells (mxc m fun _ => nilRw).toArray 37) = wm at *
      generalize w6.heap.size = Gb at *
      have HSZ := Lib.hid hsz; clear hsz
      refine wpOrdT_act 1 [(false, 5), (true, 6), (true, 7), (true, 8), (true, 9)] (by kernel_rfl) ?_
      intro K hK
      simp only [nthOp]
      go_wp2_with fail
      refine (dup_w (HM2.out.ext hB_) HN.out (fun i j hi hj => (HV2.out i j hi hj).ext hB_) hm hna).mono ?_
      rintro e wd ⟨Gd, Rd, rfl, hD⟩
      have HLE := Lib.hid (show w2.heap.size ≤ wm.heap.size from hB_.size)
      have HB := Lib.hid (HB0.out.ext hD.ext)
      have HNE := Lib.hid (show Gd ≠ Gb from by have := hD.gx; have := HSZ.out; omega)
      replace hB_ := hB_.trans hD.ext
      have HXd := Lib.hid (Ext.refl wd)
      have HD := Lib.hid hD; clear hD
      have HC := Lib.hid (HC2.out.ext hB_)
      go_wp2
      refine hK _ _ ⟨⟨wd, hB_⟩, rfl⟩ ?_
      clear hK K
      refine wpOrdT_act 5 [(true, 6), (true, 7), (true, 8), (true, 9)] (by kernel_rfl) ?_
      intro K hK
      simp only [nthOp]
      go_wp2_with fail
      refine (echelon_nil (B0 := w2.heap.size) HD.out (by first | exact HXd.out | exact Ext.refl _) HB.out HNE.out HC.out (by have := HLE.out; omega) (by have := HLB.out; omega) hna0 hm hna hN HR.out).mono ?_
      rintro e w7 ⟨rfl, hEI, hMod⟩
      have hx7 := hMod.ext_of hB_ (by omega)
      have HC7 := Lib.hid hEI.calm
      clear hEI hMod
      go_wp2
      refine hK _ _ ⟨⟨w7, hx7⟩, rfl⟩ ?_
      clear hK K
      refine wpOrdT_quiet [6, 7, 8, 9] [] _ (by kernel_rfl) ?_
      simp only [nthOps, nthOp, List.cons_append, List.nil_append]
      repeat (go_big_quiet_step (fail))
      refine wpQuiet_nil ?_
      simp only [wpOrdT]
      exact ⟨Gd, Gb, by simp only [Act.put, sa0, sa1, sa2], HC7.out, hx7⟩
  rintro a' w8 ⟨Gd, Gb, rfl, hC8, hx8⟩
  simp only [Act.put, List.setIfInBounds_toArray, List.set_cons_succ, List.set_cons_zero, List.drop_succ_cons, List.drop_zero]
  have e0 := hC8.cell
  have HX8 := Lib.hid (HX2.out.trans hx8)
  clear hx8
  go_wp2_with fail
  exact bp_tmps2 rfl rfl ⟨rfl, HX8.out⟩
end Go.Proofs.YtclkkoiaaddllaaGreat

namespace Go.Proofs.YtclkkoiaaddllaaGreat
open Go.RowKit
set_option linter.unusedVariables false

/-- The product of the first k entries of the diagonal. -/
def pprod (X : Nat → Nat → GQ) : Nat → GQ
  | 0 => GQ.i 1 0
  | k + 1 => pprod X k * X k k
/-- What Determinant returns. -/
def detv (m : Nat) (X : Nat → Nat → GQ) : GQ := if (ech m X m).r < m then GQ.i 0 0 else if (ech m X m).odd then GQ.i 0 0 - pprod (ech m X m).X m else pprod (ech m X m).X m
theorem EI.mod {S : Nat → Prop} {W W' : World} {gf Ga Gb m na nb : Nat} {PA PB : Nat → Prop} {Z : Nat → Nat → GQ} (h : EI W gf Ga Gb m na nb PA PB Z) (hm : Mod S W W') (hS : Far S W) (h1 : ¬ S gf) (h2 : ¬ S Ga) (h3 : ¬ S Gb) (h4 : ∀ g, PA g → ¬ S g) (h5 : ∀ g, PB g → ¬ S g) : EI W' gf Ga Gb m na nb PA PB Z := by
  obtain ⟨c, ⟨R, a⟩, ⟨R2, b⟩⟩ := h
  exact ⟨Blk.mod c hm h1, ⟨R, a.mod hm hS h2 fun j hj hn => h4 _ (a.mem j hj hn)⟩, ⟨R2, b.mod hm hS h3 fun j hj hn => h5 _ (b.mem j hj hn)⟩⟩
set_option maxRecDepth 100000 in
set_option maxHeartbeats 6400000 in
theorem det_ok {A : Option Addr} {B O m c N N2 : Nat} {R : Nat → Rw} {E : Nat → Nat → En} {X : Nat → Nat → GQ} {w : World} {vb : Nat → Nat → Bool} (h : Mem w A B O m R E) (hvb : ∀ i j, i < m → j < (R i).n → VB w (E i j).v (vb i j)) (hM : IsM m R vb) (hn : ∀ i, i < m → (R i).n = m)
    (hv : ∀ i j, i < m → j < m → GV w (E i j).v (X i j) 12800) (hN : 4 * N + 67 ≤ 12800) (hroom : Room N m m 0 X) (hd1 : ¬ (ech m X m).r < m → ∀ k, k ≤ m → Bd (pprod (ech m X m).X k) N2) (hd2 : ∀ i, i < m → Bd ((ech m X m).X i i) N2) (hN1 : 64 ≤ N2) (hN2 : 2 * N2 + 65 ≤ 12800) :
    Calls Tryz.prog 12 #[.slice A m c] w fun e w' => ∃ v, e = .returned (.tuple #[v, .int .i64 0]) ∧ GV w' v (detv m X) 12800 ∧ Ext w w' := by
  have hm := hM.1
  have hdv : detv m X = if (ech m X m).r < m then GQ.i 0 0 else if (ech m X m).odd then GQ.i 0 0 - pprod (ech m X m).X m else pprod (ech m X m).X m := rfl
  generalize detv m X = d at hdv ⊢
  have HDV := Lib.hid hdv; clear hdv
  have HM := Lib.hid h; have HV := Lib.hid hv; have HN := Lib.hid hn; have HR := Lib.hid hroom; have HD1 := Lib.hid hd1; have HD2 := Lib.hid hd2
  have HMx := Lib.hid (fun (w' : World) (x : Ext w w') => matrix_any (c := c) (h.ext x) (fun i j hi hj => (hvb i j hi hj).ext x) true ⟨fun _ => hM, fun _ => rfl⟩)
  have HWd := Lib.hid (fun (w' : World) (x : Ext w w') => width_any (c := c) (h.ext x))
  have hwd : wd m R = m := by
    unfold wd
    by_cases e : m = 0
    · rw [if_pos e]; exact e.symm
    · rw [if_neg e]; exact hn 0 (by omega)
  rw [hwd] at HWd
  clear h hv hn hroom hvb hM hwd hd1 hd2
  have hmk := make_mx m (by omega)
  have hbeq : ((m : Int) != (m : Int)) = false := by simp
  have hE0 := Ext.new w (.cells #[.bool false, .slice none 0 0, .bool false, .slice none 0 0, .bool false, .slice none 0 0] 32)
  have hB2 := Blk.new w 32 #[.bool false, .slice none 0 0, .bool false, .slice none 0 0, .bool false, .slice none 0 0]
  go_enter Tryz.func12, Tryz.ntmps12
  go_wp2_with fail
  generalize (w.alloc (.cells #[.bool false, .slice none 0 0, .bool false, .slice none 0 0, .bool false, .slice none 0 0] 32)) = w0 at hE0 hB2 ⊢
  generalize hg2 : w.heap.size = g2 at hB2 ⊢
  have HG2 := Lib.hid hg2; clear hg2
  refine (HMx.out _ hE0).mono ?_
  rintro e w1 ⟨rfl, hx1⟩
  have HE1 := Lib.hid (hE0.trans hx1); have HB2 := Lib.hid (hB2.ext hx1); clear hx1 hE0 hB2
  go_wp2_with fail
  refine (HWd.out _ HE1.out).mono ?_
  rintro e w2 ⟨rfl, hx2⟩
  have HE2 := Lib.hid (HE1.out.trans hx2); have HB22 := Lib.hid (HB2.out.ext hx2); clear hx2 HE1 HB2
  have hC3 := calm_new w2
  have HE3 := Lib.hid (HE2.out.alloc (.cells #[.int .i64 0] 68)); have HB3 := Lib.hid (HB22.out.alloc (.cells #[.int .i64 0] 68))
  clear HE2 HB22
  go_wp2_with fail
  have hlt4 := hC3.lt
  generalize (w2.alloc (.cells #[.int .i64 0] 68)) = w3 at hC3 HE3 HB3 hlt4 ⊢
  generalize w2.heap.size = g4 at hC3 hlt4 ⊢
  have HC3 := Lib.hid hC3; clear hC3
  refine (dup_w (HM.out.ext HE3.out) HN.out (fun i j hi hj => (HV.out i j hi hj).ext HE3.out) hm hm).mono ?_
  rintro e wd_ ⟨Gd, Rd, rfl, hD⟩
  have hxm := hD.ext.alloc (.cells (mxc m fun _ => nilRw).toArray 37)
  have HBm := Lib.hid (Blk.new wd_ 37 (mxc m fun _ => nilRw).toArray)
  have HNE := Lib.hid (show Gd ≠ wd_.heap.size from by have := hD.out.lt; omega)
  have HLB := Lib.hid (show w3.heap.size ≤ wd_.heap.size from hD.ext.size)
  have HD := Lib.hid hD; clear hD
  have HXm := Lib.hid hxm; clear hxm
  have HXd := Lib.hid (Ext.new wd_ (.cells (mxc m fun _ => nilRw).toArray 37))
  go_wp2_with fail
  generalize wd_.alloc (.cells (mxc m fun _ => nilRw).toArray 37) = wm at HBm HXm HXd ⊢
  generalize wd_.heap.size = Gb at HBm HNE HLB ⊢
  refine (echelon_nil (B0 := w3.heap.size) HD.out HXd.out HBm.out HNE.out (HC3.out.ext HXm.out) (Nat.le_refl _) HLB.out (fun h => h) hm hm hN HR.out).mono ?_
  rintro e w7 ⟨rfl, hEI, hMod⟩
  have HX7 := Lib.hid (hMod.ext_of HXm.out (Nat.le_refl _))
  have hsz7 := hMod.size
  clear hMod
  have HPA : Hid (∀ i, i < m → (Rd i).b < w7.heap.size) := Lib.hid fun i hi => by
    obtain ⟨cs, hcs⟩ := (HD.out.row i hi).2.1.blk
    have h1 := (hcs.ext HXd.out).lt
    have := hsz7; omega
  have HE7 := Lib.hid (HE3.out.trans HX7.out); have HB7 := Lib.hid (HB3.out.ext HX7.out)
  have hcalm := hEI.calm
  have e0 := hcalm.cell
  have HEI := Lib.hid hEI; have HC7 := Lib.hid hcalm
  clear hcalm hEI HXm HXd HBm HNE HLB HD HB3 HE3 HX7
  generalize ech m X m = s at HD1 HD2 HEI HDV ⊢
  by_cases hr : s.r < m
  · have dr : decide ((s.r : Int) < (m : Int)) = true := by simp; omega
    have hdz : d = GQ.i 0 0 := by rw [HDV.out, if_pos hr]
    go_wp2_with fail
    refine (fzero_ok g4 _ HC7.out).mono ?_
    rintro e w8 ⟨v, rfl, hv, hx8⟩
    obtain ⟨t1, B1, m1, b1, t2, B2, m2, b2, t3, B3, m3, b3, rfl⟩ := hv.opn
    have hB8 := HB7.out.ext hx8
    have k6 := hB8.cell; have f6 := hB8.frozen
    obtain ⟨p1, p2, p3⟩ := put_gauss (HE7.out.trans hx8) (by have := HG2.out; omega) hB8 hv
    have P1 := Lib.hid p1; have P2 := Lib.hid p2; have P3 := Lib.hid p3
    clear p1 p2 p3 hB8 hv hx8
    go_wp2_with fail
    exact bp_gauss2 rfl rfl rfl P2.out ⟨_, rfl, hdz ▸ P3.out.up (by omega), P1.out⟩
  · have dr : decide ((s.r : Int) < (m : Int)) = false := by simp; omega
    have hdz : d = if s.odd then GQ.i 0 0 - pprod s.X m else pprod s.X m := by rw [HDV.out, if_neg hr]
    have HDZ := Lib.hid hdz; clear hdz HDV
    replace HD1 := Lib.hid (HD1.out hr)
    go_wp2_with fail
    refine (eOf_q 1 0 1 _ (by omega) (by omega) (by omega) (by omega) (by omega) (by omega) (by omega)).mono ?_
    rintro e w8 ⟨v, rfl, ⟨u, rfl, hu⟩, hx8⟩
    have e1 : (⟨((1 : Int) : Rat) / ((1 : Int) : Rat), ((0 : Int) : Rat) / ((1 : Int) : Rat)⟩ : GQ) = GQ.i 1 0 := by ext <;> simp only [GQ.i_re, GQ.i_im] <;> grind
    rw [e1] at hu
    go_wp2_with fail
    refine (fkeep_ok g4 u _ _ _ (HC7.out.ext hx8) hu).mono ?_
    rintro e w9 ⟨v, rfl, hv, hx9⟩
    obtain ⟨t1, B1, m1, b1, t2, B2, m2, b2, t3, B3, m3, b3, rfl⟩ := hv.opn
    have HE9 := Lib.hid ((HE7.out.trans hx8).trans hx9); have HB9 := Lib.hid ((HB7.out.ext hx8).ext hx9); have HEI9 := Lib.hid ((HEI.out.ext hx8).ext hx9); have HV9 := Lib.hid hv
    have hsz9 : w7.heap.size ≤ w9.heap.size := Nat.le_trans hx8.size hx9.size
    clear hx8 hx9 hu hv HE7 HB7 HEI HC7
    go_wp2_with fail
    have HE10 := Lib.hid (HE9.out.alloc (.cells #[.bool t1, .slice B1 m1 b1, .bool t2, .slice B2 m2 b2, .bool t3, .slice B3 m3 b3] 32)); have HB10 := Lib.hid (HB9.out.alloc (.cells #[.bool t1, .slice B1 m1 b1, .bool t2, .slice B2 m2 b2, .bool t3, .slice B3 m3 b3] 32)); have HEI10 := Lib.hid (HEI9.out.ext (Ext.new _ (.cells #[.bool t1, .slice B1 m1 b1, .bool t2, .slice B2 m2 b2, .bool t3, .slice B3 m3 b3] 32))); have HV10 := Lib.hid (HV9.out.ext (Ext.new _ (.cells #[.bool t1, .slice B1 m1 b1, .bool t2, .slice B2 m2 b2, .bool t3, .slice B3 m3 b3] 32))); have HG10 := Lib.hid (Blk.new w9 32 #[.bool t1, .slice B1 m1 b1, .bool t2, .slice B2 m2 b2, .bool t3, .slice B3 m3 b3])
    have HNG := Lib.hid (show g2 < w9.heap.size from HB9.out.lt)
    have HN4 := Lib.hid (show g4 < w9.heap.size from HEI9.out.calm.lt)
    have HNa : Hid (Gd < w9.heap.size ∧ Gb < w9.heap.size) := Lib.hid (by
      obtain ⟨_, ⟨_, a⟩, ⟨_, b⟩⟩ := HEI9.out
      exact ⟨a.out.lt, b.out.lt⟩)
    have HPA9 : Hid (∀ g, (∃ i, i < m ∧ g = (Rd i).b) → g < w9.heap.size) := Lib.hid (by
      rintro g ⟨i, hi, rfl⟩
      exact Nat.lt_of_lt_of_le (HPA.out i hi) hsz9)
    have HG2' := Lib.hid (show w.heap.size ≤ w9.heap.size from HE9.out.size)
    clear HE9 HB9 HV9 HEI9 HPA hsz9 hsz7
    generalize w9.alloc (.cells #[.bool t1, .slice B1 m1 b1, .bool t2, .slice B2 m2 b2, .bool t3, .slice B3 m3 b3] 32) = w10 at HE10 HB10 HEI10 HV10 HG10 ⊢
    generalize w9.heap.size = gp at HNG HN4 HNa HPA9 HG10 HG2' ⊢
    clear w8 w9
    go_loopw [46] (fun i wr => ∃ (k : Nat) (e : En), k ≤ m ∧ i = .int .i64 k ∧ Blk wr gp 32 e.cells.toArray ∧ GV wr e.v (pprod s.X k) N2 ∧ Mod (fun g => g = gp) w10 wr) (fun i _ => m - (intOf i).toNat)
    case atStart => exact ⟨0, ⟨t1, B1, m1, b1, t2, B2, m2, b2, t3, B3, m3, b3⟩, by omega, rfl, HG10.out, HV10.out.to (HD1.out 0 (by omega)), Mod.refl _ _⟩
    case round =>
      obtain ⟨k, e, hk, rfl, hb, hgv, hmr⟩ := hrel
      have HBp := Lib.hid (show Blk wr gp 32 #[.bool e.s1, .slice e.A1 e.n1 e.c1, .bool e.s2, .slice e.A2 e.n2 e.c2, .bool e.s3, .slice e.A3 e.n3 e.c3] from hb); have HGp := Lib.hid hgv; have HMr := Lib.hid hmr; clear hb hgv hmr
      have hfar : Far (fun g => g = gp) w10 := fun g hg _ => by subst hg; exact ⟨_, _, HG10.out, rfl⟩
      have HEr := Lib.hid (HEI10.out.mod HMr.out hfar (by have := HN4.out; omega) (by have := HNa.out.1; omega) (by have := HNa.out.2; omega) (fun g hg => by have := HPA9.out g hg; omega) (fun g hg => hg.elim))
      have HEx : Hid (Ext w wr) := Lib.hid (by
        have hX := HE10.out; have hM := HMr.out
        exact ⟨hM.os.trans hX.os, hM.tape.trans hX.tape, hM.output.trans hX.output, Nat.le_trans hX.size hM.size, fun k hk => (hM.block k (Nat.lt_of_lt_of_le hk hX.size) (by have := HG2'.out; omega)).trans (hX.block k hk)⟩)
      have HB2r := Lib.hid (HB10.out.mod HMr.out (by show ¬ g2 = gp; have := HNG.out; omega))
      clear hfar
      by_cases hlt : k < m
      · have hd : decide ((k : Int) < (m : Int)) = true := by simp; omega
        obtain ⟨hcal, ⟨R2, hA⟩, _⟩ := HEr.out
        obtain ⟨hra, f, hf, hvf⟩ := hA.row k hlt (by omega)
        have k1 := hA.cell hlt
        rw [hra] at k1
        obtain ⟨a0, a1, a2, a3, a4, a5⟩ := RowIs.cells hf hlt rfl
        have A0 := ExtOf.cell a0; have A1 := ExtOf.cell a1; have A2 := ExtOf.cell a2; have A3 := ExtOf.cell a3; have A4 := ExtOf.cell a4; have A5 := ExtOf.cell a5
        have K1 := ExtOf.cell k1; have BP := ExtOf.blk HBp.out
        have HVF := Lib.hid ((hvf k hlt).to (HD2.out k hlt)); have HCr := Lib.hid hcal
        clear hra hf hvf hcal hA k1 a0 a1 a2 a3 a4 a5
        go_wp2_with fail
        refine wp_region_ordE 9 [(true, 0), (true, 1), (true, 2), (true, 3), (true, 4), (true, 5), (true, 6), (true, 7), (false, 8)] (by kernel_rfl) (by kernel_rfl) ?_
        refine wpOrdT_quiet [0, 1, 2, 3, 4, 5, 6, 7] [(false, 8)] _ (by kernel_rfl) ?_
        simp only [nthOps, nthOp, List.cons_append, List.nil_append]
        repeat (go_big_quiet_step (fail))
        refine wpQuiet_nil ?_
        refine wpOrdT_act 8 [] (by kernel_rfl) ?_
        intro K hK
        simp only [nthOp]
        go_wp2_with fail
        have hdd : Ext wr wr.drew := (Ext.refl _).drew
        refine (fmul_ok g4 _ _ (pprod s.X k) (s.X k k) N2 N2 _ (HCr.out.ext hdd) (HGp.out.ext hdd) (HVF.out.ext hdd) (by omega)).mono ?_
        rintro e w4 ⟨v4, rfl, hv4, hx4⟩
        obtain ⟨u1, D1, p1, q1, u2, D2, p2, q2, u3, D3, p3, q3, rfl⟩ := hv4.opn
        have HX4 := Lib.hid hx4.undrew; have HV4 := Lib.hid hv4
        clear hx4 hv4 hdd
        go_wp2
        refine hK _ _ ⟨⟨w4, HX4.out⟩, rfl⟩ ?_
        clear hK K
        simp only [wpOrdT, List.drop_succ_cons, List.drop_zero]
        clear A0 A1 A2 A3 A4 A5 K1 BP
        have HB4 := Lib.hid (HBp.out.ext HX4.out)
        have kp := HB4.out.cell; have fp := HB4.out.frozen
        have hm4 : Mod (fun g => g = gp) w4 (puts w4 gp 0 [.bool u1, .slice D1 p1 q1, .bool u2, .slice D2 p2 q2, .bool u3, .slice D3 p3 q3]) := Mod.only (puts_only _ _ _ _) rfl
        have hS4 : Far (fun g => g = gp) w4 := fun g hg _ => by subst hg; exact ⟨_, _, HB4.out, rfl⟩
        have hb5 := puts_blk 0 [.bool u1, .slice D1 p1 q1, .bool u2, .slice D2 p2 q2, .bool u3, .slice D3 p3 q3] HB4.out
        have ec : setsA #[.bool e.s1, .slice e.A1 e.n1 e.c1, .bool e.s2, .slice e.A2 e.n2 e.c2, .bool e.s3, .slice e.A3 e.n3 e.c3] 0 [.bool u1, .slice D1 p1 q1, .bool u2, .slice D2 p2 q2, .bool u3, .slice D3 p3 q3] = #[.bool u1, .slice D1 p1 q1, .bool u2, .slice D2 p2 q2, .bool u3, .slice D3 p3 q3] := by kernel_rfl
        rw [ec] at hb5
        have HB5 := Lib.hid hb5; have HV5 := Lib.hid (HV4.out.mod hm4 hS4); have HM5 := Lib.hid ((HMr.out.trans (Mod.of HX4.out)).trans hm4)
        clear hb5 hm4 hS4 ec
        go_wp2_with fail
        go_roundw
        case rel => exact ⟨k + 1, ⟨u1, D1, p1, q1, u2, D2, p2, q2, u3, D3, p3, q3⟩, by omega, by go_num, HB5.out, HV5.out.to (HD1.out (k + 1) (by omega)), HM5.out⟩
        case measure => simp [intOf]; omega
      · obtain rfl : k = m := by omega
        have hd : decide ((k : Int) < (k : Int)) = false := by simp
        have kp := HBp.out.cell
        have hcal := HEr.out.calm
        have HCr := Lib.hid hcal
        have e0 := hcal.cell
        cases ho : s.odd
        · have hdz2 : d = pprod s.X k := by rw [HDZ.out, ho]; rfl
          have HDZ2 := Lib.hid hdz2; clear hdz2
          have kp2 := HB2r.out.cell; have fp2 := HB2r.out.frozen
          obtain ⟨p1, p2, p3⟩ := put_gauss HEx.out (by have := HG2.out; omega) HB2r.out HGp.out
          have P1 := Lib.hid p1; have P2 := Lib.hid p2; have P3 := Lib.hid p3
          clear p1 p2 p3 hcal
          go_wp2_with fail
          exact bp_gauss2 rfl rfl rfl P2.out ⟨_, rfl, HDZ2.out ▸ P3.out.up (by omega), P1.out⟩
        · have hdz2 : d = GQ.i 0 0 - pprod s.X k := by rw [HDZ.out, ho]; rfl
          have HDZ2 := Lib.hid hdz2; clear hdz2
          clear kp e0 hcal
          have BP := ExtOf.blk HBp.out
          go_wp2_with fail
          refine wp_region_ordE 3 [(true, 1), (false, 0), (false, 2)] (by kernel_rfl) (by kernel_rfl) ?_
          refine wpOrdT_quiet [1] [(false, 0), (false, 2)] _ (by kernel_rfl) ?_
          simp only [nthOps, nthOp, List.cons_append, List.nil_append]
          repeat (go_big_quiet_step (fail))
          refine wpQuiet_nil ?_
          refine wpOrdT_act 0 [(false, 2)] (by kernel_rfl) ?_
          intro K hK
          simp only [nthOp]
          go_wp2_with fail
          have hdd : Ext wr wr.drew := (Ext.refl _).drew
          refine (fzero_ok g4 _ (HCr.out.ext hdd)).mono ?_
          rintro e w4 ⟨v4, rfl, hv4, hx4⟩
          have HX4 := Lib.hid hx4.undrew; have HV4 := Lib.hid hv4
          clear hx4 hv4 hdd
          go_wp2
          refine hK _ _ ⟨⟨w4, HX4.out⟩, rfl⟩ ?_
          clear hK K
          refine wpOrdT_act 2 [] (by kernel_rfl) ?_
          intro K hK
          simp only [nthOp]
          go_wp2_with fail
          refine (fsub_ok g4 _ _ (GQ.i 0 0) (pprod s.X k) 64 N2 _ (HCr.out.ext HX4.out) HV4.out (HGp.out.ext HX4.out) (by omega)).mono ?_
          rintro e w5 ⟨v5, rfl, hv5, hx5⟩
          obtain ⟨u1, D1, p1, q1, u2, D2, p2, q2, u3, D3, p3, q3, rfl⟩ := hv5.opn
          have HX5 := Lib.hid (HX4.out.trans hx5); have HV5 := Lib.hid hv5
          clear hx5 hv5
          go_wp2
          refine hK _ _ ⟨⟨w5, HX5.out⟩, rfl⟩ ?_
          clear hK K BP
          simp only [wpOrdT, List.drop_succ_cons, List.drop_zero]
          have HB4 := Lib.hid (HBp.out.ext HX5.out)
          have kp := HB4.out.cell; have fp := HB4.out.frozen
          have hm4 : Mod (fun g => g = gp) w5 (puts w5 gp 0 [.bool u1, .slice D1 p1 q1, .bool u2, .slice D2 p2 q2, .bool u3, .slice D3 p3 q3]) := Mod.only (puts_only _ _ _ _) rfl
          have hS4 : Far (fun g => g = gp) w5 := fun g hg _ => by subst hg; exact ⟨_, _, HB4.out, rfl⟩
          have hb5 := puts_blk 0 [.bool u1, .slice D1 p1 q1, .bool u2, .slice D2 p2 q2, .bool u3, .slice D3 p3 q3] HB4.out
          have ec : setsA #[.bool e.s1, .slice e.A1 e.n1 e.c1, .bool e.s2, .slice e.A2 e.n2 e.c2, .bool e.s3, .slice e.A3 e.n3 e.c3] 0 [.bool u1, .slice D1 p1 q1, .bool u2, .slice D2 p2 q2, .bool u3, .slice D3 p3 q3] = #[.bool u1, .slice D1 p1 q1, .bool u2, .slice D2 p2 q2, .bool u3, .slice D3 p3 q3] := by kernel_rfl
          rw [ec] at hb5
          have HM5 : Hid (Ext w (puts w5 gp 0 [.bool u1, .slice D1 p1 q1, .bool u2, .slice D2 p2 q2, .bool u3, .slice D3 p3 q3])) := Lib.hid (puts_ext (by exact HG2'.out) 0 _ (HEx.out.trans HX5.out))
          have HV6 := Lib.hid (HV5.out.mod hm4 hS4)
          have HC6 := Lib.hid (Blk.mod (HCr.out.ext HX5.out) hm4 (by show ¬ g4 = gp; have := HN4.out; omega))
          have HB6 := Lib.hid ((HB2r.out.ext HX5.out).mod hm4 (by show ¬ g2 = gp; have := HNG.out; omega))
          have HBq := Lib.hid hb5
          clear hm4 hS4 ec hb5 HX5 HV5 HB4 HEx HCr
          iterate 8 (try (first | go_values | go_skip | go_guarded | go_step | go_upon | go_in | go_back | go_simp))
          show Code.wp _ _ _ _ (puts w5 gp 0 [.bool u1, .slice D1 p1 q1, .bool u2, .slice D2 p2 q2, .bool u3, .slice D3 p3 q3])
          generalize puts w5 gp 0 [.bool u1, .slice D1 p1 q1, .bool u2, .slice D2 p2 q2, .bool u3, .slice D3 p3 q3] = w6 at HM5 HV6 HC6 HB6 HBq ⊢
          clear kp fp e0
          have e0 := Blk.cell HC6.out; have kq := HBq.out.cell
          have kp2 := HB6.out.cell; have fp2 := HB6.out.frozen
          obtain ⟨p1, p2, p3⟩ := put_gauss HM5.out (by have := HG2.out; omega) HB6.out HV6.out
          have P1 := Lib.hid p1; have P2 := Lib.hid p2; have P3 := Lib.hid p3
          clear p1 p2 p3
          go_wp2_with fail
          exact bp_gauss2 rfl rfl rfl P2.out ⟨_, rfl, HDZ2.out ▸ P3.out.up (by omega), P1.out⟩
end Go.Proofs.YtclkkoiaaddllaaGreat

