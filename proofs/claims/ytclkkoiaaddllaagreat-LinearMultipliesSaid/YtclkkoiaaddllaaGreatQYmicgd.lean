/- Linear: duplicate's walk. -/
import Derived.Test.YtclkkoiaaddllaaGreatQYlibop
namespace Go.Proofs.YtclkkoiaaddllaaGreat
open Go.RowKit
set_option linter.unusedVariables false

/-- What duplicate has made after i rows. -/
structure DI (w W : World) (G m na i : Nat) (X : Nat → Nat → GQ) (R : Nat → Rw) : Prop where
  out : Blk W G 37 (mxc m R).toArray
  gx : w.heap.size ≤ G
  len : ∀ i', i' < i → (R i').n = na ∧ (R i').c = na
  row : ∀ i', i' < i → (R i').A = some ⟨(R i').b, 0, none⟩ ∧ RowIs W (R i').b na (X i') ∧ w.heap.size ≤ (R i').b
  inj : ∀ i' j', i' < i → j' < i → (R i').b = (R j').b → i' = j'
  ext : Ext w W
theorem mxc_upd {m : Nat} {R : Nat → Rw} {i : Nat} {r : Rw} : (mxc m R).toArray.setIfInBounds i r.v = (mxc m (upd R i r)).toArray := by
  rw [List.setIfInBounds_toArray]
  congr 1
  apply List.ext_getElem
  · simp [mxc]
  · intro k h1 h2
    simp only [mxc, List.getElem_set, List.getElem_map, List.getElem_range]
    by_cases e : i = k
    · subst e; rw [if_pos rfl, upd_same]
    · rw [if_neg e, upd_ne (fun x => e x.symm)]
theorem RI3 {w : World} {e : En} {q : GQ} {n : Nat} (h : GV w e.v q n) : ∃ a b d, RI w (iv e.s1 e.A1 e.n1 e.c1) a ∧ RI w (iv e.s2 e.A2 e.n2 e.c2) b ∧ RI w (iv e.s3 e.A3 e.n3 e.c3) d ∧ Is q a b d ∧ Sz n a b d := by
  obtain ⟨a, b, d, h1, I, Z⟩ := h
  have := RG.inj (show RG w (gv e.s1 e.A1 e.n1 e.c1 e.s2 e.A2 e.n2 e.c2 e.s3 e.A3 e.n3 e.c3) a b d from h1)
  exact ⟨a, b, d, this.1, this.2.1, this.2.2, I, Z⟩
theorem RI.small {w : World} {s : Bool} {A : Option Addr} {n c : Nat} {z : Int} (h : RI w (iv s A n c) z) (hz : z.natAbs < 2 ^ 12800) : n ≤ 1000000 := by
  have h1 : z.natAbs < 2 ^ (32 * 400) := by rw [show 32 * 400 = 12800 from rfl]; exact hz
  have := RI.le h h1
  omega
theorem Only.setRow (w : World) (g : Nat) (cs : Array Value) : Only g w (w.setRow g cs) := ⟨rfl, rfl, rfl, by simp, fun i _ hne => setRow_other w g i cs (fun e => hne (by rw [e]))⟩
theorem copy_row {W2 : World} {g na b o cs : Nat} {As : Option Addr} {f0 f : Nat → En} (hb : Blk W2 g 32 (rowc na f0).toArray) (hsrc : 0 < na → As = some ⟨b, o, none⟩) (hc : ∀ j, j < na → ∀ t u, (f j).cells[t]? = some u → W2.cell? ⟨b, o + (j * 6 + t), none⟩ = some u) :
    ∃ W3, Sem.run Tryz.prog (Builtin.copy_ #[37, 37] 3 #[.slice (some ⟨g, 0, none⟩) na na, .slice As na cs]) W2 = .ok (goInt na) W3 ∧ Blk W3 g 32 (rowc na f).toArray ∧ Mod (fun k => k = g) W2 W3 := by
  have hmin : Nat.min na na = na := by simp
  by_cases h0 : na = 0
  · subst h0
    refine ⟨W2, ?_, hb, Mod.refl _ _⟩
    have hl : ∀ (x : Addr), (loadCells x 0).run Tryz.prog W2 = .ok #[] W2 := fun x => by simpa using run_loadCells_list (P := Tryz.prog) W2 x [] (by simp)
    cases hq : Tryz.prog.info? 32 with
    | none => have := gauss_six; rw [hq] at this; cases this
    | some i => cases As <;> simp [Builtin.copy_, run_underlying Tryz.underlying37, Builtin.lenOf, Builtin.firstCells, sizeOf, typeInfo, hq, storeCells, hl]
  · have hA := hsrc (by omega)
    subst hA
    have h := run_copy_k 6 W2 37 37 3 32 g 0 na na ⟨b, o, none⟩ na cs (rowc na f0).toArray 32 (rowc na f) Tryz.underlying37 gauss_six hb (by rw [rowc_len, hmin]) (fun j v hj => by
      have hj2 : j < na * 6 := by have := (List.getElem?_eq_some_iff.1 hj).1; rwa [rowc_len] at this
      have e : j = (j / 6) * 6 + j % 6 := by omega
      rw [e, rowc_at (Nat.mod_lt _ (by omega)) (by omega)] at hj
      have := hc _ (by omega) _ _ hj
      rw [← e] at this
      have e2 : (⟨b, o, none⟩ : Addr).add j = ⟨b, o + j, none⟩ := by unfold Addr.add; by_cases hj0 : j = 0 <;> simp [hj0]
      rw [e2]; exact this) (by rw [rowc_len]; simp [rowc_len]) (rowc_one na f)
    rw [hmin] at h
    refine ⟨_, h, ?_, ?_⟩
    · have e : ((rowc na f0).toArray.toList.take 0 ++ rowc na f ++ (rowc na f0).toArray.toList.drop (0 + (rowc na f).length)).toArray = (rowc na f).toArray := by
        simp [rowc_len]
      rw [e]
      exact setRow_heap _ g _ _ _ _ hb
    · exact Mod.only (Only.setRow _ _ _) rfl
theorem clone_st1 {w wA : World} {g na j : Nat} {f : Nat → En} {x : Nat → GQ} {A' : Option Addr} {n' c' : Nat} {z : Int} (hb : Blk w g 32 (rowc na f).toArray) (hv : ∀ j, j < na → GV w (f j).v (x j) 12800) (hj : j < na) (hz : RI w (iv (f j).s1 (f j).A1 (f j).n1 (f j).c1) z) (xx : Ext w wA) (hr : RI wA (iv (f j).s1 A' n' c') z) (I3 : ∃ a b d, RI w (iv (f j).s1 (f j).A1 (f j).n1 (f j).c1) a ∧ RI w (iv (f j).s2 (f j).A2 (f j).n2 (f j).c2) b ∧ RI w (iv (f j).s3 (f j).A3 (f j).n3 (f j).c3) d ∧ Is (x j) a b d ∧ Sz 12800 a b d ∧ z = a) :
    ∃ f', Blk (wA.setCell ⟨g, j * 6 + 1, none⟩ (.slice A' n' c')) g 32 (rowc na f').toArray ∧ (∀ j', j' < na → GV (wA.setCell ⟨g, j * 6 + 1, none⟩ (.slice A' n' c')) (f' j').v (x j') 12800) ∧ Mod (fun k => k = g) w (wA.setCell ⟨g, j * 6 + 1, none⟩ (.slice A' n' c')) := by
  obtain ⟨a, b, d, i1, i2, i3, I, Z, rfl⟩ := I3
  have hp := RowIs.put1 (e := { f j with A1 := A', n1 := n', c1 := c' }) (t := 1) (u := .slice A' n' c') (hb.ext xx) (fun j hj => (hv j hj).ext xx) hj (by omega) rfl ⟨_, _, _, ⟨_, _, _, _, _, _, _, _, _, _, _, _, rfl, hr, i2.ext xx, i3.ext xx⟩, I, Z⟩
  exact ⟨_, hp.1.1, hp.1.2, (Mod.of xx).trans hp.2⟩
theorem clone_st2 {w wA : World} {g na j : Nat} {f : Nat → En} {x : Nat → GQ} {A' : Option Addr} {n' c' : Nat} {z : Int} (hb : Blk w g 32 (rowc na f).toArray) (hv : ∀ j, j < na → GV w (f j).v (x j) 12800) (hj : j < na) (hz : RI w (iv (f j).s2 (f j).A2 (f j).n2 (f j).c2) z) (xx : Ext w wA) (hr : RI wA (iv (f j).s2 A' n' c') z) (I3 : ∃ a b d, RI w (iv (f j).s1 (f j).A1 (f j).n1 (f j).c1) a ∧ RI w (iv (f j).s2 (f j).A2 (f j).n2 (f j).c2) b ∧ RI w (iv (f j).s3 (f j).A3 (f j).n3 (f j).c3) d ∧ Is (x j) a b d ∧ Sz 12800 a b d ∧ z = b) :
    ∃ f', Blk (wA.setCell ⟨g, j * 6 + 3, none⟩ (.slice A' n' c')) g 32 (rowc na f').toArray ∧ (∀ j', j' < na → GV (wA.setCell ⟨g, j * 6 + 3, none⟩ (.slice A' n' c')) (f' j').v (x j') 12800) ∧ Mod (fun k => k = g) w (wA.setCell ⟨g, j * 6 + 3, none⟩ (.slice A' n' c')) := by
  obtain ⟨a, b, d, i1, i2, i3, I, Z, rfl⟩ := I3
  have hp := RowIs.put1 (e := { f j with A2 := A', n2 := n', c2 := c' }) (t := 3) (u := .slice A' n' c') (hb.ext xx) (fun j hj => (hv j hj).ext xx) hj (by omega) rfl ⟨_, _, _, ⟨_, _, _, _, _, _, _, _, _, _, _, _, rfl, i1.ext xx, hr, i3.ext xx⟩, I, Z⟩
  exact ⟨_, hp.1.1, hp.1.2, (Mod.of xx).trans hp.2⟩
theorem clone_st3 {w wA : World} {g na j : Nat} {f : Nat → En} {x : Nat → GQ} {A' : Option Addr} {n' c' : Nat} {z : Int} (hb : Blk w g 32 (rowc na f).toArray) (hv : ∀ j, j < na → GV w (f j).v (x j) 12800) (hj : j < na) (hz : RI w (iv (f j).s3 (f j).A3 (f j).n3 (f j).c3) z) (xx : Ext w wA) (hr : RI wA (iv (f j).s3 A' n' c') z) (I3 : ∃ a b d, RI w (iv (f j).s1 (f j).A1 (f j).n1 (f j).c1) a ∧ RI w (iv (f j).s2 (f j).A2 (f j).n2 (f j).c2) b ∧ RI w (iv (f j).s3 (f j).A3 (f j).n3 (f j).c3) d ∧ Is (x j) a b d ∧ Sz 12800 a b d ∧ z = d) :
    ∃ f', Blk (wA.setCell ⟨g, j * 6 + 5, none⟩ (.slice A' n' c')) g 32 (rowc na f').toArray ∧ (∀ j', j' < na → GV (wA.setCell ⟨g, j * 6 + 5, none⟩ (.slice A' n' c')) (f' j').v (x j') 12800) ∧ Mod (fun k => k = g) w (wA.setCell ⟨g, j * 6 + 5, none⟩ (.slice A' n' c')) := by
  obtain ⟨a, b, d, i1, i2, i3, I, Z, rfl⟩ := I3
  have hp := RowIs.put1 (e := { f j with A3 := A', n3 := n', c3 := c' }) (t := 5) (u := .slice A' n' c') (hb.ext xx) (fun j hj => (hv j hj).ext xx) hj (by omega) rfl ⟨_, _, _, ⟨_, _, _, _, _, _, _, _, _, _, _, _, rfl, i1.ext xx, i2.ext xx, hr⟩, I, Z⟩
  exact ⟨_, hp.1.1, hp.1.2, (Mod.of xx).trans hp.2⟩
set_option maxRecDepth 100000 in
set_option maxHeartbeats 6400000 in
theorem dup_w {A : Option Addr} {B O m c na : Nat} {R : Nat → Rw} {E : Nat → Nat → En} {X : Nat → Nat → GQ} {w : World} (h : Mem w A B O m R E) (hn : ∀ i, i < m → (R i).n = na) (hv : ∀ i j, i < m → j < na → GV w (E i j).v (X i j) 12800) (hm : m ≤ 24) (hna : na ≤ 24) :
    Calls Tryz.prog 31 #[.slice A m c] w fun e w' => ∃ (G : Nat) (R' : Nat → Rw), e = .returned (.slice (some ⟨G, 0, none⟩) m m) ∧ DI w w' G m na m X R' := by
  have HM := Lib.hid h; have HN := Lib.hid hn; have HV := Lib.hid hv; clear h hn hv
  have hmk := make_mx m (by omega)
  have hmr := make_row na (by omega)
  go_enter Tryz.func31, Tryz.ntmps31
  go_wp2_with fail
  clear hmk
  go_loopw [13] (fun i wr => ∃ (i' : Nat) (R' : Nat → Rw), i' ≤ m ∧ i = .int .i64 i' ∧ DI w wr w.heap.size m na i' X R') (fun i _ => m - (intOf i).toNat)
  case atStart => exact ⟨0, fun _ => nilRw, by omega, rfl, Blk.new _ _ _, Nat.le_refl _, by intros; omega, by intros; omega, by intros; omega, Ext.new _ _⟩
  case round =>
    obtain ⟨i, R', hi, rfl, hD⟩ := hrel
    have HD := Lib.hid hD; clear hD
    by_cases hlt : i < m
    · have hd : decide ((i : Int) < (m : Int)) = true := by simp; omega
      have hA := HM.out.at0 (by omega)
      have hr := HM.out.rowc hlt HD.out.ext
      rw [HN.out i hlt] at hr
      subst hA
      have hE1 := Ext.new wr (.cells (rowc na fun _ => zEn).toArray 32)
      have hO1 := HD.out.out.ext hE1
      have fr := hO1.frozen
      have k1 : (wr.alloc (.cells (rowc na fun _ => zEn).toArray 32)).cell? ⟨w.heap.size, i, none⟩ = some (R' i).v := by rw [hO1.cell]; exact mxc_at hlt
      have hO2 : Blk ((wr.alloc (.cells (rowc na fun _ => zEn).toArray 32)).setCell ⟨w.heap.size, i, none⟩ (.slice (some ⟨wr.heap.size, 0, none⟩) na na)) w.heap.size 37 (mxc m (upd R' i ⟨some ⟨wr.heap.size, 0, none⟩, wr.heap.size, 0, na, na⟩)).toArray := by
        rw [← mxc_upd]; exact hO1.set_ _ _
      have k2 : ((wr.alloc (.cells (rowc na fun _ => zEn).toArray 32)).setCell ⟨w.heap.size, i, none⟩ (.slice (some ⟨wr.heap.size, 0, none⟩) na na)).cell? ⟨w.heap.size, i, none⟩ = some (.slice (some ⟨wr.heap.size, 0, none⟩) na na) := by rw [hO2.cell, mxc_at hlt, upd_same]; rfl
      have hO1' := Lib.hid hO1; have hO2' := Lib.hid hO2; have hE1' := Lib.hid hE1
      clear hO1 hO2 hE1
      have hgw : w.heap.size < wr.heap.size := HD.out.out.lt
      have hB2 : Blk ((wr.alloc (.cells (rowc na fun _ => zEn).toArray 32)).setCell ⟨w.heap.size, i, none⟩ (.slice (some ⟨wr.heap.size, 0, none⟩) na na)) wr.heap.size 32 (rowc na fun _ => zEn).toArray := (Blk.new _ _ _).far (by show wr.heap.size ≠ w.heap.size; omega) _
      have hX2 : Ext w ((wr.alloc (.cells (rowc na fun _ => zEn).toArray 32)).setCell ⟨w.heap.size, i, none⟩ (.slice (some ⟨wr.heap.size, 0, none⟩) na na)) := (HD.out.ext.trans hE1'.out).setCell (Nat.le_refl _) _
      obtain ⟨w3, hcp, hB3, hm3⟩ := copy_row (cs := (R i).c) hB2 (fun h0 => HM.out.ra i hlt (by rw [HN.out i hlt]; exact h0)) (fun j hj t u hu => hX2.cell_ (HM.out.el i j hlt (by rw [HN.out i hlt]; exact hj) t u hu))
      have hX3 : Ext w w3 := ⟨hm3.os.trans hX2.os, hm3.tape.trans hX2.tape, hm3.output.trans hX2.output, Nat.le_trans hX2.size hm3.size, fun k hk => (hm3.block k (Nat.lt_of_lt_of_le hk hX2.size) (by omega)).trans (hX2.block k hk)⟩
      have hO3 := hO2'.out.mod hm3 (by show ¬ w.heap.size = wr.heap.size; omega)
      have k3 : w3.cell? ⟨w.heap.size, i, none⟩ = some (.slice (some ⟨wr.heap.size, 0, none⟩) na na) := by rw [hO3.cell, mxc_at hlt, upd_same]; rfl
      have HO3 := Lib.hid hO3; have HB3 := Lib.hid hB3; have HX3 := Lib.hid hX3; have HM3 := Lib.hid hm3
      have HGW := Lib.hid hgw
      clear hO3 hB3 hX3 hm3 hB2 hX2 hgw
      go_wp2_with fail
      clear hcp k1 k2 fr hr
      have hM0 : Mod (fun k => k = w.heap.size ∨ k = wr.heap.size) wr w3 := ((Mod.of hE1'.out).trans (Mod.only (Only.set _ _ _ _) (.inl rfl))).trans (HM3.out.mono fun k hk => .inr hk)
      have HM0 := Lib.hid hM0; clear hM0 HM3 hO1' hO2' hE1'
      generalize hgg : wr.heap.size = g at *
      have HGG := Lib.hid hgg; clear hgg
      go_loopw [35] (fun i2 wz => ∃ (j : Nat) (f : Nat → En), j ≤ na ∧ i2 = .int .i64 j ∧ Blk wz g 32 (rowc na f).toArray ∧ (∀ j', j' < na → GV wz (f j').v (X i j') 12800) ∧ Mod (fun k => k = g) w3 wz) (fun i2 _ => na - (intOf i2).toNat)
      case atStart => exact ⟨0, E i, by omega, rfl, HB3.out, fun j hj => (HV.out i j hlt hj).ext HX3.out, Mod.refl _ _⟩
      case round =>
        clear k3
        rename World => wz
        obtain ⟨j, f, hj, rfl, hb, hgv, hmz⟩ := hrel
        have HBz := Lib.hid hb; have HGV := Lib.hid hgv; have HMz := Lib.hid hmz; clear hb hgv hmz
        have hGg : w.heap.size ≠ g := by have := HGW.out; omega
        have hOz := HO3.out.mod HMz.out hGg
        have HOz := Lib.hid hOz
        by_cases hjt : j < na
        · have hd : decide ((j : Int) < (na : Int)) = true := by simp; omega
          have k3 : wz.cell? ⟨w.heap.size, i, none⟩ = some (.slice (some ⟨g, 0, none⟩) na na) := by rw [hOz.cell, mxc_at hlt, upd_same]; rfl
          clear hOz
          have HVz := HGV
          obtain ⟨_, a1, _, _, _, _⟩ := RowIs.cells HBz.out hjt rfl
          obtain ⟨za, zb, zd, i1, i2, i3, I, Z⟩ := RI3 (HVz.out j hjt)
          have HI := Lib.hid i1; have H3 := Lib.hid (show ∃ a b d, RI _ (iv (f j).s1 (f j).A1 (f j).n1 (f j).c1) a ∧ RI _ (iv (f j).s2 (f j).A2 (f j).n2 (f j).c2) b ∧ RI _ (iv (f j).s3 (f j).A3 (f j).n3 (f j).c3) d ∧ Is (X i j) a b d ∧ Sz 12800 a b d ∧ za = a from ⟨za, zb, zd, i1, i2, i3, I, Z, rfl⟩)
          have hsm := RI.small i1 Z.a
          clear i1 i2 i3 I Z
          go_wp2_with fail
          refine (clone_gv _ _ _ _ _ _ HI.out hsm).mono ?_
          rintro e w4 ⟨A', n', c', rfl, hI', hx4⟩
          replace a1 := hx4.cell_ a1
          have fr := (HBz.out.ext hx4).frozen
          obtain ⟨fa, hba, hva, hma⟩ := clone_st1 HBz.out HVz.out hjt HI.out hx4 hI' H3.out
          have HBa := Lib.hid hba; have HVa := Lib.hid hva; have HMa := Lib.hid hma
          clear hba hva hma hI' hx4 HI H3 hsm
          iterate 15 (try (first | go_values | go_skip | go_guarded | go_step | go_upon | go_in | go_back | go_simp))
          clear a1 fr
          generalize w4.setCell _ _ = wa at HBa HVa HMa ⊢
          obtain ⟨_, _, _, a1, _, _⟩ := RowIs.cells HBa.out hjt rfl
          obtain ⟨za, zb, zd, i1, i2, i3, I, Z⟩ := RI3 (HVa.out j hjt)
          have HI := Lib.hid i2; have H3 := Lib.hid (show ∃ a b d, RI _ (iv (fa j).s1 (fa j).A1 (fa j).n1 (fa j).c1) a ∧ RI _ (iv (fa j).s2 (fa j).A2 (fa j).n2 (fa j).c2) b ∧ RI _ (iv (fa j).s3 (fa j).A3 (fa j).n3 (fa j).c3) d ∧ Is (X i j) a b d ∧ Sz 12800 a b d ∧ zb = b from ⟨za, zb, zd, i1, i2, i3, I, Z, rfl⟩)
          have hsm := RI.small i2 Z.b
          clear i1 i2 i3 I Z
          go_wp2_with fail
          refine (clone_gv _ _ _ _ _ _ HI.out hsm).mono ?_
          rintro e w4 ⟨A', n', c', rfl, hI', hx4⟩
          replace a1 := hx4.cell_ a1
          have fr := (HBa.out.ext hx4).frozen
          obtain ⟨fb, hbb, hvb, hmb⟩ := clone_st2 HBa.out HVa.out hjt HI.out hx4 hI' H3.out
          have HBb := Lib.hid hbb; have HVb := Lib.hid hvb; have HMb := Lib.hid hmb
          clear hbb hvb hmb hI' hx4 HI H3 hsm
          iterate 15 (try (first | go_values | go_skip | go_guarded | go_step | go_upon | go_in | go_back | go_simp))
          clear a1 fr
          generalize w4.setCell _ _ = wb at HBb HVb HMb ⊢
          obtain ⟨_, _, _, _, _, a1⟩ := RowIs.cells HBb.out hjt rfl
          obtain ⟨za, zb, zd, i1, i2, i3, I, Z⟩ := RI3 (HVb.out j hjt)
          have HI := Lib.hid i3; have H3 := Lib.hid (show ∃ a b d, RI _ (iv (fb j).s1 (fb j).A1 (fb j).n1 (fb j).c1) a ∧ RI _ (iv (fb j).s2 (fb j).A2 (fb j).n2 (fb j).c2) b ∧ RI _ (iv (fb j).s3 (fb j).A3 (fb j).n3 (fb j).c3) d ∧ Is (X i j) a b d ∧ Sz 12800 a b d ∧ zd = d from ⟨za, zb, zd, i1, i2, i3, I, Z, rfl⟩)
          have hsm := RI.small i3 Z.d
          clear i1 i2 i3 I Z
          go_wp2_with fail
          refine (clone_gv _ _ _ _ _ _ HI.out hsm).mono ?_
          rintro e w4 ⟨A', n', c', rfl, hI', hx4⟩
          replace a1 := hx4.cell_ a1
          have fr := (HBb.out.ext hx4).frozen
          obtain ⟨fc, hbc, hvc, hmc⟩ := clone_st3 HBb.out HVb.out hjt HI.out hx4 hI' H3.out
          have HBc := Lib.hid hbc; have HVc := Lib.hid hvc; have HMc := Lib.hid hmc
          clear hbc hvc hmc hI' hx4 HI H3 hsm
          go_wp2_with fail
          clear a1 fr
          generalize w4.setCell _ _ = wc at HBc HVc HMc ⊢
          go_wp2_with fail
          go_roundw
          case rel => exact ⟨j + 1, fc, by omega, by go_num, HBc.out, HVc.out, ((HMz.out.trans HMa.out).trans HMb.out).trans HMc.out⟩
          case measure => simp [intOf]; omega
        · obtain rfl : j = na := by omega
          have hd : decide ((j : Int) < (j : Int)) = false := by simp
          clear hOz
          go_wp2_with fail
          refine ⟨⟨i + 1, upd R' i ⟨some ⟨g, 0, none⟩, g, 0, j, j⟩, by omega, by go_num, ?_⟩, by simp [intOf]; omega⟩
          have hMz : Mod (fun k => k = w.heap.size ∨ k = g) wr wz := HM0.out.trans (HMz.out.mono fun k hk => .inr hk)
          have hS : Far (fun k => k = w.heap.size ∨ k = g) wr := by
            rintro k (rfl | rfl) hk
            · exact ⟨_, _, HD.out.out, noInt_slices _ _⟩
            · have := HGG.out; omega
          have hrow : ∀ i', i' < i → (R' i').b < g := fun i' hi' => by
            obtain ⟨cs, hcs⟩ := (HD.out.row i' hi').2.1.blk
            have := hcs.lt; have := HGG.out; omega
          refine ⟨HOz.out, Nat.le_refl _, fun i' hi' => ?_, fun i' hi' => ?_, fun i' j' hi' hj' e => ?_, ?_⟩
          · by_cases e : i' = i
            · subst e; rw [upd_same]; exact ⟨rfl, rfl⟩
            · rw [upd_ne e]; exact HD.out.len i' (by omega)
          · by_cases e : i' = i
            · subst e; rw [upd_same]; exact ⟨rfl, ⟨f, HBz.out, HGV.out⟩, by have := HGW.out; show w.heap.size ≤ g; omega⟩
            · rw [upd_ne e]
              obtain ⟨h1, h2, h3⟩ := HD.out.row i' (by omega)
              refine ⟨h1, h2.mod hMz hS ?_, h3⟩
              rintro (e2 | e2)
              · obtain ⟨cs, hcs⟩ := h2.blk
                exact hcs.ne_t HD.out.out (by decide) e2
              · have := hrow i' (by omega); omega
          · by_cases e1 : i' = i
            · by_cases e2 : j' = i
              · omega
              · rw [e1, upd_same, upd_ne e2] at e
                have := hrow j' (by omega)
                have e' : g = (R' j').b := e
                omega
            · by_cases e2 : j' = i
              · rw [e2, upd_same, upd_ne e1] at e
                have := hrow i' (by omega)
                have e' : (R' i').b = g := e
                omega
              · rw [upd_ne e1, upd_ne e2] at e
                exact HD.out.inj i' j' (by omega) (by omega) e
          · have hX := HX3.out; have hM := HMz.out
            exact ⟨hM.os.trans hX.os, hM.tape.trans hX.tape, hM.output.trans hX.output, Nat.le_trans hX.size hM.size, fun k hk => (hM.block k (Nat.lt_of_lt_of_le hk hX.size) (by have := HGW.out; omega)).trans (hX.block k hk)⟩
    · obtain rfl : i = m := by omega
      have hd : decide ((i : Int) < (i : Int)) = false := by simp
      go_wp2_with fail
      go_ret
      exact ⟨_, _, rfl, HD.out⟩
end Go.Proofs.YtclkkoiaaddllaaGreat
