/- Ring: Reached of the specification. -/
import Derived.Test.YtnicgmgihmfjbaaRg
namespace Go.Proofs.Ytnicgmgihmfjbaa
open Go.RowKit Go.Shelf
open Rg (nodeAt link wl way)

theorem elem_bool : Elem Try.prog 22 4 1 1 := Elem.of Try.underlying22 (z := .bool false) bool_info rfl (by omega)
theorem hopV_eq (o : Option Nat) : hopV o = .tuple #[.int .i64 ((o.getD 0 : Nat) : Int), .bool o.isSome] := by cases o <;> rfl
theorem rhops_t (A : Option Addr) (c : Nat) (f t d : Int) (cut : List Bool) (b : Bool) (w : World) (hn : cut.length ≤ 140737488351232) (hR : Reads w w.heap.size 1 A cut.length (cut.map .bool)) (hb : (hopsI cut f t d).isSome = b) :
    Calls Try.prog 22 #[.agg #[.slice A cut.length c], .int .i64 f, .int .i64 t, .int .i64 d] w fun e w' => (∃ k : Int, e = .returned (.tuple #[.int .i64 k, .bool b])) ∧ Ext w w' := by
  refine (rhops_any A c f t d cut w hn hR).mono ?_
  rintro e w' ⟨rfl, h⟩
  rw [hopV_eq, hb]
  exact ⟨⟨_, rfl⟩, h⟩

set_option maxRecDepth 100000 in
set_option maxHeartbeats 1000000 in
theorem rreached_bad (A : Option Addr) (c : Nat) (f : Int) (cut : List Bool) (w : World) (hn : cut.length ≤ 140737488351232) (h : ckI cut.length = 3 ∨ (ckI cut.length = 0 ∧ nodeB cut.length f = false)) :
    Calls Try.prog 18 #[.agg #[.slice A cut.length c], .int .i64 f] w fun e w' => e = .returned (.slice none 0 0) ∧ Ext w w' := by
  obtain ⟨b, hE⟩ := Boxed.start w 36 (.slice A cut.length c)
  rcases h with h | ⟨h0, h⟩
  · go_enter Try.func18, Try.ntmps18
    go_wp2_with fail
    generalize w.alloc (.cells #[.slice A cut.length c] 36) = W at *
    refine (rcheck_v _ _ _ _ _ hn h).mono ?_
    rintro e W1 ⟨rfl, hx⟩
    replace hE := hE.trans hx; clear hx b W
    go_wp2_with fail
    go_ret
    exact ⟨rfl, hE⟩
  · go_enter Try.func18, Try.ntmps18
    go_wp2_with fail
    generalize w.alloc (.cells #[.slice A cut.length c] 36) = W at *
    refine (rcheck_v _ _ _ _ _ hn h0).mono ?_
    rintro e W1 ⟨rfl, hx⟩
    replace hE := hE.trans hx; replace b := b.ext hx; clear hx W
    have c4 := b.cell
    go_wp2_with fail
    refine (rnode_v _ _ _ _ _ _ hn h).mono ?_
    rintro e W2 ⟨rfl, hx⟩
    replace hE := hE.trans hx; clear hx c4 b W1
    go_wp2_with fail
    go_ret
    exact ⟨rfl, hE⟩

set_option maxRecDepth 100000 in
set_option maxHeartbeats 4000000 in
theorem rreached_ok (A : Option Addr) (c f : Nat) (cut : List Bool) (w : World) (h3 : 3 ≤ cut.length) (h4 : cut.length ≤ 40) (hf : f < cut.length) (hR : Reads w w.heap.size 1 A cut.length (cut.map .bool)) :
    Calls Try.prog 18 #[.agg #[.slice A cut.length c], .int .i64 f] w (ReachPost cut f w) := by
  obtain ⟨b, hE⟩ := Boxed.start w 36 (.slice A cut.length c)
  have hn : cut.length ≤ 140737488351232 := by omega
  have h0 : ckI cut.length = 0 := ckI_ok h3 h4
  have h1 : nodeB cut.length f = true := by unfold nodeB; simp; exact hf
  have HH := Lib.hid (And.intro h0 h1); clear h0 h1
  have HR := Lib.hid hR; clear hR
  go_enter Try.func18, Try.ntmps18
  go_wp2_with fail
  generalize w.alloc (.cells #[.slice A cut.length c] 36) = W at *
  refine (rcheck_v _ _ _ _ _ hn HH.out.1).mono ?_
  rintro e W1 ⟨rfl, hx⟩
  replace hE := hE.trans hx; replace b := b.ext hx; clear hx W
  have c4 := b.cell
  go_wp2_with fail
  refine (rnode_v _ _ _ _ _ _ hn HH.out.2).mono ?_
  rintro e W2 ⟨rfl, hx⟩
  replace hE := hE.trans hx; replace b := b.ext hx; clear hx c4 W1
  go_wp2_with fail
  go_loopw [5, 6] (fun o i wr => ∃ k : Nat, k ≤ cut.length ∧ i = .int .i64 k ∧ wr.ownsRow w.heap.size 4 1 o k (((List.range k).map (reachB cut f)).map .bool) ∧ Boxed wr w.heap.size 36 (.slice A cut.length c) ∧ Ext w wr) (fun _ i _ => cut.length - (intOf i).toNat)
  case atStart => exact ⟨0, Nat.zero_le _, rfl, World.ownsRow_nil _ _ _ _, b, hE⟩
  case round =>
    obtain ⟨k, hk, rfl, hown, bb, hX⟩ := hrel
    clear b hE
    have HO := Lib.hid hown; clear hown
    have c4 := bb.cell
    by_cases hlt : k < cut.length
    · have hcase : ∃ q a b', decide ((k : Int) = (f : Int)) = q ∧ (hopsI cut f k 0).isSome = a ∧ (hopsI cut f k 1).isSome = b' ∧ reachB cut f k = (q || a || b') := by
        refine ⟨_, _, _, rfl, rfl, rfl, ?_⟩
        have e1 := hasB_ok h3 h4 hf
        have e2 := hasB_ok h3 h4 hlt
        unfold reachB
        rw [show hopsI cut f k 0 = Rg.hops cut 0 f k by simp [hopsI, e1, e2], show hopsI cut f k 1 = Rg.hops cut 1 f k by simp [hopsI, e1, e2]]
        congr 2
        simp
        constructor <;> intro h <;> omega
      obtain ⟨q, a, b', hq, ha, hb, hr⟩ := hcase
      have HA := Lib.hid ha; have HB := Lib.hid hb; have HRB := Lib.hid hr; clear ha hb hr
      have hq' : ((k : Int) == (f : Int)) = q := by rw [← hq]; rfl
      clear hq
      go_wp2_with fail
      clear c4
      refine (rhops_t _ _ _ _ _ _ _ _ hn (HR.out.ext hX) HA.out).mono ?_
      rintro e W3 ⟨⟨k1, rfl⟩, hx⟩
      replace bb := bb.ext hx
      have HO2 := Lib.hid (own_ext HO.out hx)
      replace hX := hX.trans hx
      clear hx HO wr
      have c4 := bb.cell
      go_wp2_with fail
      clear c4
      refine (rhops_t _ _ _ _ _ _ _ _ hn (HR.out.ext hX) HB.out).mono ?_
      rintro e W4 ⟨⟨k2, rfl⟩, hx⟩
      replace bb := bb.ext hx
      have HO3 := Lib.hid (own_ext HO2.out hx)
      replace hX := hX.trans hx
      clear hx HO2 W3 HA HB
      have c4 := bb.cell
      cases q <;> cases a <;> cases b'
      all_goals
        simp only [Bool.or_false, Bool.or_true] at HRB
        go_wp2_with (at_builtin; refine wpList_app elem_bool rfl (.tmp 41) (.tmp 51) rfl w.heap.size _ k _ (by rfl) (HO3.out.alloc _) W4.heap.size 1 1 [.bool (reachB cut f k)] (by rfl) (by rw [HRB.out]; exact Blk.new _ _ _) rfl (by simp [Value.oneCell']) (by omega) (by omega) (by omega) (by have := hX.size; simp; omega) ?_)
        intro g cap w2 o2 gr2 _ _
        have HO := Lib.hid o2; clear o2
        try simp only [Act.put, List.setIfInBounds_toArray, List.set_cons_succ, List.set_cons_zero]
        go_wp2_with fail
        go_roundw
        case rel => exact ⟨k + 1, by omega, by go_num, by have := HO.out; rw [List.range_succ, List.map_append, List.map_append, List.map_map]; exact this, (bb.alloc _).kept gr2 (bb.not_row (by decide) HO3.out), own_grown gr2 (hX.alloc _) (fun g hg => (HO3.out.lt g hg).1)⟩
        case measure => simp [intOf]; omega
    · obtain rfl : k = cut.length := by omega
      go_wp2_with fail
      go_ret
      have hb : hasB cut.length f = true := hasB_ok h3 h4 hf
      obtain ⟨A', c', hv, _, _, hr⟩ := own_reads HO.out
      have he : reachL cut f = (List.range cut.length).map (reachB cut f) := by unfold reachL; rw [if_pos hb]; rfl
      unfold ReachPost
      rw [show (reachL cut f).length = cut.length by rw [he]; simp, he]
      exact ⟨A', c', congrArg Ending.returned hv, hr, hX⟩
theorem rreached_any (A : Option Addr) (c : Nat) (f : Int) (cut : List Bool) (w : World) (hn : cut.length ≤ 140737488351232) (hR : Reads w w.heap.size 1 A cut.length (cut.map .bool)) :
    Calls Try.prog 18 #[.agg #[.slice A cut.length c], .int .i64 f] w (ReachPost cut f w) := by
  have bad : hasB cut.length f = false → (ckI cut.length = 3 ∨ (ckI cut.length = 0 ∧ nodeB cut.length f = false)) → Calls Try.prog 18 #[.agg #[.slice A cut.length c], .int .i64 f] w (ReachPost cut f w) := by
    intro h1 h2
    have HN : reachL cut f = [] := by unfold reachL; rw [h1]; rfl
    refine (rreached_bad A c f cut w hn h2).mono ?_
    rintro e w' ⟨rfl, hx⟩
    unfold ReachPost
    rw [HN]
    exact ⟨none, 0, rfl, Reads.none_, hx⟩
  cases hb : ckB cut.length
  · exact bad (by unfold hasB; rw [hb]; rfl) (.inl (by unfold ckI; rw [hb]; rfl))
  · have h0 : ckI cut.length = 0 := by unfold ckI; rw [hb]; rfl
    cases h1 : nodeB cut.length f
    · exact bad (by rw [← nodeB_has hb]; exact h1) (.inr ⟨h0, h1⟩)
    · have k1 := hasB_iff.1 (show hasB cut.length f = true by rw [← nodeB_has hb]; exact h1)
      obtain ⟨f', rfl⟩ : ∃ f' : Nat, f = f' := ⟨f.toNat, by omega⟩
      exact rreached_ok A c f' cut w k1.1 k1.2.1 (by omega) hR
end Go.Proofs.Ytnicgmgihmfjbaa
