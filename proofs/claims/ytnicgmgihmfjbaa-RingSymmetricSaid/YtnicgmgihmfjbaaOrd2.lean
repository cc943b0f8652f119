/- A region whose order is open and that has no tail: nothing that is there changes in it. -/
import Derived.Test.YtnicgmgihmfjbaaOrd
namespace Go.Proofs.Ytnicgmgihmfjbaa
open Go.RowKit
theorem wp_region_ordN {P : Program} {Q : Exit → Act → World → Prop} {id : Nat} {a : Act} {w : World} {l : List Oper} (ord : List (Bool × Nat)) (hm : P.follows .mixedOrders = true)
    (hB : (Region.noSelect l.toArray && decide (l.length = ord.length) && ordOk l.toArray ord (Array.replicate l.length false)) = true)
    (h : wpOrd P l.toArray Q (fun w' => ∃ x : ExtOf w, w' = x.val) ord a w.drew) : (Code.region id l.toArray true).wp P Q a w := by
  simp only [Bool.and_eq_true, decide_eq_true_eq] at hB
  exact wp_region_ord _ ord hm hB.1.1 hB.1.2 hB.2 ⟨⟨w.drew, (Ext.refl w).drew⟩, rfl⟩ h
end Go.Proofs.Ytnicgmgihmfjbaa
