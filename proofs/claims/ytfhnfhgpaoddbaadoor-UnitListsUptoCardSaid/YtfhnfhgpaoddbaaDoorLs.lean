/- A slice of strings among a card's arguments: what the contracts ask of it. -/
import Derived.Test.YtfhnfhgpaoddbaaDoorWMore
import Derived.Test.YtfhnfhgpaoddbaaDoorWLast
import Derived.SliceStrings
import Derived.WalkKit
namespace Go.Proofs.YtfhnfhgpaoddbaaDoor.Lf
open Go Go.RowKit Go.ChangeShapes Go.Proofs.YtfhnfhgpaoddbaaDoorW.PrintWords Go.Proofs.YtfhnfhgpaoddbaaDoorW.PrintLast Go.Proofs.YtfhnfhgpaoddbaaDoorW.PrintMore

def IsStrs (w : World) (a : Option Addr) (len cap : Nat) (ss : List ByteArray) : Prop :=
  (a = none ∧ len = 0 ∧ cap = 0 ∧ ss = []) ∨ ∃ x, a = some x ∧ len ≤ cap ∧ cap ≤ maxLen ∧ ss.length = cap ∧ ∀ i, i < ss.length → w.cell? (x.add i) = some (.string (ss.getD i ByteArray.empty))
theorem strs_read {w : World} {a : Option Addr} {len cap : Nat} {ss : List ByteArray} (h : IsStrs w a len cap ss) : ∃ l : List ByteArray, len = l.length ∧ l = ss.take len ∧ Kd.C Kd.string w a l.length l ∧ l.length ≤ cap := by
  rcases h with ⟨rfl, rfl, rfl, rfl⟩ | ⟨x, rfl, hl, hm, hs, hc⟩
  · refine ⟨[], rfl, rfl, Kd.C_of_reads (enc := Value.string) (d := ByteArray.empty) ⟨rfl, by simp, fun h => absurd h (by simp)⟩, Nat.le_refl _⟩
  · have e : (ss.take len).length = len := by rw [List.length_take]; omega
    refine ⟨ss.take len, e.symm, rfl, Kd.C_of_reads (enc := Value.string) (d := ByteArray.empty) ⟨rfl, by unfold maxLen at hm; omega, fun _ => ⟨x, rfl, fun j hj => ?_⟩⟩, by omega⟩
    rw [hc j (by omega)]
    simp [List.getD_eq_getElem?_getD, show j < len by omega]
end Go.Proofs.YtfhnfhgpaoddbaaDoor.Lf
