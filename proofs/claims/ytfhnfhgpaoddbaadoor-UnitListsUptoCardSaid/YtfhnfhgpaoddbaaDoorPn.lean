/- The number of the units, plainly. -/
import Derived.Test.YtfhnfhgpaoddbaaDoorU6
import Derived.Test.YtfhnfhgpaoddbaaDoorPv
import Derived.Lib.RuneCountTail
namespace Go.Proofs.YtfhnfhgpaoddbaaDoor.Pu
open Go Go.RowKit Go.Proofs.YtfhnfhgpaoddbaaDoor.Mu Go.Proofs.YtfhnfhgpaoddbaaDoor.U Go.Proofs.YtfhnfhgpaoddbaaDoorW.PrintWords Go.Proofs.YtfhnfhgpaoddbaaDoorW.PrintLast Go.Proofs.YtfhnfhgpaoddbaaDoorW.PrintMore

/-! ### how many -/
theorem count_eq (s : ByteArray) (f x : Nat) : Lib.runeCountFrom s (f + 1) x = if x < s.size then 1 + Lib.runeCountFrom s f (x + uN s x) else 0 := by
  rw [Lib.runeCountFrom]; split <;> simp [uN]
theorem count_walk (s : ByteArray) : ∀ f x, (walkL s f x).length = Lib.runeCountFrom s f x
  | 0, _ => by simp [walkL, Lib.runeCountFrom]
  | f + 1, x => by
    rw [count_eq]; unfold walkL
    split
    · rw [List.length_cons, count_walk s f]; omega
    · rfl
theorem count_ans (s : ByteArray) (hs : s.size ≤ 1099511627776) : unit_Count.f s = some ((Lib.runeCount s : Nat) : Int) := by
  unfold unit_Count.f utf8_RuneCountInString.f
  rw [if_pos (by omega)]; rfl
theorem unitsL_count (s : ByteArray) : (unitsL s).length = Lib.runeCount s := by unfold unitsL walkU Lib.runeCount; rw [List.length_map, count_walk]
end Go.Proofs.YtfhnfhgpaoddbaaDoor.Pu
