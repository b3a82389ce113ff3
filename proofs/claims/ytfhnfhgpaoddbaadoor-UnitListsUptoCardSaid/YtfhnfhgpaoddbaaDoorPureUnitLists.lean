/- UnitLists, plainly. -/
import Derived.Test.YtfhnfhgpaoddbaaDoorU10
import Derived.Test.YtfhnfhgpaoddbaaDoorPw
import Derived.Test.YtfhnfhgpaoddbaaDoorPr
import Derived.Test.YtfhnfhgpaoddbaaDoorPn
import Derived.Test.YtfhnfhgpaoddbaaDoorHc
import Derived.Test.YtfhnfhgpaoddbaaDoorHw
namespace Go.Proofs.YtfhnfhgpaoddbaaDoor.Pure
open Go Go.RowKit Go.Proofs.YtfhnfhgpaoddbaaDoor.Mu Go.Proofs.YtfhnfhgpaoddbaaDoor.Pu Go.Proofs.YtfhnfhgpaoddbaaDoor.U Go.Proofs.YtfhnfhgpaoddbaaDoorW.PrintWords Go.Proofs.YtfhnfhgpaoddbaaDoorW.PrintLast Go.Proofs.YtfhnfhgpaoddbaaDoorW.PrintMore

theorem rdOf_mem (l : List ByteArray) (i : Nat) (h : i < l.length) : rdOf ByteArray.empty l (i : Int) ∈ l := by
  unfold rdOf
  rw [Int.toNat_natCast, List.getD_eq_getElem?_getD, List.getElem?_eq_getElem h]
  exact List.getElem_mem h
theorem lists_loop (L : List ByteArray) (hL : L.length ≤ 1048576) (hs : ∀ s ∈ L, s.size ≤ 1048576) (a : Int) : ∀ n j : Nat, j + n = 2 * L.length → Ev (fun k => bodkinlaw01_UnitLists.l0 k L a ((2 * L.length : Nat) : Int) j) true := by
  intro n
  induction n with
  | zero => intro j hj; exact Ev.step (fun k => bodkinlaw01_UnitLists.l0.eq_2 ..) (ev_neg (by omega) (Ev.now _))
  | succ n ih =>
    intro j hj
    have e1 : wrap64 (2 * (L.length : Int)) = 2 * (L.length : Int) := w64 (by omega) (by omega)
    have ei : ∃ i : Nat, mn (j : Int) (wrap64 (wrap64 (wrap64 (2 * (L.length : Int)) - 1) - (j : Int))) = i ∧ i < L.length := by
      rw [e1, w64 (x := 2 * (L.length : Int) - 1) (by omega) (by omega), w64 (by omega) (by omega)]
      unfold mn
      split
      · exact ⟨2 * L.length - 1 - j, by omega, by omega⟩
      · exact ⟨j, by omega, by omega⟩
    obtain ⟨i, ei, hi⟩ := ei
    have hm := hs _ (rdOf_mem L i hi)
    have hl := unitsL_length (rdOf ByteArray.empty L (i : Int))
    have hu : unit_Units.f (rdOf ByteArray.empty L (i : Int)) = some (unitsL (rdOf ByteArray.empty L (i : Int))) := by unfold unit_Units.f; rw [if_pos (by omega)]
    have hw : ∀ b, bodkinlaw01_walked.f (rdOf ByteArray.empty L (i : Int)) (unitsL (rdOf ByteArray.empty L (i : Int))) b = some true := fun b => by
      unfold bodkinlaw01_walked.f; rw [if_pos ⟨by omega, (sameU_eq _ _).2 rfl⟩]
    refine Ev.step (fun k => bodkinlaw01_UnitLists.l0.eq_2 ..) (ev_pos (by omega) ?_)
    rw [ei]
    refine ev_pos (by omega) (ev_pos (by omega) (Ev.bind (ref_units_ans _ (by omega)) (ev_some hu (Ev.bind (alike_same _ (by omega)) (ev_pos rfl (ev_some (count_ans _ (by omega)) (ev_pos ?_ (ev_some (hw a) (ev_pos rfl (ev_some (hw 0) (ev_pos rfl ?_)))))))))))
    · rw [unitsL_count]
    · rw [w64 (by omega) (by omega)]
      exact ih (j + 1) (by omega)

theorem UnitLists (l0 : List ByteArray) (a1 : Int) (u0 : l0.length ≤ 1048576) (s0 : ∀ s ∈ l0, s.size ≤ 1048576) (_w1 : (Lit.int .i64 a1).wf = true) : ∃ k, bodkinlaw01_UnitLists.f k l0 a1 = some true := by
  apply Ev.rounds
  unfold bodkinlaw01_UnitLists.f
  refine ev_some rfl (ev_pos rfl ?_)
  rw [show wrap64 (2 * (l0.length : Int)) = ((2 * l0.length : Nat) : Int) by rw [w64 (by omega) (by omega)]; omega]
  exact lists_loop l0 u0 s0 a1 (2 * l0.length) 0 (by omega)
end Go.Proofs.YtfhnfhgpaoddbaaDoor.Pure
