/- UnitAsks, plainly. -/
import Derived.Test.YtfhnfhgpaoddbaaDoorU9
import Derived.Test.YtfhnfhgpaoddbaaDoorPr
namespace Go.Proofs.YtfhnfhgpaoddbaaDoor.Pure
open Go Go.RowKit Go.Proofs.YtfhnfhgpaoddbaaDoor.Mu Go.Proofs.YtfhnfhgpaoddbaaDoor.Pu Go.Proofs.YtfhnfhgpaoddbaaDoor.U Go.Proofs.YtfhnfhgpaoddbaaDoorW.PrintWords Go.Proofs.YtfhnfhgpaoddbaaDoorW.PrintLast Go.Proofs.YtfhnfhgpaoddbaaDoorW.PrintMore

theorem asked_ans (s : ByteArray) (hs : s.size ≤ 1099511627776) (a : Int) (ha : a ≤ 9223372036854775807) : Ev (fun k => bodkinlaw01_asked.f k s a) true := by
  obtain ⟨d1, e1, h1⟩ := down_ans s hs a
  obtain ⟨d1', e1', h1'⟩ := ref_down_ans s hs a
  obtain ⟨d2, e2, h2⟩ := up_ans s hs a
  obtain ⟨d2', e2', h2'⟩ := ref_up_ans s hs a
  obtain ⟨d3, e3, h3⟩ := next_ans s hs a
  obtain ⟨d3', e3', h3'⟩ := ref_next_ans s hs a
  obtain ⟨d4, e4, h4⟩ := prev_ans s hs a ha
  obtain ⟨d4', e4', h4'⟩ := ref_prev_ans s hs a
  refine Ev.bind (at_ans s hs a) (Ev.bind (ref_at_ans s hs a) (ev_neg (by simp) (ev_neg (by simp) (Ev.bind (boundary_ans s hs a) (Ev.bind (ref_boundary_ans s hs a) (Ev.step (fun k => bodkinlaw01_asked.j0.eq_2 ..) (ev_neg (by simp) ?_)))))))
  exact Ev.bind e1 (Ev.bind e1' (ev_pos (h1.one h1') (Ev.bind e2 (Ev.bind e2' (ev_pos (h2.one h2') (Ev.bind e3 (Ev.bind e3' (ev_pos (h3.one h3') (Ev.bind e4 (Ev.bind e4' (ev_now (by rw [h4.one h4']; simp))))))))))))

theorem asks_loop (s : ByteArray) (hs : s.size ≤ 1099511627776) : ∀ (n : Nat) (a : Int), -1 ≤ a → 101 - a ≤ n → Ev (fun k => bodkinlaw01_UnitAsks.l0 k s a) true := by
  have hm : mn (wrap64 ((s.size : Int) + 1)) 100 ≤ 100 := by unfold mn; split <;> omega
  intro n
  induction n with
  | zero => intro a h1 h2; exact Ev.step (fun k => bodkinlaw01_UnitAsks.l0.eq_2 ..) (ev_neg (by omega) (Ev.now _))
  | succ n ih =>
    intro a h1 h2
    refine Ev.step (fun k => bodkinlaw01_UnitAsks.l0.eq_2 ..) ?_
    by_cases h : a ≤ mn (wrap64 ((s.size : Int) + 1)) 100
    · refine ev_pos h (Ev.bind (asked_ans s hs a (by omega)) (ev_pos rfl ?_))
      rw [w64 (x := a + 1) (by omega) (by omega)]
      exact ih (a + 1) (by omega) (by omega)
    · exact ev_neg h (Ev.now _)

theorem UnitAsks (a0 : ByteArray) (a1 : Int) (u0 : a0.size ≤ 1048576) (w1 : (Lit.int .i64 a1).wf = true) : ∃ k, bodkinlaw01_UnitAsks.f k a0 a1 = some true := by
  have h64 : a1 ≤ 9223372036854775807 := by
    simp only [Lit.wf, IntKind.min, IntKind.max, IntKind.signed, IntKind.bits, Bool.and_eq_true] at w1
    simpa using w1.2
  apply Ev.rounds
  unfold bodkinlaw01_UnitAsks.f
  refine ev_some rfl (ev_pos rfl (Ev.bind (asked_ans a0 (by omega) a1 h64) (ev_pos rfl (Ev.bind (asked_ans a0 (by omega) _ (by omega)) (ev_pos rfl ?_)))))
  rw [w64 (by omega) (by omega)]
  exact Ev.bind (asked_ans a0 (by omega) _ (by omega)) (Ev.step (fun k => bodkinlaw01_UnitAsks.j0.eq_2 ..) (ev_neg (by simp) (asks_loop a0 (by omega) 102 (-1) (by omega) (by omega))))
end Go.Proofs.YtfhnfhgpaoddbaaDoor.Pure
