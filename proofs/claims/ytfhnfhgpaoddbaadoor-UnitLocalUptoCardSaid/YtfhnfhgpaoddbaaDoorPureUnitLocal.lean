/- UnitLocal, plainly. -/
import Derived.Test.YtfhnfhgpaoddbaaDoorU8
import Derived.Test.YtfhnfhgpaoddbaaDoorPu
import Derived.Test.YtfhnfhgpaoddbaaDoorHc
namespace Go.Proofs.YtfhnfhgpaoddbaaDoor.Pure
open Go Go.RowKit Go.Proofs.YtfhnfhgpaoddbaaDoor.Mu Go.Proofs.YtfhnfhgpaoddbaaDoor.Pu Go.Proofs.YtfhnfhgpaoddbaaDoor.U Go.Proofs.YtfhnfhgpaoddbaaDoorW.PrintWords Go.Proofs.YtfhnfhgpaoddbaaDoorW.PrintLast Go.Proofs.YtfhnfhgpaoddbaaDoorW.PrintMore

theorem local_loop (s : ByteArray) (hs : s.size ≤ 1099511627776) (L : List Int) (hL : ∀ x ∈ L, 0 ≤ x ∧ x ≤ s.size) (hl : L.length ≤ 1000) : ∀ n j : Nat, j + n = L.length → Ev (fun k => bodkinlaw01_UnitLocal.l0 k s L (L.length : Int) j) true := by
  intro n
  induction n with
  | zero => intro j hj; exact Ev.step (fun k => bodkinlaw01_UnitLocal.l0.eq_2 ..) (ev_neg (by omega) (Ev.now _))
  | succ n ih =>
    intro j hj
    obtain ⟨h0, h1⟩ := hL _ (rd_at L j (by omega))
    have ea : ∃ a : Nat, mx (wrap64 (rd L j - 3)) 0 = a ∧ a = (rd L j).toNat - 3 := by
      rw [w64 (by omega) (by omega)]
      unfold mx
      split
      · exact ⟨0, rfl, by omega⟩
      · exact ⟨(rd L j).toNat - 3, by omega, rfl⟩
    have eb : ∃ b : Nat, mn (wrap64 (rd L j + 3)) (s.size : Int) = b ∧ (b = (rd L j).toNat + 3 ∨ b = s.size) ∧ b ≤ s.size ∧ (rd L j).toNat ≤ b := by
      rw [w64 (by omega) (by omega)]
      unfold mn
      split
      · exact ⟨s.size, rfl, by omega, by omega, by omega⟩
      · exact ⟨(rd L j).toNat + 3, by omega, by omega, by omega, by omega⟩
    obtain ⟨a, ea, ha⟩ := ea
    obtain ⟨b, eb, hb, hb2, hb3⟩ := eb
    refine Ev.step (fun k => bodkinlaw01_UnitLocal.l0.eq_2 ..) (ev_pos (by omega) (ev_pos (by omega) (ev_pos (by omega) (Ev.bind (boundary_ans s hs _) ?_))))
    rw [ea, eb]
    refine ev_pos (by omega) (ev_pos (by omega) (ev_pos (by omega) (Ev.bind (boundary_ans _ ?_ _) (ev_neg ?_ ?_))))
    · rw [Int.toNat_natCast, Int.toNat_natCast, size_extract _ _ _ hb2]; omega
    · rw [Int.toNat_natCast, Int.toNat_natCast]
      have e : wrap64 (rd L j - a) = (((rd L j).toNat - a : Nat) : Int) := by rw [w64 (by omega) (by omega)]; omega
      have : bdB s (rd L j) = bdB (s.extract a b) (wrap64 (rd L j - a)) := by
        rw [Bool.eq_iff_iff, bdB_iff, bdB_iff, e, bdI_nat]
        have := bd_local s (rd L j).toNat a b (by omega) (by omega) hb3 hb2 (by omega)
        rw [this]
        exact ⟨fun h => h.2, fun h => ⟨h0, h⟩⟩
      rw [this]
      simp
    · rw [w64 (by omega) (by omega)]
      exact ih (j + 1) (by omega)

theorem UnitLocal (a0 : ByteArray) (a1 : Int) (u0 : a0.size ≤ 1048576) (w1 : (Lit.int .u16 a1).wf = true) : ∃ k, bodkinlaw01_UnitLocal.f k a0 a1 = some true := by
  have h16 : 0 ≤ a1 ∧ a1 ≤ 65535 := by
    simp only [Lit.wf, IntKind.min, IntKind.max, IntKind.signed, IntKind.bits, Bool.and_eq_true] at w1
    simpa using w1
  obtain ⟨h0, h1⟩ := h16
  obtain ⟨m, hm⟩ : ∃ m : Nat, a1 = m := ⟨a1.toNat, by omega⟩
  have e1 : wrap64 ((a0.size : Int) + 1) = (a0.size : Int) + 1 := w64 (by omega) (by omega)
  have e2 : Int.tmod (wrap64 a1) ((a0.size : Int) + 1) = ((m % (a0.size + 1) : Nat) : Int) := by
    rw [w64 (by omega) (by omega), hm, Int.tmod_eq_emod_of_nonneg (by omega)]; simp
  have hlt := Nat.mod_lt m (show 0 < a0.size + 1 by omega)
  generalize hq : m % (a0.size + 1) = q at e2 hlt
  have e3 : Int.tdiv (q : Int) 2 = ((q / 2 : Nat) : Int) := by rw [Int.tdiv_eq_ediv_of_nonneg (by omega)]; omega
  have e4 : Int.tdiv (q : Int) 3 = ((q / 3 : Nat) : Int) := by rw [Int.tdiv_eq_ediv_of_nonneg (by omega)]; omega
  apply Ev.rounds
  unfold bodkinlaw01_UnitLocal.f
  rw [e1, e2, e3, e4]
  refine ev_some rfl (ev_pos rfl (ev_neg (by omega) (ev_some rfl ?_)))
  rw [w64 (x := ((q / 3 : Nat) : Int)) (by omega) (by omega), w64 (by omega) (by omega), w64 (by omega) (by omega)]
  refine local_loop a0 (by omega) _ ?_ (by simp) 3 0 (by simp)
  intro x hx
  simp only [List.mem_cons, List.not_mem_nil, or_false] at hx
  omega
end Go.Proofs.YtfhnfhgpaoddbaaDoor.Pure
