/- UnitSeams, plainly. -/
import Derived.Test.YtfhnfhgpaoddbaaDoorU9
import Derived.Test.YtfhnfhgpaoddbaaDoorPw
import Derived.Test.YtfhnfhgpaoddbaaDoorHc
namespace Go.Proofs.YtfhnfhgpaoddbaaDoor.Pure
open Go Go.RowKit Go.Proofs.YtfhnfhgpaoddbaaDoor.Mu Go.Proofs.YtfhnfhgpaoddbaaDoor.Pu Go.Proofs.YtfhnfhgpaoddbaaDoor.U Go.Proofs.YtfhnfhgpaoddbaaDoorW.PrintWords Go.Proofs.YtfhnfhgpaoddbaaDoorW.PrintLast Go.Proofs.YtfhnfhgpaoddbaaDoorW.PrintMore

theorem uAt_c (s : ByteArray) (x : Nat) : (uAt s x).f0 = uC s x := rfl
theorem uAt_n (s : ByteArray) (x : Nat) : (uAt s x).f1 = (uN s x : Int) := rfl
attribute [local irreducible] uC uN uAt tl walkL

theorem UnitSeams (a0 : ByteArray) (a1 : ByteArray) (u0 : a0.size ≤ 1048576) (u1 : a1.size ≤ 1048576) : ∃ k, bodkinlaw01_UnitSeams.f k a0 a1 = some true := by
  have hs := size_two a0 a1
  have hu : ∀ s : ByteArray, s.size ≤ 2097152 → unit_Units.f s = some (tl s 0) := by intro s h; unfold unit_Units.f; rw [if_pos (by omega), unitsL_tl]
  have hsb : (a0 ++ a1).size ≤ 1099511627776 := by omega
  apply Ev.rounds
  unfold bodkinlaw01_UnitSeams.f
  refine ev_some rfl (ev_pos rfl (ev_pos (by omega) (ev_some (hu _ (by omega)) (ev_some (hu _ (by omega)) (ev_some (hu _ (by omega)) ?_)))))
  have l1 := tl_len a0 0
  have l2 := tl_len a1 0
  have l3 := tl_len (a0 ++ a1) 0
  have htr : ∀ y, tl (a0 ++ a1) (a0.size + y) = tl a1 y := fun y => tl_right a0 a1 a1.size y (by omega)
  by_cases hb : Bd (a0 ++ a1) a0.size
  · obtain ⟨P, e1, e2⟩ := tl_left a0 a1 a0.size (by omega) hb a0.size 0 (by omega) (by omega)
    have e3 := htr 0
    rw [Nat.add_zero] at e3
    rw [e3] at e1
    rw [tl_end a0 a0.size (by omega), List.append_nil] at e2
    have e4 : tl (a0 ++ a1) 0 = tl a0 0 ++ tl a1 0 := by rw [e1, e2]
    refine Ev.bind (boundary_yes hsb ((bdI_nat _ _).2 hb)) (ev_pos rfl (ev_some rfl (ev_pos (by simp only [List.length_nil]; omega) (ev_some rfl (ev_pos (by rw [List.nil_append]; omega) (Ev.bind (a := true) ?_ (Ev.now _)))))))
    rw [List.nil_append, e4]
    exact alike_same _ (by rw [List.length_append]; omega)
  · obtain ⟨j, hj, hj2, hjb, hj3⟩ := within (a0 ++ a1) a0.size (by omega) hb
    have h4 := uN_le4 (a0 ++ a1) j
    have hle := uN_le (a0 ++ a1) j (by omega)
    have hD := down_ev hsb (downS_in (k := (a0.size : Int)) hjb (by omega) (by omega))
    have hU := up_ev hsb (upS_in (k := (a0.size : Int)) hjb (by omega) (by omega) (by omega))
    refine Ev.bind (boundary_no hsb (fun h => hb ((bdI_nat _ _).1 h))) (ev_neg (by simp) (Ev.bind hD (Ev.bind hU (ev_neg (by omega) (ev_neg (by omega) ?_)))))
    rw [w64 (by omega) (by omega)]
    refine ev_neg (by omega) (Ev.step (fun k => bodkinlaw01_UnitSeams.j0.eq_2 ..) (ev_neg (by rw [decide_eq_true_eq]; omega) ?_))
    rw [w64 (x := (a0.size : Int) - j) (by omega) (by omega), w64 (x := (j : Int) + uN (a0 ++ a1) j - a0.size) (by omega) (by omega)]
    -- the lists
    obtain ⟨P, e1, e2⟩ := tl_left a0 a1 j (by omega) hjb j 0 (by omega) (by omega)
    have hcont : ∀ i, j < i → i < j + uN (a0 ++ a1) j → byt (a0 ++ a1) i / 64 = 2 := fun i h1 h2 => inner_cont _ j i h1 h2
    have hA : (tl a0 j).length = a0.size - j := by
      refine tl_ones a0 _ j (by omega) (fun y h1 h2 => ?_)
      by_cases hy : y = j
      · rw [hy]; exact left_over a0 a1 j hj hj2
      · have := hcont y (by omega) (by omega)
        rw [byt_append_left _ _ _ h2] at this
        exact (cont_one a0 y this).1
    obtain ⟨z, hz⟩ : ∃ z, j + uN (a0 ++ a1) j = a0.size + z := ⟨j + uN (a0 ++ a1) j - a0.size, by omega⟩
    obtain ⟨Q, hQ, e5⟩ := tl_skip a1 z (by omega) z 0 (by omega) (fun y _ hy => by
        have := hcont (a0.size + y) (by omega) (by omega)
        rw [byt_append_right] at this
        exact (cont_one a1 y this).1)
    have e6 : tl (a0 ++ a1) 0 = P ++ (uAt (a0 ++ a1) j :: tl a1 z) := by rw [e1, tl_go _ j (by omega), hz, htr]
    have lx : (tl a0 0).length = P.length + (a0.size - j) := by rw [e2, List.length_append, hA]
    have ly : (tl a1 0).length = z + (tl a1 z).length := by rw [e5, List.length_append, hQ]
    have la : (tl (a0 ++ a1) 0).length = P.length + 1 + (tl a1 z).length := by rw [e6, List.length_append, List.length_cons]; omega
    have hzz : (j : Int) + uN (a0 ++ a1) j - a0.size = (z : Int) := by omega
    rw [hzz]
    refine ev_neg (by omega) (Ev.step (fun k => bodkinlaw01_UnitSeams.j1.eq_2 ..) (ev_neg (by rw [decide_eq_true_eq]; omega) ?_))
    rw [w64 (x := ((tl a0 0).length : Int) - ((a0.size : Int) - j)) (by omega) (by omega)]
    have hn : ((tl a0 0).length : Int) - ((a0.size : Int) - j) = (P.length : Int) := by omega
    rw [hn, w64 (x := (P.length : Int) + 1) (by omega) (by omega), w64 (x := (P.length : Int) + 1 + ((tl a1 0).length : Int)) (by omega) (by omega), w64 (x := (P.length : Int) + 1 + ((tl a1 0).length : Int) - (z : Int)) (by omega) (by omega), w64 (x := (j : Int) + (uN (a0 ++ a1) j : Int) - (j : Int)) (by omega) (by omega)]
    refine ev_pos (by omega) (ev_pos (by omega) (ev_pos (by omega) (ev_pos (by omega) (Ev.bind (a := true) ?_ (ev_pos rfl (ev_pos (by omega) (ev_pos (by omega) (ev_pos (by omega) (ev_pos (by omega) (Ev.bind (a := true) ?_ (ev_pos rfl (ev_pos (by omega) ?_))))))))))))
    · rw [Int.toNat_natCast, e6, e2, List.take_left' rfl, List.take_left' rfl]
      exact alike_same P (by omega)
    · have hd1 : (P ++ (uAt (a0 ++ a1) j :: tl a1 z)).drop (P.length + 1) = tl a1 z := by
        rw [show P ++ (uAt (a0 ++ a1) j :: tl a1 z) = (P ++ [uAt (a0 ++ a1) j]) ++ tl a1 z by simp, List.drop_left' (by simp)]
      rw [show ((P.length : Int) + 1).toNat = P.length + 1 by omega, Int.toNat_natCast, e6, e5, hd1, List.drop_left' hQ]
      exact alike_same _ (by omega)
    · have hr : rd_T30 (tl (a0 ++ a1) 0) (P.length : Int) = uAt (a0 ++ a1) j := by
        rw [rd_unit_at, e6, List.getD_eq_getElem?_getD, List.getElem?_append_right (by omega)]; simp
      rw [hr, uAt_c, uAt_n]
      have hg := bad_or (a0 ++ a1) j
      refine ev_pos (by omega) (ev_now ?_)
      rw [decide_eq_true_eq]
      omega
end Go.Proofs.YtfhnfhgpaoddbaaDoor.Pure
