/- UnitSteps, plainly. -/
import Derived.Test.YtfhnfhgpaoddbaaDoorU10
import Derived.Test.YtfhnfhgpaoddbaaDoorPv
namespace Go.Proofs.YtfhnfhgpaoddbaaDoor.Pure
open Go Go.RowKit Go.Proofs.YtfhnfhgpaoddbaaDoor.Mu Go.Proofs.YtfhnfhgpaoddbaaDoor.Pu Go.Proofs.YtfhnfhgpaoddbaaDoor.U Go.Proofs.YtfhnfhgpaoddbaaDoorW.PrintWords Go.Proofs.YtfhnfhgpaoddbaaDoorW.PrintLast Go.Proofs.YtfhnfhgpaoddbaaDoorW.PrintMore

theorem steps_end (s : ByteArray) (hs : s.size ≤ 1099511627776) (i : Int) : Ev (fun k => bodkinlaw01_UnitSteps.j3 k s i false) true := by
  refine Ev.step (fun k => bodkinlaw01_UnitSteps.j3.eq_2 ..) (ev_neg (by simp) ?_)
  obtain ⟨lo, hlo, hD⟩ := down_ans s hs i
  obtain ⟨hi, hhi, hU⟩ := up_ans s hs i
  refine Ev.bind hlo (Ev.bind hhi ?_)
  have b1 := bdI_le hD.1
  have b2 := bdI_le hU.1
  by_cases h0 : 0 ≤ i
  · refine ev_pos (by omega) ?_
    by_cases h1 : i ≤ s.size
    · refine Ev.step (fun k => bodkinlaw01_UnitSteps.j4.eq_2 ..) (ev_pos (by simpa using h1) ?_)
      have hl : lo ≤ i := by rcases hD.2.1 with h | h <;> omega
      have hh : i ≤ hi := by rcases hU.2.1 with h | h <;> omega
      refine ev_pos hl (ev_pos hh (Ev.bind (boundary_ans s hs i) (ev_pos ?_ (Ev.bind (down_ev hs (downS_at hU.1)) (ev_pos rfl (Ev.bind (up_ev hs (upS_at hD.1)) (ev_now (by simp))))))))
      rw [beq_iff_eq, Bool.eq_iff_iff, bdB_iff, beq_iff_eq]
      constructor
      · intro h; rw [hD.one (downS_at h), hU.one (upS_at h)]
      · intro h; have : lo = i := by omega
        exact this ▸ hD.1
    · have e1 := hD.one (downS_far (by omega)); have e2 := hU.one (upS_far (by omega))
      refine Ev.step (fun k => bodkinlaw01_UnitSteps.j4.eq_2 ..) (ev_neg (by simpa using h1) (ev_pos (by omega) (Ev.bind (boundary_no hs (fun h => by have := bdI_le h; omega)) (ev_neg (by simp) ?_))))
      by_cases hz : lo = 0
      · exact ev_pos hz (Ev.now _)
      · exact ev_neg hz (ev_now (by simpa using e1))
  · refine ev_neg (by omega) ?_
    have e1 := hD.one (downS_neg (by omega)); have e2 := hU.one (upS_neg (by omega))
    refine Ev.step (fun k => bodkinlaw01_UnitSteps.j4.eq_2 ..) (ev_neg (by simp) (ev_pos (by omega) (Ev.bind (boundary_no hs (fun h => by have := bdI_le h; omega)) (ev_neg (by simp) (ev_pos e1 (Ev.now _))))))

theorem steps_inner (s : ByteArray) (hs : s.size ≤ 1099511627776) (i : Int) (x : Nat) (hb : Bd s x) (hx : x < s.size) (c j : Int) (v : Bool) (h : Ev (fun k => bodkinlaw01_UnitSteps.l0 k s i ((x : Int) + uN s x) c (wrap64 (j + 1))) v) :
    ∀ n m : Nat, m + n = x + uN s x → x < m → Ev (fun k => bodkinlaw01_UnitSteps.l1 k s i x ((x : Int) + uN s x) m c j) v := by
  intro n
  induction n with
  | zero => intro m hm _; exact Ev.step (fun k => bodkinlaw01_UnitSteps.l1.eq_2 ..) (ev_neg (by omega) h)
  | succ n ih =>
    intro m hm hxm
    have := uN_le s x hx
    refine Ev.step (fun k => bodkinlaw01_UnitSteps.l1.eq_2 ..) (ev_pos (by omega) (Ev.bind (boundary_no hs (not_in (x := x) (by omega) (by omega))) (ev_neg (by simp) (Ev.bind (down_ev hs (downS_in hb (by omega) (by omega))) (ev_pos rfl
      (Ev.bind (up_ev hs (upS_in hb hx (by omega) (by omega))) (ev_pos rfl (Ev.bind (prev_ev hs (by omega) (prevS_in hb (by omega) (by omega))) (ev_pos rfl (Ev.bind (next_ev hs (nextS_in hb hx (by omega) (by omega))) (ev_pos rfl ?_)))))))))))
    rw [w64 (by omega) (by omega)]
    exact ih (m + 1) (by omega) (by omega)

theorem steps_loop (s : ByteArray) (hs : s.size ≤ 1099511627776) (i : Int) (c : Nat) (hc : c ≤ s.size) : ∀ n x j : Nat, s.size - x ≤ n → Bd s x → c = j + Lib.runeCountFrom s n x → Ev (fun k => bodkinlaw01_UnitSteps.l0 k s i x c j) true := by
  intro n
  induction n with
  | zero =>
    intro x j hn hb hcj
    have h1 := hb.1
    obtain rfl : x = s.size := by omega
    have : c = j := by rw [hcj]; rfl
    exact Ev.step (fun k => bodkinlaw01_UnitSteps.l0.eq_2 ..) (ev_neg (by omega) (ev_pos rfl (Ev.bind (next_ev hs (nextS_end (by omega))) (ev_pos rfl (Ev.bind (prev_ev hs (by omega) (prevS_end (by omega))) (steps_end s hs i))))))
  | succ n ih =>
    intro x j hn hb hcj
    rw [count_eq] at hcj
    by_cases hx : x < s.size
    · rw [if_pos hx] at hcj
      have h1 := uN_pos s x
      have h4 := uN_le4 s x
      have hle := uN_le s x hx
      have hnb := bd_next s x hb hx
      refine Ev.step (fun k => bodkinlaw01_UnitSteps.l0.eq_2 ..) (ev_pos (by omega) (Ev.bind (next_ev hs (nextS_in hb hx (by omega) (by omega))) (ev_neg (by omega) (ev_neg ?_ (Ev.bind (prev_ev hs (by omega) (prevS_in hb (by omega) (by omega))) (ev_pos rfl
        (Ev.bind (boundary_yes hs (a := (x : Int) + uN s x) ((bdI_nat s (x + uN s x)).2 hnb)) ?_)))))))
      · rw [w64 (by omega) (by omega)]; omega
      · refine Ev.step (fun k => bodkinlaw01_UnitSteps.j1.eq_2 ..) (ev_neg (by simp) ?_)
        rw [w64 (x := (x : Int) + 1) (by omega) (by omega)]
        refine steps_inner s hs i x hb hx c j true ?_ (uN s x - 1) (x + 1) (by omega) (by omega)
        rw [w64 (by omega) (by omega)]
        exact ih (x + uN s x) (j + 1) (by omega) hnb (by omega)
    · rw [if_neg hx] at hcj
      have h1 := hb.1
      obtain rfl : x = s.size := by omega
      exact Ev.step (fun k => bodkinlaw01_UnitSteps.l0.eq_2 ..) (ev_neg (by omega) (ev_pos rfl (Ev.bind (next_ev hs (nextS_end (by omega))) (ev_pos rfl (Ev.bind (prev_ev hs (by omega) (prevS_end (by omega))) (steps_end s hs i))))))

theorem UnitSteps (a0 : ByteArray) (a1 : Int) (u0 : a0.size ≤ 1048576) (_w1 : (Lit.int .i64 a1).wf = true) : ∃ k, bodkinlaw01_UnitSteps.f k a0 a1 = some true := by
  apply Ev.rounds
  unfold bodkinlaw01_UnitSteps.f
  refine ev_some rfl (ev_pos rfl (ev_some (count_ans a0 (by omega)) ?_))
  exact steps_loop a0 (by omega) a1 _ (Lib.runeCount_le a0) a0.size 0 0 (by omega) (bd_zero a0) (by rw [Nat.zero_add]; rfl)
end Go.Proofs.YtfhnfhgpaoddbaaDoor.Pure
