/- UnitTiles, plainly. -/
import Derived.Test.YtfhnfhgpaoddbaaDoorU12
import Derived.Test.YtfhnfhgpaoddbaaDoorPt
namespace Go.Proofs.YtfhnfhgpaoddbaaDoor.Pure
open Go Go.RowKit Go.Proofs.YtfhnfhgpaoddbaaDoor.Mu Go.Proofs.YtfhnfhgpaoddbaaDoor.Pu Go.Proofs.YtfhnfhgpaoddbaaDoor.U Go.Proofs.YtfhnfhgpaoddbaaDoorW.PrintWords Go.Proofs.YtfhnfhgpaoddbaaDoorW.PrintLast Go.Proofs.YtfhnfhgpaoddbaaDoorW.PrintMore

theorem uAt_f0 (s : ByteArray) (x : Nat) : (uAt s x).f0 = uC s x := rfl
theorem uAt_f1 (s : ByteArray) (x : Nat) : (uAt s x).f1 = (uN s x : Int) := rfl
theorem rd_zero (u : S30) (r : List S30) : rd_T30 (u :: r) 0 = u := rfl
attribute [local irreducible] uC uN uAt

theorem tiles_bad (s : ByteArray) (hs : s.size ≤ 1048576) (x : Nat) (hx : x < s.size) (U : List S30) (c j : Int) (v : Bool) (h : Ev (fun k => bodkinlaw01_UnitTiles.l0 k s (wrap64 ((x : Int) + (uN s x : Int))) U c (wrap64 (j + 1))) v) :
    ∀ m n : Nat, n + m = 5 → 1 ≤ n → Ev (fun k => bodkinlaw01_UnitTiles.l1 k s x n U c j (uC s x) (uN s x : Int)) v := by
  intro m
  induction m with
  | zero =>
    intro n hn h1
    exact Ev.step (fun k => bodkinlaw01_UnitTiles.l1.eq_2 ..) (ev_neg (by omega) (Ev.step (fun k => bodkinlaw01_UnitTiles.j5.eq_2 ..) (ev_neg (by simp) h)))
  | succ m ih =>
    intro n hn h1
    have e : wrap64 ((x : Int) + (n : Int)) = ((x + n : Nat) : Int) := by rw [w64 (by omega) (by omega)]; omega
    refine Ev.step (fun k => bodkinlaw01_UnitTiles.l1.eq_2 ..) (ev_pos (by omega) ?_)
    rw [e]
    by_cases hle : x + n ≤ s.size
    · refine ev_pos (by omega) (Ev.step (fun k => bodkinlaw01_UnitTiles.j5.eq_2 ..) ?_)
      by_cases hc : uC s x < 0
      · rw [e]
        have hsz := size_extract s x (x + n) hle
        have hu : unit_Units.f (s.extract x (x + n)) = some (unitsL (s.extract x (x + n))) := by unfold unit_Units.f; rw [if_pos (by omega)]
        have hf : ∃ r, unitsL (s.extract x (x + n)) = uAt (s.extract x (x + n)) 0 :: r := by
          unfold unitsL walkU
          obtain ⟨q, hq⟩ : ∃ q, (s.extract x (x + n)).size = q + 1 := ⟨(s.extract x (x + n)).size - 1, by omega⟩
          rw [hq, walkL, if_pos (by omega)]
          exact ⟨_, rfl⟩
        obtain ⟨r, hr⟩ := hf
        refine ev_pos (by simpa using hc) (ev_pos (by omega) (ev_pos (by omega) (ev_pos (by omega) (ev_some (a := unitsL (s.extract x (x + n))) ?_ ?_))))
        · rw [Int.toNat_natCast, Int.toNat_natCast]; exact hu
        · rw [hr]
          refine ev_neg (by simp only [List.length_cons]; omega) (ev_pos (by simp only [List.length_cons]; omega) (ev_neg ?_ ?_))
          · rw [rd_zero, uAt_f0]
            have := bad_piece s x n hc h1 hle
            omega
          · rw [w64 (x := (n : Int) + 1) (by omega) (by omega)]
            exact ih (n + 1) (by omega) (by omega)
      · exact ev_neg (by simpa using hc) h
    · exact ev_neg (by omega) (Ev.step (fun k => bodkinlaw01_UnitTiles.j5.eq_2 ..) (ev_neg (by simp) h))

theorem tiles_loop (s : ByteArray) (hs : s.size ≤ 1048576) (U : List S30) (hU : U.length ≤ s.size) : ∀ (n x j : Nat), s.size - x ≤ n → x ≤ s.size → U.drop j = (walkL s n x).map (·.2) → Ev (fun k => bodkinlaw01_UnitTiles.l0 k s x U (U.length : Int) j) true := by
  have hend : ∀ x j : Nat, x = s.size → U.length ≤ j → Ev (fun k => bodkinlaw01_UnitTiles.l0 k s x U (U.length : Int) j) true := by
    intro x j hx hj
    exact Ev.step (fun k => bodkinlaw01_UnitTiles.l0.eq_2 ..) (ev_neg (by omega) (ev_now (by rw [hx]; simp)))
  intro n
  induction n with
  | zero =>
    intro x j hn hx hd
    have := drop_nil_le (hd.trans (by simp [walkL]))
    exact hend x j (by omega) this
  | succ n ih =>
    intro x j hn hx hd
    by_cases hlt : x < s.size
    · have h1 := uN_pos s x
      have h4 := uN_le4 s x
      have hle := uN_le s x hlt
      rw [walkL, if_pos hlt] at hd
      obtain ⟨hi, hg, hd'⟩ := drop_cons (d := z30) hd
      have e : rd_T30 U j = uAt s x := by unfold rd_T30; rw [Int.toNat_natCast]; exact hg
      have ew : wrap64 ((x : Int) + (uN s x : Int)) = ((x + uN s x : Nat) : Int) := by rw [w64 (by omega) (by omega)]; omega
      have hgo := ih (x + uN s x) (j + 1) (by omega) hle hd'
      refine Ev.step (fun k => bodkinlaw01_UnitTiles.l0.eq_2 ..) (ev_pos (by omega) (ev_pos (by omega) (ev_pos (by omega) ?_)))
      rw [e, uAt_f1, uAt_f0]
      refine ev_neg (by omega) (ev_neg (by omega) (Ev.step (fun k => bodkinlaw01_UnitTiles.j1.eq_2 ..) (ev_neg (by rw [ew, decide_eq_true_eq]; omega) ?_)))
      rw [ew]
      have hl1 : Ev (fun k => bodkinlaw01_UnitTiles.l1 k s x 1 U (U.length : Int) j (uC s x) (uN s x : Int)) true := by
        refine tiles_bad s hs x hlt U _ _ true ?_ 4 1 (by omega) (by omega)
        rw [ew, w64 (by omega) (by omega)]
        exact hgo
      refine ev_pos (by omega) (ev_pos (by omega) (ev_pos (by omega) ?_))
      by_cases hc : 0 ≤ uC s x
      · refine ev_pos hc (Ev.bind (encode_ans [uC s x] (by simp)) (Ev.step (fun k => bodkinlaw01_UnitTiles.j2.eq_2 ..) (ev_neg ?_ (ev_neg (by omega) (Ev.step (fun k => bodkinlaw01_UnitTiles.j3.eq_2 ..) (ev_neg (by simp) hl1))))))
        have ee : ([uC s x] : List Int).flatMap encO = encI (uC s x) := by
          rw [List.flatMap_cons, List.flatMap_nil, List.append_nil]; unfold encO; rw [if_pos (enc_unit s x hc).1]
        rw [ee, Int.toNat_natCast, Int.toNat_natCast, piece_enc s x hc hlt]
        simp
      · have hr : uC s x = -1 ∧ uN s x = 1 := by have := uC_range s x; omega
        refine ev_neg hc (Ev.step (fun k => bodkinlaw01_UnitTiles.j2.eq_2 ..) (ev_neg (by simp) (ev_pos (by omega) (ev_pos hr.1 (Ev.step (fun k => bodkinlaw01_UnitTiles.j3.eq_2 ..) (ev_neg ?_ hl1))))))
        rw [hr.2]; simp
    · rw [walkL, if_neg hlt] at hd
      exact hend x j (by omega) (drop_nil_le hd)

theorem UnitTiles (a0 : ByteArray) (u0 : a0.size ≤ 1048576) : ∃ k, bodkinlaw01_UnitTiles.f k a0 = some true := by
  apply Ev.rounds
  unfold bodkinlaw01_UnitTiles.f
  have hu : unit_Units.f a0 = some (unitsL a0) := by unfold unit_Units.f; rw [if_pos (by omega)]
  refine ev_some rfl (ev_pos rfl (ev_some hu ?_))
  exact tiles_loop a0 u0 (unitsL a0) (unitsL_length a0) a0.size 0 0 (by omega) (by omega) rfl
end Go.Proofs.YtfhnfhgpaoddbaaDoor.Pure
