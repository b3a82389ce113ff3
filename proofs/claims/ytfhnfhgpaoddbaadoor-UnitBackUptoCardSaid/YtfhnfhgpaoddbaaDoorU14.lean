-- Written by a program of this session's own (wip/tool/myprint.py). Lean checks it.
import Derived.Test.YtfhnfhgpaoddbaaDoorU0
import Derived.Test.YtfhnfhgpaoddbaaDoorU3
import Derived.Test.YtfhnfhgpaoddbaaDoorU6
import Derived.Test.YtfhnfhgpaoddbaaDoorHc
import Derived.Test.YtfhnfhgpaoddbaaDoorHu
namespace Go.Proofs.YtfhnfhgpaoddbaaDoor.U
open Go.RowKit Go.Proofs.YtfhnfhgpaoddbaaDoorW.PrintWords Go.Proofs.YtfhnfhgpaoddbaaDoorW.PrintLast Go.Proofs.YtfhnfhgpaoddbaaDoorW.PrintMore
attribute [local go_sem] max2_int min2_int max_two min_two max_three min_three max_four min_four   -- for this text's walks alone
set_option linter.unusedVariables false
set_option linter.unusedSimpArgs false

/-! ### bodkinlaw01_UnitBack: function 12 -/
mutual
def bodkinlaw01_UnitBack.l0 : Nat → List (S30) → Int → List Int → Int → Int → Option (Bool)
  | 0, _, _, _, _, _ => none
  | k + 1, x3, x4, x14, x15, x16 => if x16 < x15 then (if 0 ≤ x16 then (if x16 < (x14.length : Int) then ((unit_Encode.f k (([rd x14 x16] : List Int))).bind fun t391 => ((bodkinlaw01_scalar.f (rd x14 x16)).bind fun t392 => (if t392 = true then (if x4 ≥ (x3.length : Int) then (bodkinlaw01_UnitBack.j1 k x3 x4 t391 x14 x15 x16 true) else (if 0 ≤ x4 then (if x4 < (x3.length : Int) then (if ((rd_T30 x3 x4).f0) = (rd x14 x16) then (if ((rd_T30 x3 x4).f1) = (t391.size : Int) then ((unit_Begun.f t391).bind fun t395 => (bodkinlaw01_UnitBack.j1 k x3 x4 t391 x14 x15 x16 t395)) else (bodkinlaw01_UnitBack.j1 k x3 x4 t391 x14 x15 x16 true)) else (bodkinlaw01_UnitBack.j1 k x3 x4 t391 x14 x15 x16 true)) else (none)) else (none))) else (if t391.toList = ([] : List UInt8) then (bodkinlaw01_UnitBack.l0 k x3 x4 x14 x15 (wrap64 (x16 + 1))) else (some false))))) else (none)) else (none)) else (some (x4 == (x3.length : Int)))
def bodkinlaw01_UnitBack.j1 : Nat → List (S30) → Int → ByteArray → List Int → Int → Int → Bool → Option (Bool)
  | 0, _, _, _, _, _, _, _ => none
  | k + 1, x3, x4, x7, x14, x15, x16, x54 => if x54 = true then (some false) else (bodkinlaw01_UnitBack.l1 k x3 (wrap64 (x4 + 1)) x7 1 x14 x15 x16)
def bodkinlaw01_UnitBack.l1 : Nat → List (S30) → Int → ByteArray → Int → List Int → Int → Int → Option (Bool)
  | 0, _, _, _, _, _, _, _ => none
  | k + 1, x3, x4, x7, x8, x14, x15, x16 => if x8 < (x7.size : Int) then (if 0 ≤ x8 then (if x8 ≤ (x7.size : Int) then ((unit_Begun.f (x7.extract 0 (x8 : Int).toNat)).bind fun t396 => (if t396 = true then ((unit_Count.f (x7.extract 0 (x8 : Int).toNat)).bind fun t397 => (if t397 = x8 then (bodkinlaw01_UnitBack.l1 k x3 x4 x7 (wrap64 (x8 + 1)) x14 x15 x16) else (some false))) else (some false))) else (none)) else (none)) else (bodkinlaw01_UnitBack.l0 k x3 x4 x14 x15 (wrap64 (x16 + 1)))
end
def bodkinlaw01_UnitBack.f (k : Nat) (l0 : List Int) : Option (Bool) := (bodkinlaw01_cuts.f).bind fun t382 => (if t382 = true then ((unit_Encode.f k l0).bind fun t383 => ((unit_Units.f t383).bind fun t384 => (bodkinlaw01_UnitBack.l0 k t384 0 l0 (l0.length : Int) 0))) else (some false))
theorem bodkinlaw01_UnitBack.mono_l : ∀ k, (∀ y0 y1 y2 y3 y4, LeO (bodkinlaw01_UnitBack.l0 k y0 y1 y2 y3 y4) (bodkinlaw01_UnitBack.l0 (k + 1) y0 y1 y2 y3 y4)) ∧ (∀ y0 y1 y2 y3 y4 y5 y6, LeO (bodkinlaw01_UnitBack.j1 k y0 y1 y2 y3 y4 y5 y6) (bodkinlaw01_UnitBack.j1 (k + 1) y0 y1 y2 y3 y4 y5 y6)) ∧ (∀ y0 y1 y2 y3 y4 y5 y6, LeO (bodkinlaw01_UnitBack.l1 k y0 y1 y2 y3 y4 y5 y6) (bodkinlaw01_UnitBack.l1 (k + 1) y0 y1 y2 y3 y4 y5 y6))
  | 0 => ⟨fun _ _ _ _ _ r h => by simp [bodkinlaw01_UnitBack.l0] at h, fun _ _ _ _ _ _ _ r h => by simp [bodkinlaw01_UnitBack.j1] at h, fun _ _ _ _ _ _ _ r h => by simp [bodkinlaw01_UnitBack.l1] at h⟩
  | k + 1 => by
    obtain ⟨ih0, ih1, ih2⟩ := bodkinlaw01_UnitBack.mono_l k
    refine ⟨?_, ?_, ?_⟩
    · intro y0 y1 y2 y3 y4
      unfold bodkinlaw01_UnitBack.l0
      repeat' first
      | (with_reducible exact ih0 _ _ _ _ _)
      | (with_reducible exact ih1 _ _ _ _ _ _ _)
      | (with_reducible exact ih2 _ _ _ _ _ _ _)
      | (with_reducible exact unit_Encode.mono _ _)
      | (with_reducible exact LeO.refl _)
      | (with_reducible exact LeO.none _)
      | (with_reducible refine LeO.ite ?_ ?_)
      | (with_reducible refine LeO.bind ?_ (fun _ => ?_))
      | exact ih0 _ _ _ _ _
      | exact ih1 _ _ _ _ _ _ _
      | exact ih2 _ _ _ _ _ _ _
      | exact unit_Encode.mono _ _
      | exact LeO.none _
      | refine LeO.ite ?_ ?_
      | refine LeO.bind ?_ (fun _ => ?_)
    · intro y0 y1 y2 y3 y4 y5 y6
      unfold bodkinlaw01_UnitBack.j1
      repeat' first
      | (with_reducible exact ih0 _ _ _ _ _)
      | (with_reducible exact ih1 _ _ _ _ _ _ _)
      | (with_reducible exact ih2 _ _ _ _ _ _ _)
      | (with_reducible exact unit_Encode.mono _ _)
      | (with_reducible exact LeO.refl _)
      | (with_reducible exact LeO.none _)
      | (with_reducible refine LeO.ite ?_ ?_)
      | (with_reducible refine LeO.bind ?_ (fun _ => ?_))
      | exact ih0 _ _ _ _ _
      | exact ih1 _ _ _ _ _ _ _
      | exact ih2 _ _ _ _ _ _ _
      | exact unit_Encode.mono _ _
      | exact LeO.none _
      | refine LeO.ite ?_ ?_
      | refine LeO.bind ?_ (fun _ => ?_)
    · intro y0 y1 y2 y3 y4 y5 y6
      unfold bodkinlaw01_UnitBack.l1
      repeat' first
      | (with_reducible exact ih0 _ _ _ _ _)
      | (with_reducible exact ih1 _ _ _ _ _ _ _)
      | (with_reducible exact ih2 _ _ _ _ _ _ _)
      | (with_reducible exact unit_Encode.mono _ _)
      | (with_reducible exact LeO.refl _)
      | (with_reducible exact LeO.none _)
      | (with_reducible refine LeO.ite ?_ ?_)
      | (with_reducible refine LeO.bind ?_ (fun _ => ?_))
      | exact ih0 _ _ _ _ _
      | exact ih1 _ _ _ _ _ _ _
      | exact ih2 _ _ _ _ _ _ _
      | exact unit_Encode.mono _ _
      | exact LeO.none _
      | refine LeO.ite ?_ ?_
      | refine LeO.bind ?_ (fun _ => ?_)
theorem bodkinlaw01_UnitBack.mono : ∀ a0 k, LeO (bodkinlaw01_UnitBack.f k a0) (bodkinlaw01_UnitBack.f (k + 1) a0) := by
  intro a0 k
  obtain ⟨ih0, ih1, ih2⟩ := bodkinlaw01_UnitBack.mono_l k
  unfold bodkinlaw01_UnitBack.f
  repeat' first
      | (with_reducible exact ih0 _ _ _ _ _)
      | (with_reducible exact ih1 _ _ _ _ _ _ _)
      | (with_reducible exact ih2 _ _ _ _ _ _ _)
      | (with_reducible exact unit_Encode.mono _ _)
      | (with_reducible exact LeO.refl _)
      | (with_reducible exact LeO.none _)
      | (with_reducible refine LeO.ite ?_ ?_)
      | (with_reducible refine LeO.bind ?_ (fun _ => ?_))
      | exact ih0 _ _ _ _ _
      | exact ih1 _ _ _ _ _ _ _
      | exact ih2 _ _ _ _ _ _ _
      | exact unit_Encode.mono _ _
      | exact LeO.none _
      | refine LeO.ite ?_ ?_
      | refine LeO.bind ?_ (fun _ => ?_)
set_option maxHeartbeats 8000000 in
set_option maxRecDepth 100000 in
theorem bodkinlaw01_UnitBack.calls (k : Nat) (A0 : Option Addr) (c0 : Nat) (l0 : List Int) (r : Bool) (w : World) (hr0 : Kd.C (Kd.int .i32) w A0 l0.length l0) (hc0 : l0.length ≤ c0) (hT : Lib.Utf8Tabs 0 1 w) (h : bodkinlaw01_UnitBack.f k l0 = some r) :
    Calls Tryd.prog 12 #[.slice A0 l0.length c0] w fun e w' => e = .returned (.bool r) ∧ Below w.heap.size w w' := by
  have HT := Aside0.mk hT
  clear hT
  have HR0 := Aside0.mk hr0
  have HC0 := Aside0.mk hc0
  clear hr0 hc0
  have HB := Aside0.mk (Below.refl w.heap.size w)
  have H : ((bodkinlaw01_cuts.f).bind fun t382 => (if t382 = true then ((unit_Encode.f k l0).bind fun t383 => ((unit_Units.f t383).bind fun t384 => (bodkinlaw01_UnitBack.l0 k t384 0 l0 (l0.length : Int) 0))) else (some false))) = some r := h
  clear h
  replace H := Option.bind_eq_some_iff.mp H
  obtain ⟨t382, A20, H⟩ := H
  replace H : (if t382 = true then ((unit_Encode.f k l0).bind fun t383 => ((unit_Units.f t383).bind fun t384 => (bodkinlaw01_UnitBack.l0 k t384 0 l0 (l0.length : Int) 0))) else (some false)) = some r := H
  have A2 := Aside0.mk A20
  clear A20
  by_cases c3 : t382 = true
  · subst c3
    have H1 : ((unit_Encode.f k l0).bind fun t383 => ((unit_Units.f t383).bind fun t384 => (bodkinlaw01_UnitBack.l0 k t384 0 l0 (l0.length : Int) 0))) = some r := by rw [if_pos rfl] at H; exact H
    clear H
    have H := H1
    clear H1
    replace H := Option.bind_eq_some_iff.mp H
    obtain ⟨t383, A40, H⟩ := H
    replace H : ((unit_Units.f t383).bind fun t384 => (bodkinlaw01_UnitBack.l0 k t384 0 l0 (l0.length : Int) 0)) = some r := H
    have A4 := Aside0.mk A40
    clear A40
    replace H := Option.bind_eq_some_iff.mp H
    obtain ⟨t384, A50, H⟩ := H
    replace H : (bodkinlaw01_UnitBack.l0 k t384 0 l0 (l0.length : Int) 0) = some r := H
    have A5 := Aside0.mk A50
    clear A50
    have H' := Aside0.mk H
    clear H
    go_enter Tryd.func12, Tryd.ntmps12
    go_wp2_with (first | ((with_reducible refine gate_callee (f := 21) rfl ?_); refine goesL_ (some 9) rfl rfl Tryd.func21 (by kernel_rfl) rfl #[] rfl (by (try simp only [List.map_toArray, List.map_cons, List.map_nil]); first | done | rfl | (simp only [List.length_drop, List.length_take]; rfl)) ?_; (with_reducible refine (bodkinlaw01_cuts.calls  true _ ?side1 A2.out).mono ?_); (case side1 => exact tabs_below HT.out (by repeat (first | (with_reducible first | exact HB.out | apply below_alloc | apply pw_below_drewN | apply below_drew1) | exact HB.out))); rintro e w6 ⟨rfl, hb⟩; refine ⟨_, rfl, ?_⟩; have n0_ := Aside0.mk (below_step (by repeat (first | (with_reducible first | exact HB.out | apply below_alloc | apply pw_below_drewN | apply below_drew1) | exact HB.out)) hb); clear HB; have HB := n0_; clear n0_; (try clear hb); (try clear hb2); (try clear hk); (try clear hi)) | ((with_reducible refine gate_callee (f := 36) rfl ?_); refine goesL_ (some 12) rfl rfl Tryd.func36 (by kernel_rfl) rfl #[.slice A0 l0.length c0] rfl (by (try simp only [List.map_toArray, List.map_cons, List.map_nil]); first | done | rfl | (simp only [List.length_drop, List.length_take]; rfl)) ?_; (with_reducible refine (unit_Encode.calls k _ _ l0 t383 _ ?side1 ?side2 A4.out).mono ?_); (case side1 => repeat (first | exact (Kd.C_below HR0.out HB.out) | (with_reducible refine Kd.C_alloc ?_ _) | (with_reducible refine Kd.C_drewN ?_ _) | (with_reducible refine Kd.C_drew ?_))); (case side2 => exact HC0.out); rintro e w7 ⟨rfl, hb⟩; refine ⟨_, rfl, ?_⟩; have n0_ := Aside0.mk (below_step (by repeat (first | (with_reducible first | exact HB.out | apply below_alloc | apply pw_below_drewN | apply below_drew1) | exact HB.out)) hb); clear HB; have HB := n0_; clear n0_; (try clear hb); (try clear hb2); (try clear hk); (try clear hi)) | ((with_reducible refine gate_callee (f := 23) rfl ?_); refine goesL_ (some 13) rfl rfl Tryd.func23 (by kernel_rfl) rfl #[.string t383] rfl (by (try simp only [List.map_toArray, List.map_cons, List.map_nil]); first | done | rfl | (simp only [List.length_drop, List.length_take]; rfl)) ?_; (with_reducible refine (unit_Units.calls t383 t384 _ ?side1 A5.out).mono ?_); (case side1 => exact tabs_below HT.out (by repeat (first | (with_reducible first | exact HB.out | apply below_alloc | apply pw_below_drewN | apply below_drew1) | exact HB.out))); rintro e w8 ⟨v385, rfl, ho0, hb⟩; refine ⟨_, rfl, ?_⟩; have n0_ := Aside0.mk (Kd.R_lower ho0 (below_size (by repeat (first | (with_reducible first | exact HB.out | apply below_alloc | apply pw_below_drewN | apply below_drew1) | exact HB.out)))); have n1_ := Aside0.mk (below_step (by repeat (first | (with_reducible first | exact HB.out | apply below_alloc | apply pw_below_drewN | apply below_drew1) | exact HB.out)) hb); clear HB; have HO386 := n0_; have HB := n1_; clear n0_ n1_; (try clear hb); (try clear hb2); (try clear hk); (try clear hi); (try clear ho0)))
    go_loopg [4, 16] k (fun kq v4 v16 w' => ∃ (x4_1 : Int) (x16_1 : Int), v4 = .int .i64 x4_1 ∧ v16 = .int .i64 x16_1 ∧ Aside0 (bodkinlaw01_UnitBack.l0 kq t384 x4_1 l0 (l0.length : Int) x16_1 = some r) ∧ Aside0 (kq ≤ k) ∧ Aside0 (Kd.R k30 30 w' w.heap.size (fun _ => True) v385 t384) ∧ Aside0 (Below w.heap.size w w'))
    case atStart => exact ⟨(0), (0), (by first | rfl | (simp; done) | (simp [*]; done)), (by first | rfl | (simp; done) | (simp [*]; done)), H', ⟨Nat.le_refl _⟩, ⟨by (with_reducible repeat (first | apply Kd.R_alloc | apply Kd.R_drewN | apply Kd.R_drew)); exact HO386.out⟩, ⟨by repeat (first | (with_reducible first | exact HB.out | apply below_alloc | apply pw_below_drewN | apply below_drew1) | exact HB.out)⟩⟩
    case round =>
      clear H'
      try clear c1
      try clear c2
      try clear p2
      try clear c3
      obtain ⟨x4_1, x16_1, rfl, rfl, HA, HK1, HO_3, HB⟩ := hrel
      cases gk with
      | zero => exact absurd HA.out (by simp [bodkinlaw01_UnitBack.l0])
      | succ k1 =>
        have H := HA.out
        clear HA
        simp only [bodkinlaw01_UnitBack.l0] at H
        by_cases c9 : x16_1 < (l0.length : Int)
        · rw [if_pos c9] at H
          have c9b0 : decide (x16_1 < (l0.length : Int)) = true := decide_eq_true c9
          clear c9
          by_cases c10 : 0 ≤ x16_1
          · rw [if_pos c10] at H
            have c10b0 : decide (0 ≤ x16_1) = true := decide_eq_true c10
            clear c10
            by_cases c11 : x16_1 < (l0.length : Int)
            · rw [if_pos c11] at H
              have c11b0 : decide (x16_1 < (l0.length : Int)) = true := decide_eq_true c11
              clear c11
              obtain ⟨y388, hy388⟩ : ∃ y_ : List Int, y_ = (([rd l0 x16_1] : List Int)) := ⟨_, rfl⟩
              replace H : ((unit_Encode.f k1 y388).bind fun t391 => ((bodkinlaw01_scalar.f (rd l0 x16_1)).bind fun t392 => (if t392 = true then (if x4_1 ≥ (t384.length : Int) then (bodkinlaw01_UnitBack.j1 k1 t384 x4_1 t391 l0 (l0.length : Int) x16_1 true) else (if 0 ≤ x4_1 then (if x4_1 < (t384.length : Int) then (if ((rd_T30 t384 x4_1).f0) = (rd l0 x16_1) then (if ((rd_T30 t384 x4_1).f1) = (t391.size : Int) then ((unit_Begun.f t391).bind fun t395 => (bodkinlaw01_UnitBack.j1 k1 t384 x4_1 t391 l0 (l0.length : Int) x16_1 t395)) else (bodkinlaw01_UnitBack.j1 k1 t384 x4_1 t391 l0 (l0.length : Int) x16_1 true)) else (bodkinlaw01_UnitBack.j1 k1 t384 x4_1 t391 l0 (l0.length : Int) x16_1 true)) else (none)) else (none))) else (if t391.toList = ([] : List UInt8) then (bodkinlaw01_UnitBack.l0 k1 t384 x4_1 l0 (l0.length : Int) (wrap64 (x16_1 + 1))) else (some false))))) = some r := by first | (rw [hy388]; with_reducible exact H) | (have H2_ := (Option.bind_some _ _).symm.trans H; rw [hy388]; with_reducible exact H2_) | (have H2_ := (Option.bind_some _ _).symm.trans H; with_reducible exact H2_) | with_reducible exact H | (rw [hy388]; exact H) | exact H
              have Ny388 := Aside0.mk hy388
              clear hy388
              replace H := Option.bind_eq_some_iff.mp H
              obtain ⟨t391, A120, H⟩ := H
              replace H : ((bodkinlaw01_scalar.f (rd l0 x16_1)).bind fun t392 => (if t392 = true then (if x4_1 ≥ (t384.length : Int) then (bodkinlaw01_UnitBack.j1 k1 t384 x4_1 t391 l0 (l0.length : Int) x16_1 true) else (if 0 ≤ x4_1 then (if x4_1 < (t384.length : Int) then (if ((rd_T30 t384 x4_1).f0) = (rd l0 x16_1) then (if ((rd_T30 t384 x4_1).f1) = (t391.size : Int) then ((unit_Begun.f t391).bind fun t395 => (bodkinlaw01_UnitBack.j1 k1 t384 x4_1 t391 l0 (l0.length : Int) x16_1 t395)) else (bodkinlaw01_UnitBack.j1 k1 t384 x4_1 t391 l0 (l0.length : Int) x16_1 true)) else (bodkinlaw01_UnitBack.j1 k1 t384 x4_1 t391 l0 (l0.length : Int) x16_1 true)) else (none)) else (none))) else (if t391.toList = ([] : List UInt8) then (bodkinlaw01_UnitBack.l0 k1 t384 x4_1 l0 (l0.length : Int) (wrap64 (x16_1 + 1))) else (some false)))) = some r := H
              have A12 := Aside0.mk A120
              clear A120
              replace H := Option.bind_eq_some_iff.mp H
              obtain ⟨t392, A130, H⟩ := H
              replace H : (if t392 = true then (if x4_1 ≥ (t384.length : Int) then (bodkinlaw01_UnitBack.j1 k1 t384 x4_1 t391 l0 (l0.length : Int) x16_1 true) else (if 0 ≤ x4_1 then (if x4_1 < (t384.length : Int) then (if ((rd_T30 t384 x4_1).f0) = (rd l0 x16_1) then (if ((rd_T30 t384 x4_1).f1) = (t391.size : Int) then ((unit_Begun.f t391).bind fun t395 => (bodkinlaw01_UnitBack.j1 k1 t384 x4_1 t391 l0 (l0.length : Int) x16_1 t395)) else (bodkinlaw01_UnitBack.j1 k1 t384 x4_1 t391 l0 (l0.length : Int) x16_1 true)) else (bodkinlaw01_UnitBack.j1 k1 t384 x4_1 t391 l0 (l0.length : Int) x16_1 true)) else (none)) else (none))) else (if t391.toList = ([] : List UInt8) then (bodkinlaw01_UnitBack.l0 k1 t384 x4_1 l0 (l0.length : Int) (wrap64 (x16_1 + 1))) else (some false))) = some r := H
              have A13 := Aside0.mk A130
              clear A130
              by_cases c14 : t392 = true
              · subst c14
                have H1 : (if x4_1 ≥ (t384.length : Int) then (bodkinlaw01_UnitBack.j1 k1 t384 x4_1 t391 l0 (l0.length : Int) x16_1 true) else (if 0 ≤ x4_1 then (if x4_1 < (t384.length : Int) then (if ((rd_T30 t384 x4_1).f0) = (rd l0 x16_1) then (if ((rd_T30 t384 x4_1).f1) = (t391.size : Int) then ((unit_Begun.f t391).bind fun t395 => (bodkinlaw01_UnitBack.j1 k1 t384 x4_1 t391 l0 (l0.length : Int) x16_1 t395)) else (bodkinlaw01_UnitBack.j1 k1 t384 x4_1 t391 l0 (l0.length : Int) x16_1 true)) else (bodkinlaw01_UnitBack.j1 k1 t384 x4_1 t391 l0 (l0.length : Int) x16_1 true)) else (none)) else (none))) = some r := by rw [if_pos rfl] at H; exact H
                clear H
                have H := H1
                clear H1
                have HC15 := Aside0.mk H
                clear H
                have p387 : 0 ≤ (x16_1 : Int) := of_decide_eq_true (by first | (with_reducible assumption) | assumption)
                have q387 : x16_1 < (l0.length : Int) := of_decide_eq_true (by first | (with_reducible assumption) | assumption)
                obtain ⟨ad387, e387, hx387_0⟩ := Kd.at_int HR0.out x16_1 p387 q387
                cases e387
                replace hx387_0 := (HB.out.cell (World.block_lt_of_cell? w _ hx387_0)).trans hx387_0
                replace p387 := eq_true p387
                replace q387 := eq_true q387
                go_upto_region 12 with (first | ((with_reducible refine gate_dst (N := 21) rfl ?_); (try (refine gate_guard (by rfl) ?_; dsimp only)); refine Kd.R_lit (Kd.int .i32) _ 21 ?hg (N := 21) ?hd (xs := ([rd l0 x16_1] : List Int)) (inner := [.int .i32 (rd l0 x16_1)]) (ok := fun _ => True) (okp := fun _ => True) ?hr ?hp (fun _ hk => hk) trivial (Below.refl _ _) (Nat.le_refl _) (by simp) ?_; (case hd => rfl); (case hg => rfl); (case hr => first | (go_simp; done) | (go_simp; rfl)); (case hp => exact (Reps.one (show Kd.M (Kd.int .i32) _ _ _ (rd l0 x16_1) [.int .i32 (rd l0 x16_1)] from rfl) (Reps.none _ _))); intro v389 w16 ho17 hb hg_ hnew_; clear hg_ hnew_; (first | rw [← Ny388.out] at ho17 | (simp only [Int.reduceToNat] at ho17; rw [← Ny388.out] at ho17)); have n0_ := Aside0.mk (Kd.R_below (by (with_reducible repeat (first | apply Kd.R_alloc | apply Kd.R_drewN | apply Kd.R_drew)); exact HO_3.out) hb); have n1_ := Aside0.mk (Kd.R_lower ho17 (below_size (by repeat (first | (with_reducible first | exact HB.out | apply below_alloc | apply pw_below_drewN | apply below_drew1) | exact HB.out)))); have n2_ := Aside0.mk (below_step (by repeat (first | (with_reducible first | exact HB.out | apply below_alloc | apply pw_below_drewN | apply below_drew1) | exact HB.out)) hb); clear HO_3; clear HB; have HO_3 := n0_; have HO390 := n1_; have HB := n2_; clear n0_ n1_ n2_; clear hb ho17; obtain ⟨Ao18, co18, eo18⟩ := Kd.R_slice HO390.out; subst eo18) | ((with_reducible refine gate_callee (f := 36) rfl ?_); refine goesL_ (some 22) rfl rfl Tryd.func36 (by kernel_rfl) rfl #[.slice Ao18 y388.length co18] rfl (by (try simp only [List.map_toArray, List.map_cons, List.map_nil]); first | done | rfl | (simp only [List.length_drop, List.length_take]; rfl)) ?_; (with_reducible refine (unit_Encode.calls k1 _ _ y388 t391 _ ?side1 ?side2 A12.out).mono ?_); (case side1 => repeat (first | exact (Kd.R_reads' HO390.out).2.2 | (with_reducible refine Kd.C_alloc ?_ _) | (with_reducible refine Kd.C_drewN ?_ _) | (with_reducible refine Kd.C_drew ?_))); (case side2 => exact (Kd.R_reads' HO390.out).2.1); rintro e w19 ⟨rfl, hb⟩; refine ⟨_, rfl, ?_⟩; have n0_ := Aside0.mk (Kd.R_below (by (with_reducible repeat (first | apply Kd.R_alloc | apply Kd.R_drewN | apply Kd.R_drew)); exact HO_3.out) hb); have n1_ := Aside0.mk (Kd.R_below (by (with_reducible repeat (first | apply Kd.R_alloc | apply Kd.R_drewN | apply Kd.R_drew)); exact HO390.out) hb); have n2_ := Aside0.mk (below_step (by repeat (first | (with_reducible first | exact HB.out | apply below_alloc | apply pw_below_drewN | apply below_drew1) | exact HB.out)) hb); clear HO_3; clear HO390; clear HB; have HO_3 := n0_; have HO390 := n1_; have HB := n2_; clear n0_ n1_ n2_; (try clear hb); (try clear hb2); (try clear hk); (try clear hi)) | ((with_reducible refine gate_callee (f := 38) rfl ?_); refine goesL_ (some 24) rfl rfl Tryd.func38 (by kernel_rfl) rfl #[.int .i32 (rd l0 x16_1)] rfl (by (try simp only [List.map_toArray, List.map_cons, List.map_nil]); first | done | rfl | (simp only [List.length_drop, List.length_take]; rfl)) ?_; (with_reducible refine (bodkinlaw01_scalar.calls (rd l0 x16_1) true _ A13.out).mono ?_); rintro e w' ⟨rfl, ⟨nd, rfl⟩⟩; refine ⟨_, rfl, ?_⟩))
                (try simp only [Act.put, List.setIfInBounds_toArray, List.set_cons_zero, List.set_cons_succ])
                go_cut [54] (fun v54 wc => ∃ (kq : Nat) (x54_14 : Bool), v54 = .bool x54_14 ∧ Aside0 (bodkinlaw01_UnitBack.j1 kq t384 x4_1 t391 l0 (l0.length : Int) x16_1 x54_14 = some r) ∧ Aside0 (kq ≤ k1) ∧ Aside0 (Kd.R k30 30 wc w.heap.size (fun _ => True) v385 t384) ∧ Aside0 (Below w.heap.size w wc))
                case first =>
                  have H := HC15.out
                  clear HC15
                  by_cases c20 : x4_1 ≥ (t384.length : Int)
                  · rw [if_pos c20] at H
                    have c20b0 : decide ((t384.length : Int) ≤ x4_1) = true := decide_eq_true c20
                    clear c20
                    (first | rw [c20b0] | (simp only [i64_w, i32_w]; rw [c20b0]) | skip)
                    have H' := Aside0.mk H
                    clear H
                    obtain ⟨Ao21, co21, eo21⟩ := Kd.R_slice HO_3.out
                    subst eo21
                    go_wp2
                    go_meet
                    case rel => exact ⟨_, (true), (by first | rfl | (simp; done) | (simp [*]; done)), H', ⟨by have := HK1.out; first | omega | exact Nat.le_refl _⟩, ⟨by (with_reducible repeat (first | apply Kd.R_alloc | apply Kd.R_drewN | apply Kd.R_drew)); exact HO_3.out⟩, ⟨by repeat (first | (with_reducible first | exact HB.out | apply below_alloc | apply pw_below_drewN | apply below_drew1) | exact HB.out)⟩⟩
                  · rw [if_neg c20] at H
                    have c20b0 : decide ((t384.length : Int) ≤ x4_1) = false := decide_eq_false c20
                    clear c20
                    (first | rw [c20b0] | (simp only [i64_w, i32_w]; rw [c20b0]) | skip)
                    by_cases c22 : 0 ≤ x4_1
                    · rw [if_pos c22] at H
                      have c22b0 : decide (0 ≤ x4_1) = true := decide_eq_true c22
                      clear c22
                      by_cases c23 : x4_1 < (t384.length : Int)
                      · rw [if_pos c23] at H
                        have c23b0 : decide (x4_1 < (t384.length : Int)) = true := decide_eq_true c23
                        clear c23
                        by_cases c24 : ((rd_T30 t384 x4_1).f0) = (rd l0 x16_1)
                        · rw [if_pos c24] at H
                          have c24b0 : (((rd_T30 t384 x4_1).f0) == (rd l0 x16_1)) = true := beq_iff_eq.mpr c24
                          have c24b1 : (((rd_T30 t384 x4_1).f0) != (rd l0 x16_1)) = false := bne_eq_false_iff_eq.mpr c24
                          clear c24
                          by_cases c25 : ((rd_T30 t384 x4_1).f1) = (t391.size : Int)
                          · rw [if_pos c25] at H
                            have c25b0 : (((rd_T30 t384 x4_1).f1) == (t391.size : Int)) = true := beq_iff_eq.mpr c25
                            have c25b1 : (((rd_T30 t384 x4_1).f1) != (t391.size : Int)) = false := bne_eq_false_iff_eq.mpr c25
                            clear c25
                            replace H := Option.bind_eq_some_iff.mp H
                            obtain ⟨t395, A260, H⟩ := H
                            replace H : (bodkinlaw01_UnitBack.j1 k1 t384 x4_1 t391 l0 (l0.length : Int) x16_1 t395) = some r := H
                            have A26 := Aside0.mk A260
                            clear A260
                            have H' := Aside0.mk H
                            clear H
                            obtain ⟨Ao27, co27, eo27⟩ := Kd.R_slice HO_3.out
                            subst eo27
                            have p393 : 0 ≤ (x4_1 : Int) := of_decide_eq_true (by first | (with_reducible assumption) | assumption)
                            have q393 : x4_1 < (t384.length : Int) := of_decide_eq_true (by first | (with_reducible assumption) | assumption)
                            obtain ⟨ad393, e393, hx393_0, hx393_1⟩ := at_T30 (Kd.R_reads' HO_3.out).2.2 x4_1 p393 q393
                            cases e393
                            replace p393 := eq_true p393
                            replace q393 := eq_true q393
                            have p394 : 0 ≤ (x4_1 : Int) := of_decide_eq_true (by first | (with_reducible assumption) | assumption)
                            have q394 : x4_1 < (t384.length : Int) := of_decide_eq_true (by first | (with_reducible assumption) | assumption)
                            obtain ⟨ad394, e394, hx394_0, hx394_1⟩ := at_T30 (Kd.R_reads' HO_3.out).2.2 x4_1 p394 q394
                            obtain rfl : ad393 = ad394 := (by injection e394)
                            replace p394 := eq_true p394
                            replace q394 := eq_true q394
                            go_wp2_with (first | (go_at_call 34; (with_reducible refine (unit_Begun.calls t391 t395 _ ?side1 A26.out).mono ?_); (case side1 => exact tabs_below HT.out (by repeat (first | (with_reducible first | exact HB.out | apply below_alloc | apply pw_below_drewN | apply below_drew1) | exact HB.out))); rintro e w28 ⟨rfl, hb⟩; have n0_ := Aside0.mk (Kd.R_below (by (with_reducible repeat (first | apply Kd.R_alloc | apply Kd.R_drewN | apply Kd.R_drew)); exact HO_3.out) hb); have n1_ := Aside0.mk (Kd.R_below (by (with_reducible repeat (first | apply Kd.R_alloc | apply Kd.R_drewN | apply Kd.R_drew)); exact HO390.out) hb); have n2_ := Aside0.mk (below_step (by repeat (first | (with_reducible first | exact HB.out | apply below_alloc | apply pw_below_drewN | apply below_drew1) | exact HB.out)) hb); clear HO_3; clear HO390; clear HB; have HO_3 := n0_; have HO390 := n1_; have HB := n2_; clear n0_ n1_ n2_; (try clear hb); (try clear hb2); (try clear hk); (try clear hi)))
                            go_meet
                            case rel => exact ⟨_, (t395), (by first | rfl | (simp; done) | (simp [*]; done)), H', ⟨by have := HK1.out; first | omega | exact Nat.le_refl _⟩, ⟨by (with_reducible repeat (first | apply Kd.R_alloc | apply Kd.R_drewN | apply Kd.R_drew)); exact HO_3.out⟩, ⟨by repeat (first | (with_reducible first | exact HB.out | apply below_alloc | apply pw_below_drewN | apply below_drew1) | exact HB.out)⟩⟩
                          · rw [if_neg c25] at H
                            have c25b0 : (((rd_T30 t384 x4_1).f1) == (t391.size : Int)) = false := beq_eq_false_iff_ne.mpr c25
                            have c25b1 : (((rd_T30 t384 x4_1).f1) != (t391.size : Int)) = true := bne_iff_ne.mpr c25
                            have H' := Aside0.mk H
                            clear H
                            obtain ⟨Ao29, co29, eo29⟩ := Kd.R_slice HO_3.out
                            subst eo29
                            have p393 : 0 ≤ (x4_1 : Int) := of_decide_eq_true (by first | (with_reducible assumption) | assumption)
                            have q393 : x4_1 < (t384.length : Int) := of_decide_eq_true (by first | (with_reducible assumption) | assumption)
                            obtain ⟨ad393, e393, hx393_0, hx393_1⟩ := at_T30 (Kd.R_reads' HO_3.out).2.2 x4_1 p393 q393
                            cases e393
                            replace p393 := eq_true p393
                            replace q393 := eq_true q393
                            have p394 : 0 ≤ (x4_1 : Int) := of_decide_eq_true (by first | (with_reducible assumption) | assumption)
                            have q394 : x4_1 < (t384.length : Int) := of_decide_eq_true (by first | (with_reducible assumption) | assumption)
                            obtain ⟨ad394, e394, hx394_0, hx394_1⟩ := at_T30 (Kd.R_reads' HO_3.out).2.2 x4_1 p394 q394
                            obtain rfl : ad393 = ad394 := (by injection e394)
                            replace p394 := eq_true p394
                            replace q394 := eq_true q394
                            go_wp2
                            go_meet
                            case rel => exact ⟨_, (true), (by first | rfl | (simp; done) | (simp [*]; done)), H', ⟨by have := HK1.out; first | omega | exact Nat.le_refl _⟩, ⟨by (with_reducible repeat (first | apply Kd.R_alloc | apply Kd.R_drewN | apply Kd.R_drew)); exact HO_3.out⟩, ⟨by repeat (first | (with_reducible first | exact HB.out | apply below_alloc | apply pw_below_drewN | apply below_drew1) | exact HB.out)⟩⟩
                        · rw [if_neg c24] at H
                          have c24b0 : (((rd_T30 t384 x4_1).f0) == (rd l0 x16_1)) = false := beq_eq_false_iff_ne.mpr c24
                          have c24b1 : (((rd_T30 t384 x4_1).f0) != (rd l0 x16_1)) = true := bne_iff_ne.mpr c24
                          have H' := Aside0.mk H
                          clear H
                          obtain ⟨Ao30, co30, eo30⟩ := Kd.R_slice HO_3.out
                          subst eo30
                          have p393 : 0 ≤ (x4_1 : Int) := of_decide_eq_true (by first | (with_reducible assumption) | assumption)
                          have q393 : x4_1 < (t384.length : Int) := of_decide_eq_true (by first | (with_reducible assumption) | assumption)
                          obtain ⟨ad393, e393, hx393_0, hx393_1⟩ := at_T30 (Kd.R_reads' HO_3.out).2.2 x4_1 p393 q393
                          cases e393
                          replace p393 := eq_true p393
                          replace q393 := eq_true q393
                          go_wp2
                          go_meet
                          case rel => exact ⟨_, (true), (by first | rfl | (simp; done) | (simp [*]; done)), H', ⟨by have := HK1.out; first | omega | exact Nat.le_refl _⟩, ⟨by (with_reducible repeat (first | apply Kd.R_alloc | apply Kd.R_drewN | apply Kd.R_drew)); exact HO_3.out⟩, ⟨by repeat (first | (with_reducible first | exact HB.out | apply below_alloc | apply pw_below_drewN | apply below_drew1) | exact HB.out)⟩⟩
                      · rw [if_neg c23] at H
                        exact absurd H (by simp)
                    · rw [if_neg c22] at H
                      exact absurd H (by simp)
                case rest =>
                  clear HC15
                  try clear c1
                  try clear c2
                  try clear p2
                  try clear c3
                  try clear p3
                  try clear q3
                  try clear hx3
                  try clear p6
                  try clear c9
                  try clear c9b0
                  try clear c10
                  try clear c10b0
                  try clear c11
                  try clear c11b0
                  try clear c12
                  try clear c14
                  try clear c20
                  try clear c20b0
                  try clear c21
                  try clear c22
                  try clear c22b0
                  try clear c23
                  try clear c23b0
                  try clear c24
                  try clear c24b0
                  try clear c24b1
                  try clear c25
                  try clear c25b0
                  try clear c25b1
                  try clear hx387_0
                  try clear hx393_0
                  try clear hx393_1
                  try clear hx394_0
                  try clear hx394_1
                  try clear p2
                  try clear p387
                  try clear p393
                  try clear p394
                  try clear q387
                  try clear q393
                  try clear q394
                  obtain ⟨kq, x54_14, rfl, HA, HJ14, HO_3, HB⟩ := hcut
                  cases kq with
                  | zero => exact absurd HA.out (by simp [bodkinlaw01_UnitBack.j1])
                  | succ kj14 =>
                    have H := HA.out
                    clear HA
                    simp only [bodkinlaw01_UnitBack.j1] at H
                    by_cases c31 : x54_14 = true
                    · subst c31
                      have H1 : (some false) = some r := by rw [if_pos rfl] at H; exact H
                      clear H
                      have H := H1
                      clear H1
                      obtain rfl := Option.some.inj H
                      go_wp2
                      go_ret
                      exact ⟨by first | rfl | (simp [errW_none, errW_some] <;> rfl) | (simp [*, errW_none, errW_some] <;> rfl), by repeat (first | (with_reducible first | exact HB.out | apply below_alloc | apply pw_below_drewN | apply below_drew1) | exact HB.out)⟩
                    · replace c31 := Bool.eq_false_iff.mpr c31
                      subst c31
                      have H1 : (bodkinlaw01_UnitBack.l1 kj14 t384 (wrap64 (x4_1 + 1)) t391 1 l0 (l0.length : Int) x16_1) = some r := by rw [if_neg (show ¬ (false = true) by decide)] at H; exact H
                      clear H
                      have H := H1
                      clear H1
                      have H' := Aside0.mk H
                      clear H
                      go_wp2
                      go_loopg [8] kj14 (fun kq v8 w' => ∃ (x8_3 : Int), v8 = .int .i64 x8_3 ∧ Aside0 (bodkinlaw01_UnitBack.l1 kq t384 (wrap64 (x4_1 + 1)) t391 x8_3 l0 (l0.length : Int) x16_1 = some r) ∧ Aside0 (kq ≤ kj14) ∧ Aside0 (Kd.R k30 30 w' w.heap.size (fun _ => True) v385 t384) ∧ Aside0 (Below w.heap.size w w'))
                      case atStart => exact ⟨(1), (by first | rfl | (simp; done) | (simp [*]; done)), H', ⟨Nat.le_refl _⟩, ⟨by (with_reducible repeat (first | apply Kd.R_alloc | apply Kd.R_drewN | apply Kd.R_drew)); exact HO_3.out⟩, ⟨by repeat (first | (with_reducible first | exact HB.out | apply below_alloc | apply pw_below_drewN | apply below_drew1) | exact HB.out)⟩⟩
                      case round =>
                        clear H'
                        try clear c1
                        try clear c2
                        try clear p2
                        try clear c3
                        try clear p3
                        try clear q3
                        try clear hx3
                        try clear p6
                        try clear c9
                        try clear c9b0
                        try clear c10
                        try clear c10b0
                        try clear c11
                        try clear c11b0
                        try clear c12
                        try clear c14
                        try clear c20
                        try clear c20b0
                        try clear c21
                        try clear c22
                        try clear c22b0
                        try clear c23
                        try clear c23b0
                        try clear c24
                        try clear c24b0
                        try clear c24b1
                        try clear c25
                        try clear c25b0
                        try clear c25b1
                        try clear c31
                        try clear hx387_0
                        try clear hx393_0
                        try clear hx393_1
                        try clear hx394_0
                        try clear hx394_1
                        try clear p2
                        try clear p3
                        try clear p387
                        try clear p393
                        try clear p394
                        try clear p6
                        try clear q3
                        try clear q387
                        try clear q393
                        try clear q394
                        obtain ⟨x8_3, rfl, HA, HK3, HO_3, HB⟩ := hrel
                        cases gk with
                        | zero => exact absurd HA.out (by simp [bodkinlaw01_UnitBack.l1])
                        | succ k3 =>
                          have H := HA.out
                          clear HA
                          simp only [bodkinlaw01_UnitBack.l1] at H
                          by_cases c32 : x8_3 < (t391.size : Int)
                          · rw [if_pos c32] at H
                            have c32b0 : decide (x8_3 < (t391.size : Int)) = true := decide_eq_true c32
                            clear c32
                            by_cases c33 : 0 ≤ x8_3
                            · rw [if_pos c33] at H
                              have c33b0 := eq_true c33
                              have c33b1 : decide (0 ≤ x8_3) = true := decide_eq_true c33
                              clear c33
                              by_cases c34 : x8_3 ≤ (t391.size : Int)
                              · rw [if_pos c34] at H
                                have c34b0 := eq_true c34
                                have c34b1 : decide (x8_3 ≤ (t391.size : Int)) = true := decide_eq_true c34
                                clear c34
                                replace H := Option.bind_eq_some_iff.mp H
                                obtain ⟨t396, A350, H⟩ := H
                                replace H : (if t396 = true then ((unit_Count.f (t391.extract 0 (x8_3 : Int).toNat)).bind fun t397 => (if t397 = x8_3 then (bodkinlaw01_UnitBack.l1 k3 t384 (wrap64 (x4_1 + 1)) t391 (wrap64 (x8_3 + 1)) l0 (l0.length : Int) x16_1) else (some false))) else (some false)) = some r := H
                                have A35 := Aside0.mk A350
                                clear A350
                                by_cases c36 : t396 = true
                                · subst c36
                                  have H1 : ((unit_Count.f (t391.extract 0 (x8_3 : Int).toNat)).bind fun t397 => (if t397 = x8_3 then (bodkinlaw01_UnitBack.l1 k3 t384 (wrap64 (x4_1 + 1)) t391 (wrap64 (x8_3 + 1)) l0 (l0.length : Int) x16_1) else (some false))) = some r := by rw [if_pos rfl] at H; exact H
                                  clear H
                                  have H := H1
                                  clear H1
                                  have c37b0 := eq_true (of_decide_eq_true (by first | (with_reducible assumption) | assumption) : 0 ≤ x8_3)
                                  have c38b0 := eq_true (of_decide_eq_true (by first | (with_reducible assumption) | assumption) : x8_3 ≤ (t391.size : Int))
                                  replace H := Option.bind_eq_some_iff.mp H
                                  obtain ⟨t397, A390, H⟩ := H
                                  replace H : (if t397 = x8_3 then (bodkinlaw01_UnitBack.l1 k3 t384 (wrap64 (x4_1 + 1)) t391 (wrap64 (x8_3 + 1)) l0 (l0.length : Int) x16_1) else (some false)) = some r := H
                                  have A39 := Aside0.mk A390
                                  clear A390
                                  by_cases c40 : t397 = x8_3
                                  · rw [if_pos c40] at H
                                    have c40b0 : (t397 == x8_3) = true := beq_iff_eq.mpr c40
                                    have c40b1 : (t397 != x8_3) = false := bne_eq_false_iff_eq.mpr c40
                                    clear c40
                                    have H' := Aside0.mk H
                                    clear H
                                    go_wp2_with (first | ((with_reducible refine gate_callee (f := 34) rfl ?_); refine goesL_ (some 66) rfl rfl Tryd.func34 (by kernel_rfl) rfl #[.string (t391.extract 0 (x8_3 : Int).toNat)] rfl (by (try simp only [List.map_toArray, List.map_cons, List.map_nil]); first | done | rfl | (simp only [List.length_drop, List.length_take]; rfl)) ?_; (with_reducible refine (unit_Begun.calls (t391.extract 0 (x8_3 : Int).toNat) true _ ?side1 A35.out).mono ?_); (case side1 => exact tabs_below HT.out (by repeat (first | (with_reducible first | exact HB.out | apply below_alloc | apply pw_below_drewN | apply below_drew1) | exact HB.out))); rintro e w41 ⟨rfl, hb⟩; refine ⟨_, rfl, ?_⟩; have n0_ := Aside0.mk (Kd.R_below (by (with_reducible repeat (first | apply Kd.R_alloc | apply Kd.R_drewN | apply Kd.R_drew)); exact HO_3.out) hb); have n1_ := Aside0.mk (below_step (by repeat (first | (with_reducible first | exact HB.out | apply below_alloc | apply pw_below_drewN | apply below_drew1) | exact HB.out)) hb); clear HO_3; clear HB; have HO_3 := n0_; have HB := n1_; clear n0_ n1_; (try clear hb); (try clear hb2); (try clear hk); (try clear hi)) | (go_at_call 29; (with_reducible refine (unit_Count.calls (t391.extract 0 (x8_3 : Int).toNat) t397 _ A39.out).mono ?_); rintro e w42 ⟨rfl, hb⟩; have n0_ := Aside0.mk (Kd.R_below (by (with_reducible repeat (first | apply Kd.R_alloc | apply Kd.R_drewN | apply Kd.R_drew)); exact HO_3.out) hb); have n1_ := Aside0.mk (below_step (by repeat (first | (with_reducible first | exact HB.out | apply below_alloc | apply pw_below_drewN | apply below_drew1) | exact HB.out)) hb); clear HO_3; clear HB; have HO_3 := n0_; have HB := n1_; clear n0_ n1_; (try clear hb); (try clear hb2); (try clear hk); (try clear hi)))
                                    go_roundg k3
                                    case measure => have := HK1.out; have := HJ14.out; have := HK3.out; omega
                                    case rel => exact ⟨(wrap64 (x8_3 + 1)), (by first | rfl | (simp; done) | (simp [*]; done)), H', ⟨by have := HK1.out; have := HJ14.out; have := HK3.out; omega⟩, ⟨by (with_reducible repeat (first | apply Kd.R_alloc | apply Kd.R_drewN | apply Kd.R_drew)); exact HO_3.out⟩, ⟨by repeat (first | (with_reducible first | exact HB.out | apply below_alloc | apply pw_below_drewN | apply below_drew1) | exact HB.out)⟩⟩
                                  · rw [if_neg c40] at H
                                    have c40b0 : (t397 == x8_3) = false := beq_eq_false_iff_ne.mpr c40
                                    have c40b1 : (t397 != x8_3) = true := bne_iff_ne.mpr c40
                                    obtain rfl := Option.some.inj H
                                    go_wp2_with (first | ((with_reducible refine gate_callee (f := 34) rfl ?_); refine goesL_ (some 66) rfl rfl Tryd.func34 (by kernel_rfl) rfl #[.string (t391.extract 0 (x8_3 : Int).toNat)] rfl (by (try simp only [List.map_toArray, List.map_cons, List.map_nil]); first | done | rfl | (simp only [List.length_drop, List.length_take]; rfl)) ?_; (with_reducible refine (unit_Begun.calls (t391.extract 0 (x8_3 : Int).toNat) true _ ?side1 A35.out).mono ?_); (case side1 => exact tabs_below HT.out (by repeat (first | (with_reducible first | exact HB.out | apply below_alloc | apply pw_below_drewN | apply below_drew1) | exact HB.out))); rintro e w43 ⟨rfl, hb⟩; refine ⟨_, rfl, ?_⟩; have n0_ := Aside0.mk (Kd.R_below (by (with_reducible repeat (first | apply Kd.R_alloc | apply Kd.R_drewN | apply Kd.R_drew)); exact HO_3.out) hb); have n1_ := Aside0.mk (below_step (by repeat (first | (with_reducible first | exact HB.out | apply below_alloc | apply pw_below_drewN | apply below_drew1) | exact HB.out)) hb); clear HO_3; clear HB; have HO_3 := n0_; have HB := n1_; clear n0_ n1_; (try clear hb); (try clear hb2); (try clear hk); (try clear hi)) | (go_at_call 29; (with_reducible refine (unit_Count.calls (t391.extract 0 (x8_3 : Int).toNat) t397 _ A39.out).mono ?_); rintro e w44 ⟨rfl, hb⟩; have n0_ := Aside0.mk (Kd.R_below (by (with_reducible repeat (first | apply Kd.R_alloc | apply Kd.R_drewN | apply Kd.R_drew)); exact HO_3.out) hb); have n1_ := Aside0.mk (below_step (by repeat (first | (with_reducible first | exact HB.out | apply below_alloc | apply pw_below_drewN | apply below_drew1) | exact HB.out)) hb); clear HO_3; clear HB; have HO_3 := n0_; have HB := n1_; clear n0_ n1_; (try clear hb); (try clear hb2); (try clear hk); (try clear hi)))
                                    go_ret
                                    exact ⟨by first | rfl | (simp [errW_none, errW_some] <;> rfl) | (simp [*, errW_none, errW_some] <;> rfl), by repeat (first | (with_reducible first | exact HB.out | apply below_alloc | apply pw_below_drewN | apply below_drew1) | exact HB.out)⟩
                                · replace c36 := Bool.eq_false_iff.mpr c36
                                  subst c36
                                  have H1 : (some false) = some r := by rw [if_neg (show ¬ (false = true) by decide)] at H; exact H
                                  clear H
                                  have H := H1
                                  clear H1
                                  obtain rfl := Option.some.inj H
                                  go_wp2_with (first | ((with_reducible refine gate_callee (f := 34) rfl ?_); refine goesL_ (some 66) rfl rfl Tryd.func34 (by kernel_rfl) rfl #[.string (t391.extract 0 (x8_3 : Int).toNat)] rfl (by (try simp only [List.map_toArray, List.map_cons, List.map_nil]); first | done | rfl | (simp only [List.length_drop, List.length_take]; rfl)) ?_; (with_reducible refine (unit_Begun.calls (t391.extract 0 (x8_3 : Int).toNat) false _ ?side1 A35.out).mono ?_); (case side1 => exact tabs_below HT.out (by repeat (first | (with_reducible first | exact HB.out | apply below_alloc | apply pw_below_drewN | apply below_drew1) | exact HB.out))); rintro e w45 ⟨rfl, hb⟩; refine ⟨_, rfl, ?_⟩; have n0_ := Aside0.mk (Kd.R_below (by (with_reducible repeat (first | apply Kd.R_alloc | apply Kd.R_drewN | apply Kd.R_drew)); exact HO_3.out) hb); have n1_ := Aside0.mk (below_step (by repeat (first | (with_reducible first | exact HB.out | apply below_alloc | apply pw_below_drewN | apply below_drew1) | exact HB.out)) hb); clear HO_3; clear HB; have HO_3 := n0_; have HB := n1_; clear n0_ n1_; (try clear hb); (try clear hb2); (try clear hk); (try clear hi)))
                                  go_ret
                                  exact ⟨by first | rfl | (simp [errW_none, errW_some] <;> rfl) | (simp [*, errW_none, errW_some] <;> rfl), by repeat (first | (with_reducible first | exact HB.out | apply below_alloc | apply pw_below_drewN | apply below_drew1) | exact HB.out)⟩
                              · rw [if_neg c34] at H
                                exact absurd H (by simp)
                            · rw [if_neg c33] at H
                              exact absurd H (by simp)
                          · rw [if_neg c32] at H
                            have c32b0 : decide (x8_3 < (t391.size : Int)) = false := decide_eq_false c32
                            clear c32
                            have H' := Aside0.mk H
                            clear H
                            go_wp2
                            go_roundg k3
                            case measure => have := HK1.out; have := HJ14.out; have := HK3.out; omega
                            case rel => exact ⟨((wrap64 (x4_1 + 1))), (wrap64 (x16_1 + 1)), (by first | rfl | (simp; done) | (simp [*]; done)), (by first | rfl | (simp; done) | (simp [*]; done)), H', ⟨by have := HK1.out; have := HJ14.out; have := HK3.out; omega⟩, ⟨by (with_reducible repeat (first | apply Kd.R_alloc | apply Kd.R_drewN | apply Kd.R_drew)); exact HO_3.out⟩, ⟨by repeat (first | (with_reducible first | exact HB.out | apply below_alloc | apply pw_below_drewN | apply below_drew1) | exact HB.out)⟩⟩
              · replace c14 := Bool.eq_false_iff.mpr c14
                subst c14
                have H1 : (if t391.toList = ([] : List UInt8) then (bodkinlaw01_UnitBack.l0 k1 t384 x4_1 l0 (l0.length : Int) (wrap64 (x16_1 + 1))) else (some false)) = some r := by rw [if_neg (show ¬ (false = true) by decide)] at H; exact H
                clear H
                have H := H1
                clear H1
                by_cases c46 : t391.toList = ([] : List UInt8)
                · rw [if_pos c46] at H
                  have c46b0 : (t391.toList == ([] : List UInt8)) = true := beq_iff_eq.mpr c46
                  have c46b1 : (t391.toList != ([] : List UInt8)) = false := bne_eq_false_iff_eq.mpr c46
                  clear c46
                  have H' := Aside0.mk H
                  clear H
                  have p387 : 0 ≤ (x16_1 : Int) := of_decide_eq_true (by first | (with_reducible assumption) | assumption)
                  have q387 : x16_1 < (l0.length : Int) := of_decide_eq_true (by first | (with_reducible assumption) | assumption)
                  obtain ⟨ad387, e387, hx387_0⟩ := Kd.at_int HR0.out x16_1 p387 q387
                  cases e387
                  replace hx387_0 := (HB.out.cell (World.block_lt_of_cell? w _ hx387_0)).trans hx387_0
                  replace p387 := eq_true p387
                  replace q387 := eq_true q387
                  go_wp2_with (first | ((with_reducible refine gate_dst (N := 21) rfl ?_); (try (refine gate_guard (by rfl) ?_; dsimp only)); refine Kd.R_lit (Kd.int .i32) _ 21 ?hg (N := 21) ?hd (xs := ([rd l0 x16_1] : List Int)) (inner := [.int .i32 (rd l0 x16_1)]) (ok := fun _ => True) (okp := fun _ => True) ?hr ?hp (fun _ hk => hk) trivial (Below.refl _ _) (Nat.le_refl _) (by simp) ?_; (case hd => rfl); (case hg => rfl); (case hr => first | (go_simp; done) | (go_simp; rfl)); (case hp => exact (Reps.one (show Kd.M (Kd.int .i32) _ _ _ (rd l0 x16_1) [.int .i32 (rd l0 x16_1)] from rfl) (Reps.none _ _))); intro v389 w47 ho48 hb hg_ hnew_; clear hg_ hnew_; (first | rw [← Ny388.out] at ho48 | (simp only [Int.reduceToNat] at ho48; rw [← Ny388.out] at ho48)); have n0_ := Aside0.mk (Kd.R_below (by (with_reducible repeat (first | apply Kd.R_alloc | apply Kd.R_drewN | apply Kd.R_drew)); exact HO_3.out) hb); have n1_ := Aside0.mk (Kd.R_lower ho48 (below_size (by repeat (first | (with_reducible first | exact HB.out | apply below_alloc | apply pw_below_drewN | apply below_drew1) | exact HB.out)))); have n2_ := Aside0.mk (below_step (by repeat (first | (with_reducible first | exact HB.out | apply below_alloc | apply pw_below_drewN | apply below_drew1) | exact HB.out)) hb); clear HO_3; clear HB; have HO_3 := n0_; have HO390 := n1_; have HB := n2_; clear n0_ n1_ n2_; clear hb ho48; obtain ⟨Ao49, co49, eo49⟩ := Kd.R_slice HO390.out; subst eo49) | ((with_reducible refine gate_callee (f := 36) rfl ?_); refine goesL_ (some 22) rfl rfl Tryd.func36 (by kernel_rfl) rfl #[.slice Ao49 y388.length co49] rfl (by (try simp only [List.map_toArray, List.map_cons, List.map_nil]); first | done | rfl | (simp only [List.length_drop, List.length_take]; rfl)) ?_; (with_reducible refine (unit_Encode.calls k1 _ _ y388 t391 _ ?side1 ?side2 A12.out).mono ?_); (case side1 => repeat (first | exact (Kd.R_reads' HO390.out).2.2 | (with_reducible refine Kd.C_alloc ?_ _) | (with_reducible refine Kd.C_drewN ?_ _) | (with_reducible refine Kd.C_drew ?_))); (case side2 => exact (Kd.R_reads' HO390.out).2.1); rintro e w50 ⟨rfl, hb⟩; refine ⟨_, rfl, ?_⟩; have n0_ := Aside0.mk (Kd.R_below (by (with_reducible repeat (first | apply Kd.R_alloc | apply Kd.R_drewN | apply Kd.R_drew)); exact HO_3.out) hb); have n1_ := Aside0.mk (Kd.R_below (by (with_reducible repeat (first | apply Kd.R_alloc | apply Kd.R_drewN | apply Kd.R_drew)); exact HO390.out) hb); have n2_ := Aside0.mk (below_step (by repeat (first | (with_reducible first | exact HB.out | apply below_alloc | apply pw_below_drewN | apply below_drew1) | exact HB.out)) hb); clear HO_3; clear HO390; clear HB; have HO_3 := n0_; have HO390 := n1_; have HB := n2_; clear n0_ n1_ n2_; (try clear hb); (try clear hb2); (try clear hk); (try clear hi)) | ((with_reducible refine gate_callee (f := 38) rfl ?_); refine goesL_ (some 24) rfl rfl Tryd.func38 (by kernel_rfl) rfl #[.int .i32 (rd l0 x16_1)] rfl (by (try simp only [List.map_toArray, List.map_cons, List.map_nil]); first | done | rfl | (simp only [List.length_drop, List.length_take]; rfl)) ?_; (with_reducible refine (bodkinlaw01_scalar.calls (rd l0 x16_1) false _ A13.out).mono ?_); rintro e w' ⟨rfl, ⟨nd, rfl⟩⟩; refine ⟨_, rfl, ?_⟩))
                  go_roundg k1
                  case measure => have := HK1.out; omega
                  case rel => exact ⟨(x4_1), (wrap64 (x16_1 + 1)), (by first | rfl | (simp; done) | (simp [*]; done)), (by first | rfl | (simp; done) | (simp [*]; done)), H', ⟨by have := HK1.out; omega⟩, ⟨by (with_reducible repeat (first | apply Kd.R_alloc | apply Kd.R_drewN | apply Kd.R_drew)); exact HO_3.out⟩, ⟨by repeat (first | (with_reducible first | exact HB.out | apply below_alloc | apply pw_below_drewN | apply below_drew1) | exact HB.out)⟩⟩
                · rw [if_neg c46] at H
                  have c46b0 : (t391.toList == ([] : List UInt8)) = false := beq_eq_false_iff_ne.mpr c46
                  have c46b1 : (t391.toList != ([] : List UInt8)) = true := bne_iff_ne.mpr c46
                  obtain rfl := Option.some.inj H
                  have p387 : 0 ≤ (x16_1 : Int) := of_decide_eq_true (by first | (with_reducible assumption) | assumption)
                  have q387 : x16_1 < (l0.length : Int) := of_decide_eq_true (by first | (with_reducible assumption) | assumption)
                  obtain ⟨ad387, e387, hx387_0⟩ := Kd.at_int HR0.out x16_1 p387 q387
                  cases e387
                  replace hx387_0 := (HB.out.cell (World.block_lt_of_cell? w _ hx387_0)).trans hx387_0
                  replace p387 := eq_true p387
                  replace q387 := eq_true q387
                  go_wp2_with (first | ((with_reducible refine gate_dst (N := 21) rfl ?_); (try (refine gate_guard (by rfl) ?_; dsimp only)); refine Kd.R_lit (Kd.int .i32) _ 21 ?hg (N := 21) ?hd (xs := ([rd l0 x16_1] : List Int)) (inner := [.int .i32 (rd l0 x16_1)]) (ok := fun _ => True) (okp := fun _ => True) ?hr ?hp (fun _ hk => hk) trivial (Below.refl _ _) (Nat.le_refl _) (by simp) ?_; (case hd => rfl); (case hg => rfl); (case hr => first | (go_simp; done) | (go_simp; rfl)); (case hp => exact (Reps.one (show Kd.M (Kd.int .i32) _ _ _ (rd l0 x16_1) [.int .i32 (rd l0 x16_1)] from rfl) (Reps.none _ _))); intro v389 w51 ho52 hb hg_ hnew_; clear hg_ hnew_; (first | rw [← Ny388.out] at ho52 | (simp only [Int.reduceToNat] at ho52; rw [← Ny388.out] at ho52)); have n0_ := Aside0.mk (Kd.R_below (by (with_reducible repeat (first | apply Kd.R_alloc | apply Kd.R_drewN | apply Kd.R_drew)); exact HO_3.out) hb); have n1_ := Aside0.mk (Kd.R_lower ho52 (below_size (by repeat (first | (with_reducible first | exact HB.out | apply below_alloc | apply pw_below_drewN | apply below_drew1) | exact HB.out)))); have n2_ := Aside0.mk (below_step (by repeat (first | (with_reducible first | exact HB.out | apply below_alloc | apply pw_below_drewN | apply below_drew1) | exact HB.out)) hb); clear HO_3; clear HB; have HO_3 := n0_; have HO390 := n1_; have HB := n2_; clear n0_ n1_ n2_; clear hb ho52; obtain ⟨Ao53, co53, eo53⟩ := Kd.R_slice HO390.out; subst eo53) | ((with_reducible refine gate_callee (f := 36) rfl ?_); refine goesL_ (some 22) rfl rfl Tryd.func36 (by kernel_rfl) rfl #[.slice Ao53 y388.length co53] rfl (by (try simp only [List.map_toArray, List.map_cons, List.map_nil]); first | done | rfl | (simp only [List.length_drop, List.length_take]; rfl)) ?_; (with_reducible refine (unit_Encode.calls k1 _ _ y388 t391 _ ?side1 ?side2 A12.out).mono ?_); (case side1 => repeat (first | exact (Kd.R_reads' HO390.out).2.2 | (with_reducible refine Kd.C_alloc ?_ _) | (with_reducible refine Kd.C_drewN ?_ _) | (with_reducible refine Kd.C_drew ?_))); (case side2 => exact (Kd.R_reads' HO390.out).2.1); rintro e w54 ⟨rfl, hb⟩; refine ⟨_, rfl, ?_⟩; have n0_ := Aside0.mk (Kd.R_below (by (with_reducible repeat (first | apply Kd.R_alloc | apply Kd.R_drewN | apply Kd.R_drew)); exact HO_3.out) hb); have n1_ := Aside0.mk (Kd.R_below (by (with_reducible repeat (first | apply Kd.R_alloc | apply Kd.R_drewN | apply Kd.R_drew)); exact HO390.out) hb); have n2_ := Aside0.mk (below_step (by repeat (first | (with_reducible first | exact HB.out | apply below_alloc | apply pw_below_drewN | apply below_drew1) | exact HB.out)) hb); clear HO_3; clear HO390; clear HB; have HO_3 := n0_; have HO390 := n1_; have HB := n2_; clear n0_ n1_ n2_; (try clear hb); (try clear hb2); (try clear hk); (try clear hi)) | ((with_reducible refine gate_callee (f := 38) rfl ?_); refine goesL_ (some 24) rfl rfl Tryd.func38 (by kernel_rfl) rfl #[.int .i32 (rd l0 x16_1)] rfl (by (try simp only [List.map_toArray, List.map_cons, List.map_nil]); first | done | rfl | (simp only [List.length_drop, List.length_take]; rfl)) ?_; (with_reducible refine (bodkinlaw01_scalar.calls (rd l0 x16_1) false _ A13.out).mono ?_); rintro e w' ⟨rfl, ⟨nd, rfl⟩⟩; refine ⟨_, rfl, ?_⟩))
                  go_ret
                  exact ⟨by first | rfl | (simp [errW_none, errW_some] <;> rfl) | (simp [*, errW_none, errW_some] <;> rfl), by repeat (first | (with_reducible first | exact HB.out | apply below_alloc | apply pw_below_drewN | apply below_drew1) | exact HB.out)⟩
            · rw [if_neg c11] at H
              exact absurd H (by simp)
          · rw [if_neg c10] at H
            exact absurd H (by simp)
        · rw [if_neg c9] at H
          have c9b0 : decide (x16_1 < (l0.length : Int)) = false := decide_eq_false c9
          clear c9
          obtain rfl := Option.some.inj H
          obtain ⟨Ao55, co55, eo55⟩ := Kd.R_slice HO_3.out
          subst eo55
          go_wp2
          go_ret
          exact ⟨by first | rfl | (simp [errW_none, errW_some] <;> rfl) | (simp [*, errW_none, errW_some] <;> rfl), by repeat (first | (with_reducible first | exact HB.out | apply below_alloc | apply pw_below_drewN | apply below_drew1) | exact HB.out)⟩
  · replace c3 := Bool.eq_false_iff.mpr c3
    subst c3
    have H1 : (some false) = some r := by rw [if_neg (show ¬ (false = true) by decide)] at H; exact H
    clear H
    have H := H1
    clear H1
    obtain rfl := Option.some.inj H
    go_enter Tryd.func12, Tryd.ntmps12
    go_wp2_with (first | ((with_reducible refine gate_callee (f := 21) rfl ?_); refine goesL_ (some 9) rfl rfl Tryd.func21 (by kernel_rfl) rfl #[] rfl (by (try simp only [List.map_toArray, List.map_cons, List.map_nil]); first | done | rfl | (simp only [List.length_drop, List.length_take]; rfl)) ?_; (with_reducible refine (bodkinlaw01_cuts.calls  false _ ?side1 A2.out).mono ?_); (case side1 => exact tabs_below HT.out (by repeat (first | (with_reducible first | exact HB.out | apply below_alloc | apply pw_below_drewN | apply below_drew1) | exact HB.out))); rintro e w56 ⟨rfl, hb⟩; refine ⟨_, rfl, ?_⟩; have n0_ := Aside0.mk (below_step (by repeat (first | (with_reducible first | exact HB.out | apply below_alloc | apply pw_below_drewN | apply below_drew1) | exact HB.out)) hb); clear HB; have HB := n0_; clear n0_; (try clear hb); (try clear hb2); (try clear hk); (try clear hi)))
    go_ret
    exact ⟨by first | rfl | (simp [errW_none, errW_some] <;> rfl) | (simp [*, errW_none, errW_some] <;> rfl), by repeat (first | (with_reducible first | exact HB.out | apply below_alloc | apply pw_below_drewN | apply below_drew1) | exact HB.out)⟩

/-- THE ONE PURE STATEMENT of bodkinlaw01_UnitBack: yours. -/
def bodkinlaw01_UnitBack.Pure : Prop := ∀ (l0 : List Int), l0.length ≤ maxLen → l0.length * 4 ≤ 140737488351232 → (∀ x ∈ l0, (Lit.int .i32 x).wf = true) → ∃ k, bodkinlaw01_UnitBack.f k l0 = some true
theorem bodkinlaw01_UnitBack.walk (P : bodkinlaw01_UnitBack.Pure) (a0 : Option Addr) (len0 cap0 : Nat) (z0 : List Int) (w : World) (w0 : (a0 = none ∧ len0 = 0 ∧ cap0 = 0 ∧ z0 = []) ∨ ∃ x, a0 = some x ∧ len0 ≤ cap0 ∧ cap0 ≤ maxLen ∧ z0.length = cap0 ∧ (∀ i, i < z0.length → w.cell? (x.add i) = some (.int .i32 (z0.getD i 0))) ∧ ∀ n ∈ z0, (Lit.int .i32 n).wf = true) (y0 : len0 * 4 ≤ 140737488351232) (hT : Lib.Utf8Tabs 0 1 w) :
    Calls Tryd.prog 12 #[.slice a0 len0 cap0] w fun e w' => e = .returned (.bool true) ∧ Below w.heap.size w w' := by
  obtain ⟨l0, rfl, hr0, hm0, hw0, hc0⟩ := ReadsInt.ofRowC w0
  obtain ⟨k, h⟩ := P l0 hm0 y0 hw0
  refine (bodkinlaw01_UnitBack.calls k _ _ l0 true w (Kd.C_of_reads (d := (0 : Int)) (h1 := fun _ => rfl) hr0) hc0 hT h).mono ?_
  rintro e w' ⟨rfl, hd⟩
  exact ⟨rfl, hd⟩

end Go.Proofs.YtfhnfhgpaoddbaaDoor.U
