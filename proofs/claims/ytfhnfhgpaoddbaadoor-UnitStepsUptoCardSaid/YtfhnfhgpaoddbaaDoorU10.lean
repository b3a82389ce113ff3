-- Written by a program of this session's own (wip/tool/myprint.py). Lean checks it.
import Derived.Test.YtfhnfhgpaoddbaaDoorU0
import Derived.Test.YtfhnfhgpaoddbaaDoorU4
import Derived.Test.YtfhnfhgpaoddbaaDoorU6
import Derived.Test.YtfhnfhgpaoddbaaDoorHc
namespace Go.Proofs.YtfhnfhgpaoddbaaDoor.U
open Go.RowKit Go.Proofs.YtfhnfhgpaoddbaaDoorW.PrintWords Go.Proofs.YtfhnfhgpaoddbaaDoorW.PrintLast Go.Proofs.YtfhnfhgpaoddbaaDoorW.PrintMore
attribute [local go_sem] max2_int min2_int max_two min_two max_three min_three max_four min_four   -- for this text's walks alone
set_option linter.unusedVariables false
set_option linter.unusedSimpArgs false

/-! ### bodkinlaw01_UnitSteps: function 8 -/
mutual
def bodkinlaw01_UnitSteps.l0 : Nat → ByteArray → Int → Int → Int → Int → Option (Bool)
  | 0, _, _, _, _, _ => none
  | k + 1, x0, x1, x5, x13, x14 => if x14 < x13 then ((unit_Next.f k x0 x5).bind fun t253 => (if t253 ≤ x5 then (bodkinlaw01_UnitSteps.j1 k x0 x1 x5 t253 x13 x14 true) else (if t253 > (wrap64 (x5 + 4)) then (bodkinlaw01_UnitSteps.j1 k x0 x1 x5 t253 x13 x14 true) else ((unit_Prev.f k x0 t253).bind fun t254 => (if t254 = x5 then ((unit_Boundary.f k x0 t253).bind fun t255 => (bodkinlaw01_UnitSteps.j1 k x0 x1 x5 t253 x13 x14 (!t255))) else (bodkinlaw01_UnitSteps.j1 k x0 x1 x5 t253 x13 x14 true)))))) else (if x5 = (x0.size : Int) then ((unit_Next.f k x0 x5).bind fun t261 => (if t261 = x5 then ((unit_Prev.f k x0 0).bind fun t262 => (bodkinlaw01_UnitSteps.j3 k x0 x1 (t262 != 0))) else (bodkinlaw01_UnitSteps.j3 k x0 x1 true))) else (bodkinlaw01_UnitSteps.j3 k x0 x1 true))
def bodkinlaw01_UnitSteps.j1 : Nat → ByteArray → Int → Int → Int → Int → Int → Bool → Option (Bool)
  | 0, _, _, _, _, _, _, _ => none
  | k + 1, x0, x1, x5, x6, x13, x14, x40 => if x40 = true then (some false) else (bodkinlaw01_UnitSteps.l1 k x0 x1 x5 x6 (wrap64 (x5 + 1)) x13 x14)
def bodkinlaw01_UnitSteps.l1 : Nat → ByteArray → Int → Int → Int → Int → Int → Int → Option (Bool)
  | 0, _, _, _, _, _, _, _ => none
  | k + 1, x0, x1, x5, x6, x7, x13, x14 => if x7 < x6 then ((unit_Boundary.f k x0 x7).bind fun t256 => (if t256 = true then (some false) else ((unit_Down.f k x0 x7).bind fun t257 => (if t257 = x5 then ((unit_Up.f k x0 x7).bind fun t258 => (if t258 = x6 then ((unit_Prev.f k x0 x7).bind fun t259 => (if t259 = x5 then ((unit_Next.f k x0 x7).bind fun t260 => (if t260 = x6 then (bodkinlaw01_UnitSteps.l1 k x0 x1 x5 x6 (wrap64 (x7 + 1)) x13 x14) else (some false))) else (some false))) else (some false))) else (some false))))) else (bodkinlaw01_UnitSteps.l0 k x0 x1 x6 x13 (wrap64 (x14 + 1)))
def bodkinlaw01_UnitSteps.j3 : Nat → ByteArray → Int → Bool → Option (Bool)
  | 0, _, _, _ => none
  | k + 1, x0, x1, x96 => if x96 = true then (some false) else ((unit_Down.f k x0 x1).bind fun t263 => ((unit_Up.f k x0 x1).bind fun t264 => (if x1 ≥ 0 then (bodkinlaw01_UnitSteps.j4 k x0 x1 t263 t264 (decide (x1 ≤ (x0.size : Int)))) else (bodkinlaw01_UnitSteps.j4 k x0 x1 t263 t264 false))))
def bodkinlaw01_UnitSteps.j4 : Nat → ByteArray → Int → Int → Int → Bool → Option (Bool)
  | 0, _, _, _, _, _ => none
  | k + 1, x0, x1, x8, x9, x110 => if x110 = true then (if x8 ≤ x1 then (if x1 ≤ x9 then ((unit_Boundary.f k x0 x1).bind fun t265 => (if (t265 == (x8 == x9)) = true then ((unit_Down.f k x0 x9).bind fun t266 => (if t266 = x9 then ((unit_Up.f k x0 x8).bind fun t267 => (some (t267 == x8))) else (some false))) else (some false))) else (some false)) else (some false)) else (if x8 = x9 then ((unit_Boundary.f k x0 x1).bind fun t268 => (if t268 = true then (some false) else (if x8 = 0 then (some true) else (some (x8 == (x0.size : Int)))))) else (some false))
end
def bodkinlaw01_UnitSteps.f (k : Nat) (a0 : ByteArray) (a1 : Int) : Option (Bool) := (bodkinlaw01_cuts.f).bind fun t251 => (if t251 = true then ((unit_Count.f a0).bind fun t252 => (bodkinlaw01_UnitSteps.l0 k a0 a1 0 t252 0)) else (some false))
theorem bodkinlaw01_UnitSteps.mono_l : ∀ k, (∀ y0 y1 y2 y3 y4, LeO (bodkinlaw01_UnitSteps.l0 k y0 y1 y2 y3 y4) (bodkinlaw01_UnitSteps.l0 (k + 1) y0 y1 y2 y3 y4)) ∧ (∀ y0 y1 y2 y3 y4 y5 y6, LeO (bodkinlaw01_UnitSteps.j1 k y0 y1 y2 y3 y4 y5 y6) (bodkinlaw01_UnitSteps.j1 (k + 1) y0 y1 y2 y3 y4 y5 y6)) ∧ (∀ y0 y1 y2 y3 y4 y5 y6, LeO (bodkinlaw01_UnitSteps.l1 k y0 y1 y2 y3 y4 y5 y6) (bodkinlaw01_UnitSteps.l1 (k + 1) y0 y1 y2 y3 y4 y5 y6)) ∧ (∀ y0 y1 y2, LeO (bodkinlaw01_UnitSteps.j3 k y0 y1 y2) (bodkinlaw01_UnitSteps.j3 (k + 1) y0 y1 y2)) ∧ (∀ y0 y1 y2 y3 y4, LeO (bodkinlaw01_UnitSteps.j4 k y0 y1 y2 y3 y4) (bodkinlaw01_UnitSteps.j4 (k + 1) y0 y1 y2 y3 y4))
  | 0 => ⟨fun _ _ _ _ _ r h => by simp [bodkinlaw01_UnitSteps.l0] at h, fun _ _ _ _ _ _ _ r h => by simp [bodkinlaw01_UnitSteps.j1] at h, fun _ _ _ _ _ _ _ r h => by simp [bodkinlaw01_UnitSteps.l1] at h, fun _ _ _ r h => by simp [bodkinlaw01_UnitSteps.j3] at h, fun _ _ _ _ _ r h => by simp [bodkinlaw01_UnitSteps.j4] at h⟩
  | k + 1 => by
    obtain ⟨ih0, ih1, ih2, ih3, ih4⟩ := bodkinlaw01_UnitSteps.mono_l k
    refine ⟨?_, ?_, ?_, ?_, ?_⟩
    · intro y0 y1 y2 y3 y4
      unfold bodkinlaw01_UnitSteps.l0
      repeat' first
      | (with_reducible exact ih0 _ _ _ _ _)
      | (with_reducible exact ih1 _ _ _ _ _ _ _)
      | (with_reducible exact ih2 _ _ _ _ _ _ _)
      | (with_reducible exact ih3 _ _ _)
      | (with_reducible exact ih4 _ _ _ _ _)
      | (with_reducible exact unit_Boundary.mono _ _ _)
      | (with_reducible exact unit_Down.mono _ _ _)
      | (with_reducible exact unit_Next.mono _ _ _)
      | (with_reducible exact unit_Prev.mono _ _ _)
      | (with_reducible exact unit_Up.mono _ _ _)
      | (with_reducible exact LeO.refl _)
      | (with_reducible exact LeO.none _)
      | (with_reducible refine LeO.ite ?_ ?_)
      | (with_reducible refine LeO.bind ?_ (fun _ => ?_))
      | exact ih0 _ _ _ _ _
      | exact ih1 _ _ _ _ _ _ _
      | exact ih2 _ _ _ _ _ _ _
      | exact ih3 _ _ _
      | exact ih4 _ _ _ _ _
      | exact unit_Boundary.mono _ _ _
      | exact unit_Down.mono _ _ _
      | exact unit_Next.mono _ _ _
      | exact unit_Prev.mono _ _ _
      | exact unit_Up.mono _ _ _
      | exact LeO.none _
      | refine LeO.ite ?_ ?_
      | refine LeO.bind ?_ (fun _ => ?_)
    · intro y0 y1 y2 y3 y4 y5 y6
      unfold bodkinlaw01_UnitSteps.j1
      repeat' first
      | (with_reducible exact ih0 _ _ _ _ _)
      | (with_reducible exact ih1 _ _ _ _ _ _ _)
      | (with_reducible exact ih2 _ _ _ _ _ _ _)
      | (with_reducible exact ih3 _ _ _)
      | (with_reducible exact ih4 _ _ _ _ _)
      | (with_reducible exact unit_Boundary.mono _ _ _)
      | (with_reducible exact unit_Down.mono _ _ _)
      | (with_reducible exact unit_Next.mono _ _ _)
      | (with_reducible exact unit_Prev.mono _ _ _)
      | (with_reducible exact unit_Up.mono _ _ _)
      | (with_reducible exact LeO.refl _)
      | (with_reducible exact LeO.none _)
      | (with_reducible refine LeO.ite ?_ ?_)
      | (with_reducible refine LeO.bind ?_ (fun _ => ?_))
      | exact ih0 _ _ _ _ _
      | exact ih1 _ _ _ _ _ _ _
      | exact ih2 _ _ _ _ _ _ _
      | exact ih3 _ _ _
      | exact ih4 _ _ _ _ _
      | exact unit_Boundary.mono _ _ _
      | exact unit_Down.mono _ _ _
      | exact unit_Next.mono _ _ _
      | exact unit_Prev.mono _ _ _
      | exact unit_Up.mono _ _ _
      | exact LeO.none _
      | refine LeO.ite ?_ ?_
      | refine LeO.bind ?_ (fun _ => ?_)
    · intro y0 y1 y2 y3 y4 y5 y6
      unfold bodkinlaw01_UnitSteps.l1
      repeat' first
      | (with_reducible exact ih0 _ _ _ _ _)
      | (with_reducible exact ih1 _ _ _ _ _ _ _)
      | (with_reducible exact ih2 _ _ _ _ _ _ _)
      | (with_reducible exact ih3 _ _ _)
      | (with_reducible exact ih4 _ _ _ _ _)
      | (with_reducible exact unit_Boundary.mono _ _ _)
      | (with_reducible exact unit_Down.mono _ _ _)
      | (with_reducible exact unit_Next.mono _ _ _)
      | (with_reducible exact unit_Prev.mono _ _ _)
      | (with_reducible exact unit_Up.mono _ _ _)
      | (with_reducible exact LeO.refl _)
      | (with_reducible exact LeO.none _)
      | (with_reducible refine LeO.ite ?_ ?_)
      | (with_reducible refine LeO.bind ?_ (fun _ => ?_))
      | exact ih0 _ _ _ _ _
      | exact ih1 _ _ _ _ _ _ _
      | exact ih2 _ _ _ _ _ _ _
      | exact ih3 _ _ _
      | exact ih4 _ _ _ _ _
      | exact unit_Boundary.mono _ _ _
      | exact unit_Down.mono _ _ _
      | exact unit_Next.mono _ _ _
      | exact unit_Prev.mono _ _ _
      | exact unit_Up.mono _ _ _
      | exact LeO.none _
      | refine LeO.ite ?_ ?_
      | refine LeO.bind ?_ (fun _ => ?_)
    · intro y0 y1 y2
      unfold bodkinlaw01_UnitSteps.j3
      repeat' first
      | (with_reducible exact ih0 _ _ _ _ _)
      | (with_reducible exact ih1 _ _ _ _ _ _ _)
      | (with_reducible exact ih2 _ _ _ _ _ _ _)
      | (with_reducible exact ih3 _ _ _)
      | (with_reducible exact ih4 _ _ _ _ _)
      | (with_reducible exact unit_Boundary.mono _ _ _)
      | (with_reducible exact unit_Down.mono _ _ _)
      | (with_reducible exact unit_Next.mono _ _ _)
      | (with_reducible exact unit_Prev.mono _ _ _)
      | (with_reducible exact unit_Up.mono _ _ _)
      | (with_reducible exact LeO.refl _)
      | (with_reducible exact LeO.none _)
      | (with_reducible refine LeO.ite ?_ ?_)
      | (with_reducible refine LeO.bind ?_ (fun _ => ?_))
      | exact ih0 _ _ _ _ _
      | exact ih1 _ _ _ _ _ _ _
      | exact ih2 _ _ _ _ _ _ _
      | exact ih3 _ _ _
      | exact ih4 _ _ _ _ _
      | exact unit_Boundary.mono _ _ _
      | exact unit_Down.mono _ _ _
      | exact unit_Next.mono _ _ _
      | exact unit_Prev.mono _ _ _
      | exact unit_Up.mono _ _ _
      | exact LeO.none _
      | refine LeO.ite ?_ ?_
      | refine LeO.bind ?_ (fun _ => ?_)
    · intro y0 y1 y2 y3 y4
      unfold bodkinlaw01_UnitSteps.j4
      repeat' first
      | (with_reducible exact ih0 _ _ _ _ _)
      | (with_reducible exact ih1 _ _ _ _ _ _ _)
      | (with_reducible exact ih2 _ _ _ _ _ _ _)
      | (with_reducible exact ih3 _ _ _)
      | (with_reducible exact ih4 _ _ _ _ _)
      | (with_reducible exact unit_Boundary.mono _ _ _)
      | (with_reducible exact unit_Down.mono _ _ _)
      | (with_reducible exact unit_Next.mono _ _ _)
      | (with_reducible exact unit_Prev.mono _ _ _)
      | (with_reducible exact unit_Up.mono _ _ _)
      | (with_reducible exact LeO.refl _)
      | (with_reducible exact LeO.none _)
      | (with_reducible refine LeO.ite ?_ ?_)
      | (with_reducible refine LeO.bind ?_ (fun _ => ?_))
      | exact ih0 _ _ _ _ _
      | exact ih1 _ _ _ _ _ _ _
      | exact ih2 _ _ _ _ _ _ _
      | exact ih3 _ _ _
      | exact ih4 _ _ _ _ _
      | exact unit_Boundary.mono _ _ _
      | exact unit_Down.mono _ _ _
      | exact unit_Next.mono _ _ _
      | exact unit_Prev.mono _ _ _
      | exact unit_Up.mono _ _ _
      | exact LeO.none _
      | refine LeO.ite ?_ ?_
      | refine LeO.bind ?_ (fun _ => ?_)
theorem bodkinlaw01_UnitSteps.mono : ∀ a0 a1 k, LeO (bodkinlaw01_UnitSteps.f k a0 a1) (bodkinlaw01_UnitSteps.f (k + 1) a0 a1) := by
  intro a0 a1 k
  obtain ⟨ih0, ih1, ih2, ih3, ih4⟩ := bodkinlaw01_UnitSteps.mono_l k
  unfold bodkinlaw01_UnitSteps.f
  repeat' first
      | (with_reducible exact ih0 _ _ _ _ _)
      | (with_reducible exact ih1 _ _ _ _ _ _ _)
      | (with_reducible exact ih2 _ _ _ _ _ _ _)
      | (with_reducible exact ih3 _ _ _)
      | (with_reducible exact ih4 _ _ _ _ _)
      | (with_reducible exact unit_Boundary.mono _ _ _)
      | (with_reducible exact unit_Down.mono _ _ _)
      | (with_reducible exact unit_Next.mono _ _ _)
      | (with_reducible exact unit_Prev.mono _ _ _)
      | (with_reducible exact unit_Up.mono _ _ _)
      | (with_reducible exact LeO.refl _)
      | (with_reducible exact LeO.none _)
      | (with_reducible refine LeO.ite ?_ ?_)
      | (with_reducible refine LeO.bind ?_ (fun _ => ?_))
      | exact ih0 _ _ _ _ _
      | exact ih1 _ _ _ _ _ _ _
      | exact ih2 _ _ _ _ _ _ _
      | exact ih3 _ _ _
      | exact ih4 _ _ _ _ _
      | exact unit_Boundary.mono _ _ _
      | exact unit_Down.mono _ _ _
      | exact unit_Next.mono _ _ _
      | exact unit_Prev.mono _ _ _
      | exact unit_Up.mono _ _ _
      | exact LeO.none _
      | refine LeO.ite ?_ ?_
      | refine LeO.bind ?_ (fun _ => ?_)
set_option maxHeartbeats 8000000 in
set_option maxRecDepth 100000 in
theorem bodkinlaw01_UnitSteps.calls (k : Nat) (a0 : ByteArray) (a1 : Int) (r : Bool) (w : World) (hT : Lib.Utf8Tabs 0 1 w) (h : bodkinlaw01_UnitSteps.f k a0 a1 = some r) :
    Calls Tryd.prog 8 #[.string a0, .int .i64 a1] w fun e w' => e = .returned (.bool r) ∧ Below w.heap.size w w' := by
  have HT := Aside0.mk hT
  clear hT
  have HB := Aside0.mk (Below.refl w.heap.size w)
  have H : ((bodkinlaw01_cuts.f).bind fun t251 => (if t251 = true then ((unit_Count.f a0).bind fun t252 => (bodkinlaw01_UnitSteps.l0 k a0 a1 0 t252 0)) else (some false))) = some r := h
  clear h
  replace H := Option.bind_eq_some_iff.mp H
  obtain ⟨t251, A30, H⟩ := H
  replace H : (if t251 = true then ((unit_Count.f a0).bind fun t252 => (bodkinlaw01_UnitSteps.l0 k a0 a1 0 t252 0)) else (some false)) = some r := H
  have A3 := Aside0.mk A30
  clear A30
  by_cases c4 : t251 = true
  · subst c4
    have H1 : ((unit_Count.f a0).bind fun t252 => (bodkinlaw01_UnitSteps.l0 k a0 a1 0 t252 0)) = some r := by rw [if_pos rfl] at H; exact H
    clear H
    have H := H1
    clear H1
    replace H := Option.bind_eq_some_iff.mp H
    obtain ⟨t252, A50, H⟩ := H
    replace H : (bodkinlaw01_UnitSteps.l0 k a0 a1 0 t252 0) = some r := H
    have A5 := Aside0.mk A50
    clear A50
    have H' := Aside0.mk H
    clear H
    go_enter Tryd.func8, Tryd.ntmps8
    go_wp2_with (first | ((with_reducible refine gate_callee (f := 21) rfl ?_); refine goesL_ (some 10) rfl rfl Tryd.func21 (by kernel_rfl) rfl #[] rfl (by (try simp only [List.map_toArray, List.map_cons, List.map_nil]); first | done | rfl | (simp only [List.length_drop, List.length_take]; rfl)) ?_; (with_reducible refine (bodkinlaw01_cuts.calls  true _ ?side1 A3.out).mono ?_); (case side1 => exact tabs_below HT.out (by repeat (first | (with_reducible first | exact HB.out | apply below_alloc | apply pw_below_drewN | apply below_drew1) | exact HB.out))); rintro e w6 ⟨rfl, hb⟩; refine ⟨_, rfl, ?_⟩; have n0_ := Aside0.mk (below_step (by repeat (first | (with_reducible first | exact HB.out | apply below_alloc | apply pw_below_drewN | apply below_drew1) | exact HB.out)) hb); clear HB; have HB := n0_; clear n0_; (try clear hb); (try clear hb2); (try clear hk); (try clear hi)) | ((with_reducible refine gate_callee (f := 29) rfl ?_); refine goesL_ (some 13) rfl rfl Tryd.func29 (by kernel_rfl) rfl #[.string a0] rfl (by (try simp only [List.map_toArray, List.map_cons, List.map_nil]); first | done | rfl | (simp only [List.length_drop, List.length_take]; rfl)) ?_; (with_reducible refine (unit_Count.calls a0 t252 _ A5.out).mono ?_); rintro e w7 ⟨rfl, hb⟩; refine ⟨_, rfl, ?_⟩; have n0_ := Aside0.mk (below_step (by repeat (first | (with_reducible first | exact HB.out | apply below_alloc | apply pw_below_drewN | apply below_drew1) | exact HB.out)) hb); clear HB; have HB := n0_; clear n0_; (try clear hb); (try clear hb2); (try clear hk); (try clear hi)))
    go_loopg [5, 14] k (fun kq v5 v14 w' => ∃ (x5_1 : Int) (x14_1 : Int), v5 = .int .i64 x5_1 ∧ v14 = .int .i64 x14_1 ∧ Aside0 (bodkinlaw01_UnitSteps.l0 kq a0 a1 x5_1 t252 x14_1 = some r) ∧ Aside0 (kq ≤ k) ∧ Aside0 (Below w.heap.size w w'))
    case atStart => exact ⟨(0), (0), (by first | rfl | (simp; done) | (simp [*]; done)), (by first | rfl | (simp; done) | (simp [*]; done)), H', ⟨Nat.le_refl _⟩, ⟨by repeat (first | (with_reducible first | exact HB.out | apply below_alloc | apply pw_below_drewN | apply below_drew1) | exact HB.out)⟩⟩
    case round =>
      clear H'
      try clear c2
      try clear p2
      try clear c4
      obtain ⟨x5_1, x14_1, rfl, rfl, HA, HK1, HB⟩ := hrel
      cases gk with
      | zero => exact absurd HA.out (by simp [bodkinlaw01_UnitSteps.l0])
      | succ k1 =>
        have H := HA.out
        clear HA
        simp only [bodkinlaw01_UnitSteps.l0] at H
        by_cases c8 : x14_1 < t252
        · rw [if_pos c8] at H
          have c8b0 : decide (x14_1 < t252) = true := decide_eq_true c8
          clear c8
          replace H := Option.bind_eq_some_iff.mp H
          obtain ⟨t253, A90, H⟩ := H
          replace H : (if t253 ≤ x5_1 then (bodkinlaw01_UnitSteps.j1 k1 a0 a1 x5_1 t253 t252 x14_1 true) else (if t253 > (wrap64 (x5_1 + 4)) then (bodkinlaw01_UnitSteps.j1 k1 a0 a1 x5_1 t253 t252 x14_1 true) else ((unit_Prev.f k1 a0 t253).bind fun t254 => (if t254 = x5_1 then ((unit_Boundary.f k1 a0 t253).bind fun t255 => (bodkinlaw01_UnitSteps.j1 k1 a0 a1 x5_1 t253 t252 x14_1 (!t255))) else (bodkinlaw01_UnitSteps.j1 k1 a0 a1 x5_1 t253 t252 x14_1 true))))) = some r := H
          have A9 := Aside0.mk A90
          clear A90
          have HC10 := Aside0.mk H
          clear H
          go_upto_region 7 with (first | ((with_reducible refine gate_callee (f := 32) rfl ?_); refine goesL_ (some 18) rfl rfl Tryd.func32 (by kernel_rfl) rfl #[.string a0, .int .i64 x5_1] rfl (by (try simp only [List.map_toArray, List.map_cons, List.map_nil]); first | done | rfl | (simp only [List.length_drop, List.length_take]; rfl)) ?_; (with_reducible refine (unit_Next.calls k1 a0 x5_1 t253 _ ?side1 A9.out).mono ?_); (case side1 => exact tabs_below HT.out (by repeat (first | (with_reducible first | exact HB.out | apply below_alloc | apply pw_below_drewN | apply below_drew1) | exact HB.out))); rintro e w11 ⟨rfl, hb⟩; refine ⟨_, rfl, ?_⟩; have n0_ := Aside0.mk (below_step (by repeat (first | (with_reducible first | exact HB.out | apply below_alloc | apply pw_below_drewN | apply below_drew1) | exact HB.out)) hb); clear HB; have HB := n0_; clear n0_; (try clear hb); (try clear hb2); (try clear hk); (try clear hi)))
          (try simp only [Act.put, List.setIfInBounds_toArray, List.set_cons_zero, List.set_cons_succ])
          go_cut [40] (fun v40 wc => ∃ (kq : Nat) (x40_9 : Bool), v40 = .bool x40_9 ∧ Aside0 (bodkinlaw01_UnitSteps.j1 kq a0 a1 x5_1 t253 t252 x14_1 x40_9 = some r) ∧ Aside0 (kq ≤ k1) ∧ Aside0 (Below w.heap.size w wc))
          case first =>
            have H := HC10.out
            clear HC10
            by_cases c12 : t253 ≤ x5_1
            · rw [if_pos c12] at H
              have c12b0 : decide (t253 ≤ x5_1) = true := decide_eq_true c12
              clear c12
              (first | rw [c12b0] | (simp only [i64_w, i32_w]; rw [c12b0]) | skip)
              have H' := Aside0.mk H
              clear H
              go_wp2
              go_meet
              case rel => exact ⟨_, (true), (by first | rfl | (simp; done) | (simp [*]; done)), H', ⟨by have := HK1.out; first | omega | exact Nat.le_refl _⟩, ⟨by repeat (first | (with_reducible first | exact HB.out | apply below_alloc | apply pw_below_drewN | apply below_drew1) | exact HB.out)⟩⟩
            · rw [if_neg c12] at H
              have c12b0 : decide (t253 ≤ x5_1) = false := decide_eq_false c12
              clear c12
              (first | rw [c12b0] | (simp only [i64_w, i32_w]; rw [c12b0]) | skip)
              by_cases c13 : t253 > (wrap64 (x5_1 + 4))
              · rw [if_pos c13] at H
                have c13b0 : decide ((wrap64 (x5_1 + 4)) < t253) = true := decide_eq_true c13
                clear c13
                have H' := Aside0.mk H
                clear H
                go_wp2
                go_meet
                case rel => exact ⟨_, (true), (by first | rfl | (simp; done) | (simp [*]; done)), H', ⟨by have := HK1.out; first | omega | exact Nat.le_refl _⟩, ⟨by repeat (first | (with_reducible first | exact HB.out | apply below_alloc | apply pw_below_drewN | apply below_drew1) | exact HB.out)⟩⟩
              · rw [if_neg c13] at H
                have c13b0 : decide ((wrap64 (x5_1 + 4)) < t253) = false := decide_eq_false c13
                clear c13
                replace H := Option.bind_eq_some_iff.mp H
                obtain ⟨t254, A140, H⟩ := H
                replace H : (if t254 = x5_1 then ((unit_Boundary.f k1 a0 t253).bind fun t255 => (bodkinlaw01_UnitSteps.j1 k1 a0 a1 x5_1 t253 t252 x14_1 (!t255))) else (bodkinlaw01_UnitSteps.j1 k1 a0 a1 x5_1 t253 t252 x14_1 true)) = some r := H
                have A14 := Aside0.mk A140
                clear A140
                by_cases c15 : t254 = x5_1
                · rw [if_pos c15] at H
                  have c15b0 : (t254 == x5_1) = true := beq_iff_eq.mpr c15
                  have c15b1 : (t254 != x5_1) = false := bne_eq_false_iff_eq.mpr c15
                  clear c15
                  replace H := Option.bind_eq_some_iff.mp H
                  obtain ⟨t255, A160, H⟩ := H
                  replace H : (bodkinlaw01_UnitSteps.j1 k1 a0 a1 x5_1 t253 t252 x14_1 (!t255)) = some r := H
                  have A16 := Aside0.mk A160
                  clear A160
                  have H' := Aside0.mk H
                  clear H
                  go_wp2_with (first | (go_at_call 33; (with_reducible refine (unit_Prev.calls k1 a0 t253 t254 _ ?side1 A14.out).mono ?_); (case side1 => exact tabs_below HT.out (by repeat (first | (with_reducible first | exact HB.out | apply below_alloc | apply pw_below_drewN | apply below_drew1) | exact HB.out))); rintro e w17 ⟨rfl, hb⟩; have n0_ := Aside0.mk (below_step (by repeat (first | (with_reducible first | exact HB.out | apply below_alloc | apply pw_below_drewN | apply below_drew1) | exact HB.out)) hb); clear HB; have HB := n0_; clear n0_; (try clear hb); (try clear hb2); (try clear hk); (try clear hi)) | (go_at_call 22; (with_reducible refine (unit_Boundary.calls k1 a0 t253 t255 _ ?side1 A16.out).mono ?_); (case side1 => exact tabs_below HT.out (by repeat (first | (with_reducible first | exact HB.out | apply below_alloc | apply pw_below_drewN | apply below_drew1) | exact HB.out))); rintro e w18 ⟨rfl, hb⟩; have n0_ := Aside0.mk (below_step (by repeat (first | (with_reducible first | exact HB.out | apply below_alloc | apply pw_below_drewN | apply below_drew1) | exact HB.out)) hb); clear HB; have HB := n0_; clear n0_; (try clear hb); (try clear hb2); (try clear hk); (try clear hi)))
                  go_meet
                  case rel => exact ⟨_, (!t255), (by first | rfl | (simp; done) | (simp [*]; done)), H', ⟨by have := HK1.out; first | omega | exact Nat.le_refl _⟩, ⟨by repeat (first | (with_reducible first | exact HB.out | apply below_alloc | apply pw_below_drewN | apply below_drew1) | exact HB.out)⟩⟩
                · rw [if_neg c15] at H
                  have c15b0 : (t254 == x5_1) = false := beq_eq_false_iff_ne.mpr c15
                  have c15b1 : (t254 != x5_1) = true := bne_iff_ne.mpr c15
                  have H' := Aside0.mk H
                  clear H
                  go_wp2_with (first | (go_at_call 33; (with_reducible refine (unit_Prev.calls k1 a0 t253 t254 _ ?side1 A14.out).mono ?_); (case side1 => exact tabs_below HT.out (by repeat (first | (with_reducible first | exact HB.out | apply below_alloc | apply pw_below_drewN | apply below_drew1) | exact HB.out))); rintro e w19 ⟨rfl, hb⟩; have n0_ := Aside0.mk (below_step (by repeat (first | (with_reducible first | exact HB.out | apply below_alloc | apply pw_below_drewN | apply below_drew1) | exact HB.out)) hb); clear HB; have HB := n0_; clear n0_; (try clear hb); (try clear hb2); (try clear hk); (try clear hi)))
                  go_meet
                  case rel => exact ⟨_, (true), (by first | rfl | (simp; done) | (simp [*]; done)), H', ⟨by have := HK1.out; first | omega | exact Nat.le_refl _⟩, ⟨by repeat (first | (with_reducible first | exact HB.out | apply below_alloc | apply pw_below_drewN | apply below_drew1) | exact HB.out)⟩⟩
          case rest =>
            clear HC10
            try clear c1
            try clear c2
            try clear p2
            try clear c3
            try clear c4
            try clear p6
            try clear c8
            try clear c8b0
            try clear c12
            try clear c12b0
            try clear c13
            try clear c13b0
            try clear c15
            try clear c15b0
            try clear c15b1
            try clear p2
            obtain ⟨kq, x40_9, rfl, HA, HJ9, HB⟩ := hcut
            cases kq with
            | zero => exact absurd HA.out (by simp [bodkinlaw01_UnitSteps.j1])
            | succ kj9 =>
              have H := HA.out
              clear HA
              simp only [bodkinlaw01_UnitSteps.j1] at H
              by_cases c20 : x40_9 = true
              · subst c20
                have H1 : (some false) = some r := by rw [if_pos rfl] at H; exact H
                clear H
                have H := H1
                clear H1
                obtain rfl := Option.some.inj H
                go_wp2
                go_ret
                exact ⟨by first | rfl | (simp [errW_none, errW_some] <;> rfl) | (simp [*, errW_none, errW_some] <;> rfl), by repeat (first | (with_reducible first | exact HB.out | apply below_alloc | apply pw_below_drewN | apply below_drew1) | exact HB.out)⟩
              · replace c20 := Bool.eq_false_iff.mpr c20
                subst c20
                have H1 : (bodkinlaw01_UnitSteps.l1 kj9 a0 a1 x5_1 t253 (wrap64 (x5_1 + 1)) t252 x14_1) = some r := by rw [if_neg (show ¬ (false = true) by decide)] at H; exact H
                clear H
                have H := H1
                clear H1
                have H' := Aside0.mk H
                clear H
                go_wp2
                go_loopg [7] kj9 (fun kq v7 w' => ∃ (x7_3 : Int), v7 = .int .i64 x7_3 ∧ Aside0 (bodkinlaw01_UnitSteps.l1 kq a0 a1 x5_1 t253 x7_3 t252 x14_1 = some r) ∧ Aside0 (kq ≤ kj9) ∧ Aside0 (Below w.heap.size w w'))
                case atStart => exact ⟨(wrap64 (x5_1 + 1)), (by first | rfl | (simp; done) | (simp [*]; done)), H', ⟨Nat.le_refl _⟩, ⟨by repeat (first | (with_reducible first | exact HB.out | apply below_alloc | apply pw_below_drewN | apply below_drew1) | exact HB.out)⟩⟩
                case round =>
                  clear H'
                  try clear c1
                  try clear c2
                  try clear p2
                  try clear c3
                  try clear c4
                  try clear p6
                  try clear c8
                  try clear c8b0
                  try clear c12
                  try clear c12b0
                  try clear c13
                  try clear c13b0
                  try clear c15
                  try clear c15b0
                  try clear c15b1
                  try clear c20
                  try clear p2
                  try clear p6
                  obtain ⟨x7_3, rfl, HA, HK3, HB⟩ := hrel
                  cases gk with
                  | zero => exact absurd HA.out (by simp [bodkinlaw01_UnitSteps.l1])
                  | succ k3 =>
                    have H := HA.out
                    clear HA
                    simp only [bodkinlaw01_UnitSteps.l1] at H
                    by_cases c21 : x7_3 < t253
                    · rw [if_pos c21] at H
                      have c21b0 : decide (x7_3 < t253) = true := decide_eq_true c21
                      clear c21
                      replace H := Option.bind_eq_some_iff.mp H
                      obtain ⟨t256, A220, H⟩ := H
                      replace H : (if t256 = true then (some false) else ((unit_Down.f k3 a0 x7_3).bind fun t257 => (if t257 = x5_1 then ((unit_Up.f k3 a0 x7_3).bind fun t258 => (if t258 = t253 then ((unit_Prev.f k3 a0 x7_3).bind fun t259 => (if t259 = x5_1 then ((unit_Next.f k3 a0 x7_3).bind fun t260 => (if t260 = t253 then (bodkinlaw01_UnitSteps.l1 k3 a0 a1 x5_1 t253 (wrap64 (x7_3 + 1)) t252 x14_1) else (some false))) else (some false))) else (some false))) else (some false)))) = some r := H
                      have A22 := Aside0.mk A220
                      clear A220
                      by_cases c23 : t256 = true
                      · subst c23
                        have H1 : (some false) = some r := by rw [if_pos rfl] at H; exact H
                        clear H
                        have H := H1
                        clear H1
                        obtain rfl := Option.some.inj H
                        go_wp2_with (first | ((with_reducible refine gate_callee (f := 22) rfl ?_); refine goesL_ (some 50) rfl rfl Tryd.func22 (by kernel_rfl) rfl #[.string a0, .int .i64 x7_3] rfl (by (try simp only [List.map_toArray, List.map_cons, List.map_nil]); first | done | rfl | (simp only [List.length_drop, List.length_take]; rfl)) ?_; (with_reducible refine (unit_Boundary.calls k3 a0 x7_3 true _ ?side1 A22.out).mono ?_); (case side1 => exact tabs_below HT.out (by repeat (first | (with_reducible first | exact HB.out | apply below_alloc | apply pw_below_drewN | apply below_drew1) | exact HB.out))); rintro e w24 ⟨rfl, hb⟩; refine ⟨_, rfl, ?_⟩; have n0_ := Aside0.mk (below_step (by repeat (first | (with_reducible first | exact HB.out | apply below_alloc | apply pw_below_drewN | apply below_drew1) | exact HB.out)) hb); clear HB; have HB := n0_; clear n0_; (try clear hb); (try clear hb2); (try clear hk); (try clear hi)))
                        go_ret
                        exact ⟨by first | rfl | (simp [errW_none, errW_some] <;> rfl) | (simp [*, errW_none, errW_some] <;> rfl), by repeat (first | (with_reducible first | exact HB.out | apply below_alloc | apply pw_below_drewN | apply below_drew1) | exact HB.out)⟩
                      · replace c23 := Bool.eq_false_iff.mpr c23
                        subst c23
                        have H1 : ((unit_Down.f k3 a0 x7_3).bind fun t257 => (if t257 = x5_1 then ((unit_Up.f k3 a0 x7_3).bind fun t258 => (if t258 = t253 then ((unit_Prev.f k3 a0 x7_3).bind fun t259 => (if t259 = x5_1 then ((unit_Next.f k3 a0 x7_3).bind fun t260 => (if t260 = t253 then (bodkinlaw01_UnitSteps.l1 k3 a0 a1 x5_1 t253 (wrap64 (x7_3 + 1)) t252 x14_1) else (some false))) else (some false))) else (some false))) else (some false))) = some r := by rw [if_neg (show ¬ (false = true) by decide)] at H; exact H
                        clear H
                        have H := H1
                        clear H1
                        replace H := Option.bind_eq_some_iff.mp H
                        obtain ⟨t257, A250, H⟩ := H
                        replace H : (if t257 = x5_1 then ((unit_Up.f k3 a0 x7_3).bind fun t258 => (if t258 = t253 then ((unit_Prev.f k3 a0 x7_3).bind fun t259 => (if t259 = x5_1 then ((unit_Next.f k3 a0 x7_3).bind fun t260 => (if t260 = t253 then (bodkinlaw01_UnitSteps.l1 k3 a0 a1 x5_1 t253 (wrap64 (x7_3 + 1)) t252 x14_1) else (some false))) else (some false))) else (some false))) else (some false)) = some r := H
                        have A25 := Aside0.mk A250
                        clear A250
                        by_cases c26 : t257 = x5_1
                        · rw [if_pos c26] at H
                          have c26b0 : (t257 == x5_1) = true := beq_iff_eq.mpr c26
                          have c26b1 : (t257 != x5_1) = false := bne_eq_false_iff_eq.mpr c26
                          clear c26
                          replace H := Option.bind_eq_some_iff.mp H
                          obtain ⟨t258, A270, H⟩ := H
                          replace H : (if t258 = t253 then ((unit_Prev.f k3 a0 x7_3).bind fun t259 => (if t259 = x5_1 then ((unit_Next.f k3 a0 x7_3).bind fun t260 => (if t260 = t253 then (bodkinlaw01_UnitSteps.l1 k3 a0 a1 x5_1 t253 (wrap64 (x7_3 + 1)) t252 x14_1) else (some false))) else (some false))) else (some false)) = some r := H
                          have A27 := Aside0.mk A270
                          clear A270
                          by_cases c28 : t258 = t253
                          · rw [if_pos c28] at H
                            have c28b0 : (t258 == t253) = true := beq_iff_eq.mpr c28
                            have c28b1 : (t258 != t253) = false := bne_eq_false_iff_eq.mpr c28
                            clear c28
                            replace H := Option.bind_eq_some_iff.mp H
                            obtain ⟨t259, A290, H⟩ := H
                            replace H : (if t259 = x5_1 then ((unit_Next.f k3 a0 x7_3).bind fun t260 => (if t260 = t253 then (bodkinlaw01_UnitSteps.l1 k3 a0 a1 x5_1 t253 (wrap64 (x7_3 + 1)) t252 x14_1) else (some false))) else (some false)) = some r := H
                            have A29 := Aside0.mk A290
                            clear A290
                            by_cases c30 : t259 = x5_1
                            · rw [if_pos c30] at H
                              have c30b0 : (t259 == x5_1) = true := beq_iff_eq.mpr c30
                              have c30b1 : (t259 != x5_1) = false := bne_eq_false_iff_eq.mpr c30
                              clear c30
                              replace H := Option.bind_eq_some_iff.mp H
                              obtain ⟨t260, A310, H⟩ := H
                              replace H : (if t260 = t253 then (bodkinlaw01_UnitSteps.l1 k3 a0 a1 x5_1 t253 (wrap64 (x7_3 + 1)) t252 x14_1) else (some false)) = some r := H
                              have A31 := Aside0.mk A310
                              clear A310
                              by_cases c32 : t260 = t253
                              · rw [if_pos c32] at H
                                have c32b0 : (t260 == t253) = true := beq_iff_eq.mpr c32
                                have c32b1 : (t260 != t253) = false := bne_eq_false_iff_eq.mpr c32
                                clear c32
                                have H' := Aside0.mk H
                                clear H
                                go_wp2_with (first | ((with_reducible refine gate_callee (f := 22) rfl ?_); refine goesL_ (some 50) rfl rfl Tryd.func22 (by kernel_rfl) rfl #[.string a0, .int .i64 x7_3] rfl (by (try simp only [List.map_toArray, List.map_cons, List.map_nil]); first | done | rfl | (simp only [List.length_drop, List.length_take]; rfl)) ?_; (with_reducible refine (unit_Boundary.calls k3 a0 x7_3 false _ ?side1 A22.out).mono ?_); (case side1 => exact tabs_below HT.out (by repeat (first | (with_reducible first | exact HB.out | apply below_alloc | apply pw_below_drewN | apply below_drew1) | exact HB.out))); rintro e w33 ⟨rfl, hb⟩; refine ⟨_, rfl, ?_⟩; have n0_ := Aside0.mk (below_step (by repeat (first | (with_reducible first | exact HB.out | apply below_alloc | apply pw_below_drewN | apply below_drew1) | exact HB.out)) hb); clear HB; have HB := n0_; clear n0_; (try clear hb); (try clear hb2); (try clear hk); (try clear hi)) | (go_at_call 26; (with_reducible refine (unit_Down.calls k3 a0 x7_3 t257 _ ?side1 A25.out).mono ?_); (case side1 => exact tabs_below HT.out (by repeat (first | (with_reducible first | exact HB.out | apply below_alloc | apply pw_below_drewN | apply below_drew1) | exact HB.out))); rintro e w34 ⟨rfl, hb⟩; have n0_ := Aside0.mk (below_step (by repeat (first | (with_reducible first | exact HB.out | apply below_alloc | apply pw_below_drewN | apply below_drew1) | exact HB.out)) hb); clear HB; have HB := n0_; clear n0_; (try clear hb); (try clear hb2); (try clear hk); (try clear hi)) | (go_at_call 27; (with_reducible refine (unit_Up.calls k3 a0 x7_3 t258 _ ?side1 A27.out).mono ?_); (case side1 => exact tabs_below HT.out (by repeat (first | (with_reducible first | exact HB.out | apply below_alloc | apply pw_below_drewN | apply below_drew1) | exact HB.out))); rintro e w35 ⟨rfl, hb⟩; have n0_ := Aside0.mk (below_step (by repeat (first | (with_reducible first | exact HB.out | apply below_alloc | apply pw_below_drewN | apply below_drew1) | exact HB.out)) hb); clear HB; have HB := n0_; clear n0_; (try clear hb); (try clear hb2); (try clear hk); (try clear hi)) | (go_at_call 33; (with_reducible refine (unit_Prev.calls k3 a0 x7_3 t259 _ ?side1 A29.out).mono ?_); (case side1 => exact tabs_below HT.out (by repeat (first | (with_reducible first | exact HB.out | apply below_alloc | apply pw_below_drewN | apply below_drew1) | exact HB.out))); rintro e w36 ⟨rfl, hb⟩; have n0_ := Aside0.mk (below_step (by repeat (first | (with_reducible first | exact HB.out | apply below_alloc | apply pw_below_drewN | apply below_drew1) | exact HB.out)) hb); clear HB; have HB := n0_; clear n0_; (try clear hb); (try clear hb2); (try clear hk); (try clear hi)) | (go_at_call 32; (with_reducible refine (unit_Next.calls k3 a0 x7_3 t260 _ ?side1 A31.out).mono ?_); (case side1 => exact tabs_below HT.out (by repeat (first | (with_reducible first | exact HB.out | apply below_alloc | apply pw_below_drewN | apply below_drew1) | exact HB.out))); rintro e w37 ⟨rfl, hb⟩; have n0_ := Aside0.mk (below_step (by repeat (first | (with_reducible first | exact HB.out | apply below_alloc | apply pw_below_drewN | apply below_drew1) | exact HB.out)) hb); clear HB; have HB := n0_; clear n0_; (try clear hb); (try clear hb2); (try clear hk); (try clear hi)))
                                go_roundg k3
                                case measure => have := HK1.out; have := HJ9.out; have := HK3.out; omega
                                case rel => exact ⟨(wrap64 (x7_3 + 1)), (by first | rfl | (simp; done) | (simp [*]; done)), H', ⟨by have := HK1.out; have := HJ9.out; have := HK3.out; omega⟩, ⟨by repeat (first | (with_reducible first | exact HB.out | apply below_alloc | apply pw_below_drewN | apply below_drew1) | exact HB.out)⟩⟩
                              · rw [if_neg c32] at H
                                have c32b0 : (t260 == t253) = false := beq_eq_false_iff_ne.mpr c32
                                have c32b1 : (t260 != t253) = true := bne_iff_ne.mpr c32
                                obtain rfl := Option.some.inj H
                                go_wp2_with (first | ((with_reducible refine gate_callee (f := 22) rfl ?_); refine goesL_ (some 50) rfl rfl Tryd.func22 (by kernel_rfl) rfl #[.string a0, .int .i64 x7_3] rfl (by (try simp only [List.map_toArray, List.map_cons, List.map_nil]); first | done | rfl | (simp only [List.length_drop, List.length_take]; rfl)) ?_; (with_reducible refine (unit_Boundary.calls k3 a0 x7_3 false _ ?side1 A22.out).mono ?_); (case side1 => exact tabs_below HT.out (by repeat (first | (with_reducible first | exact HB.out | apply below_alloc | apply pw_below_drewN | apply below_drew1) | exact HB.out))); rintro e w38 ⟨rfl, hb⟩; refine ⟨_, rfl, ?_⟩; have n0_ := Aside0.mk (below_step (by repeat (first | (with_reducible first | exact HB.out | apply below_alloc | apply pw_below_drewN | apply below_drew1) | exact HB.out)) hb); clear HB; have HB := n0_; clear n0_; (try clear hb); (try clear hb2); (try clear hk); (try clear hi)) | (go_at_call 26; (with_reducible refine (unit_Down.calls k3 a0 x7_3 t257 _ ?side1 A25.out).mono ?_); (case side1 => exact tabs_below HT.out (by repeat (first | (with_reducible first | exact HB.out | apply below_alloc | apply pw_below_drewN | apply below_drew1) | exact HB.out))); rintro e w39 ⟨rfl, hb⟩; have n0_ := Aside0.mk (below_step (by repeat (first | (with_reducible first | exact HB.out | apply below_alloc | apply pw_below_drewN | apply below_drew1) | exact HB.out)) hb); clear HB; have HB := n0_; clear n0_; (try clear hb); (try clear hb2); (try clear hk); (try clear hi)) | (go_at_call 27; (with_reducible refine (unit_Up.calls k3 a0 x7_3 t258 _ ?side1 A27.out).mono ?_); (case side1 => exact tabs_below HT.out (by repeat (first | (with_reducible first | exact HB.out | apply below_alloc | apply pw_below_drewN | apply below_drew1) | exact HB.out))); rintro e w40 ⟨rfl, hb⟩; have n0_ := Aside0.mk (below_step (by repeat (first | (with_reducible first | exact HB.out | apply below_alloc | apply pw_below_drewN | apply below_drew1) | exact HB.out)) hb); clear HB; have HB := n0_; clear n0_; (try clear hb); (try clear hb2); (try clear hk); (try clear hi)) | (go_at_call 33; (with_reducible refine (unit_Prev.calls k3 a0 x7_3 t259 _ ?side1 A29.out).mono ?_); (case side1 => exact tabs_below HT.out (by repeat (first | (with_reducible first | exact HB.out | apply below_alloc | apply pw_below_drewN | apply below_drew1) | exact HB.out))); rintro e w41 ⟨rfl, hb⟩; have n0_ := Aside0.mk (below_step (by repeat (first | (with_reducible first | exact HB.out | apply below_alloc | apply pw_below_drewN | apply below_drew1) | exact HB.out)) hb); clear HB; have HB := n0_; clear n0_; (try clear hb); (try clear hb2); (try clear hk); (try clear hi)) | (go_at_call 32; (with_reducible refine (unit_Next.calls k3 a0 x7_3 t260 _ ?side1 A31.out).mono ?_); (case side1 => exact tabs_below HT.out (by repeat (first | (with_reducible first | exact HB.out | apply below_alloc | apply pw_below_drewN | apply below_drew1) | exact HB.out))); rintro e w42 ⟨rfl, hb⟩; have n0_ := Aside0.mk (below_step (by repeat (first | (with_reducible first | exact HB.out | apply below_alloc | apply pw_below_drewN | apply below_drew1) | exact HB.out)) hb); clear HB; have HB := n0_; clear n0_; (try clear hb); (try clear hb2); (try clear hk); (try clear hi)))
                                go_ret
                                exact ⟨by first | rfl | (simp [errW_none, errW_some] <;> rfl) | (simp [*, errW_none, errW_some] <;> rfl), by repeat (first | (with_reducible first | exact HB.out | apply below_alloc | apply pw_below_drewN | apply below_drew1) | exact HB.out)⟩
                            · rw [if_neg c30] at H
                              have c30b0 : (t259 == x5_1) = false := beq_eq_false_iff_ne.mpr c30
                              have c30b1 : (t259 != x5_1) = true := bne_iff_ne.mpr c30
                              obtain rfl := Option.some.inj H
                              go_wp2_with (first | ((with_reducible refine gate_callee (f := 22) rfl ?_); refine goesL_ (some 50) rfl rfl Tryd.func22 (by kernel_rfl) rfl #[.string a0, .int .i64 x7_3] rfl (by (try simp only [List.map_toArray, List.map_cons, List.map_nil]); first | done | rfl | (simp only [List.length_drop, List.length_take]; rfl)) ?_; (with_reducible refine (unit_Boundary.calls k3 a0 x7_3 false _ ?side1 A22.out).mono ?_); (case side1 => exact tabs_below HT.out (by repeat (first | (with_reducible first | exact HB.out | apply below_alloc | apply pw_below_drewN | apply below_drew1) | exact HB.out))); rintro e w43 ⟨rfl, hb⟩; refine ⟨_, rfl, ?_⟩; have n0_ := Aside0.mk (below_step (by repeat (first | (with_reducible first | exact HB.out | apply below_alloc | apply pw_below_drewN | apply below_drew1) | exact HB.out)) hb); clear HB; have HB := n0_; clear n0_; (try clear hb); (try clear hb2); (try clear hk); (try clear hi)) | (go_at_call 26; (with_reducible refine (unit_Down.calls k3 a0 x7_3 t257 _ ?side1 A25.out).mono ?_); (case side1 => exact tabs_below HT.out (by repeat (first | (with_reducible first | exact HB.out | apply below_alloc | apply pw_below_drewN | apply below_drew1) | exact HB.out))); rintro e w44 ⟨rfl, hb⟩; have n0_ := Aside0.mk (below_step (by repeat (first | (with_reducible first | exact HB.out | apply below_alloc | apply pw_below_drewN | apply below_drew1) | exact HB.out)) hb); clear HB; have HB := n0_; clear n0_; (try clear hb); (try clear hb2); (try clear hk); (try clear hi)) | (go_at_call 27; (with_reducible refine (unit_Up.calls k3 a0 x7_3 t258 _ ?side1 A27.out).mono ?_); (case side1 => exact tabs_below HT.out (by repeat (first | (with_reducible first | exact HB.out | apply below_alloc | apply pw_below_drewN | apply below_drew1) | exact HB.out))); rintro e w45 ⟨rfl, hb⟩; have n0_ := Aside0.mk (below_step (by repeat (first | (with_reducible first | exact HB.out | apply below_alloc | apply pw_below_drewN | apply below_drew1) | exact HB.out)) hb); clear HB; have HB := n0_; clear n0_; (try clear hb); (try clear hb2); (try clear hk); (try clear hi)) | (go_at_call 33; (with_reducible refine (unit_Prev.calls k3 a0 x7_3 t259 _ ?side1 A29.out).mono ?_); (case side1 => exact tabs_below HT.out (by repeat (first | (with_reducible first | exact HB.out | apply below_alloc | apply pw_below_drewN | apply below_drew1) | exact HB.out))); rintro e w46 ⟨rfl, hb⟩; have n0_ := Aside0.mk (below_step (by repeat (first | (with_reducible first | exact HB.out | apply below_alloc | apply pw_below_drewN | apply below_drew1) | exact HB.out)) hb); clear HB; have HB := n0_; clear n0_; (try clear hb); (try clear hb2); (try clear hk); (try clear hi)))
                              go_ret
                              exact ⟨by first | rfl | (simp [errW_none, errW_some] <;> rfl) | (simp [*, errW_none, errW_some] <;> rfl), by repeat (first | (with_reducible first | exact HB.out | apply below_alloc | apply pw_below_drewN | apply below_drew1) | exact HB.out)⟩
                          · rw [if_neg c28] at H
                            have c28b0 : (t258 == t253) = false := beq_eq_false_iff_ne.mpr c28
                            have c28b1 : (t258 != t253) = true := bne_iff_ne.mpr c28
                            obtain rfl := Option.some.inj H
                            go_wp2_with (first | ((with_reducible refine gate_callee (f := 22) rfl ?_); refine goesL_ (some 50) rfl rfl Tryd.func22 (by kernel_rfl) rfl #[.string a0, .int .i64 x7_3] rfl (by (try simp only [List.map_toArray, List.map_cons, List.map_nil]); first | done | rfl | (simp only [List.length_drop, List.length_take]; rfl)) ?_; (with_reducible refine (unit_Boundary.calls k3 a0 x7_3 false _ ?side1 A22.out).mono ?_); (case side1 => exact tabs_below HT.out (by repeat (first | (with_reducible first | exact HB.out | apply below_alloc | apply pw_below_drewN | apply below_drew1) | exact HB.out))); rintro e w47 ⟨rfl, hb⟩; refine ⟨_, rfl, ?_⟩; have n0_ := Aside0.mk (below_step (by repeat (first | (with_reducible first | exact HB.out | apply below_alloc | apply pw_below_drewN | apply below_drew1) | exact HB.out)) hb); clear HB; have HB := n0_; clear n0_; (try clear hb); (try clear hb2); (try clear hk); (try clear hi)) | (go_at_call 26; (with_reducible refine (unit_Down.calls k3 a0 x7_3 t257 _ ?side1 A25.out).mono ?_); (case side1 => exact tabs_below HT.out (by repeat (first | (with_reducible first | exact HB.out | apply below_alloc | apply pw_below_drewN | apply below_drew1) | exact HB.out))); rintro e w48 ⟨rfl, hb⟩; have n0_ := Aside0.mk (below_step (by repeat (first | (with_reducible first | exact HB.out | apply below_alloc | apply pw_below_drewN | apply below_drew1) | exact HB.out)) hb); clear HB; have HB := n0_; clear n0_; (try clear hb); (try clear hb2); (try clear hk); (try clear hi)) | (go_at_call 27; (with_reducible refine (unit_Up.calls k3 a0 x7_3 t258 _ ?side1 A27.out).mono ?_); (case side1 => exact tabs_below HT.out (by repeat (first | (with_reducible first | exact HB.out | apply below_alloc | apply pw_below_drewN | apply below_drew1) | exact HB.out))); rintro e w49 ⟨rfl, hb⟩; have n0_ := Aside0.mk (below_step (by repeat (first | (with_reducible first | exact HB.out | apply below_alloc | apply pw_below_drewN | apply below_drew1) | exact HB.out)) hb); clear HB; have HB := n0_; clear n0_; (try clear hb); (try clear hb2); (try clear hk); (try clear hi)))
                            go_ret
                            exact ⟨by first | rfl | (simp [errW_none, errW_some] <;> rfl) | (simp [*, errW_none, errW_some] <;> rfl), by repeat (first | (with_reducible first | exact HB.out | apply below_alloc | apply pw_below_drewN | apply below_drew1) | exact HB.out)⟩
                        · rw [if_neg c26] at H
                          have c26b0 : (t257 == x5_1) = false := beq_eq_false_iff_ne.mpr c26
                          have c26b1 : (t257 != x5_1) = true := bne_iff_ne.mpr c26
                          obtain rfl := Option.some.inj H
                          go_wp2_with (first | ((with_reducible refine gate_callee (f := 22) rfl ?_); refine goesL_ (some 50) rfl rfl Tryd.func22 (by kernel_rfl) rfl #[.string a0, .int .i64 x7_3] rfl (by (try simp only [List.map_toArray, List.map_cons, List.map_nil]); first | done | rfl | (simp only [List.length_drop, List.length_take]; rfl)) ?_; (with_reducible refine (unit_Boundary.calls k3 a0 x7_3 false _ ?side1 A22.out).mono ?_); (case side1 => exact tabs_below HT.out (by repeat (first | (with_reducible first | exact HB.out | apply below_alloc | apply pw_below_drewN | apply below_drew1) | exact HB.out))); rintro e w50 ⟨rfl, hb⟩; refine ⟨_, rfl, ?_⟩; have n0_ := Aside0.mk (below_step (by repeat (first | (with_reducible first | exact HB.out | apply below_alloc | apply pw_below_drewN | apply below_drew1) | exact HB.out)) hb); clear HB; have HB := n0_; clear n0_; (try clear hb); (try clear hb2); (try clear hk); (try clear hi)) | (go_at_call 26; (with_reducible refine (unit_Down.calls k3 a0 x7_3 t257 _ ?side1 A25.out).mono ?_); (case side1 => exact tabs_below HT.out (by repeat (first | (with_reducible first | exact HB.out | apply below_alloc | apply pw_below_drewN | apply below_drew1) | exact HB.out))); rintro e w51 ⟨rfl, hb⟩; have n0_ := Aside0.mk (below_step (by repeat (first | (with_reducible first | exact HB.out | apply below_alloc | apply pw_below_drewN | apply below_drew1) | exact HB.out)) hb); clear HB; have HB := n0_; clear n0_; (try clear hb); (try clear hb2); (try clear hk); (try clear hi)))
                          go_ret
                          exact ⟨by first | rfl | (simp [errW_none, errW_some] <;> rfl) | (simp [*, errW_none, errW_some] <;> rfl), by repeat (first | (with_reducible first | exact HB.out | apply below_alloc | apply pw_below_drewN | apply below_drew1) | exact HB.out)⟩
                    · rw [if_neg c21] at H
                      have c21b0 : decide (x7_3 < t253) = false := decide_eq_false c21
                      clear c21
                      have H' := Aside0.mk H
                      clear H
                      go_wp2
                      go_roundg k3
                      case measure => have := HK1.out; have := HJ9.out; have := HK3.out; omega
                      case rel => exact ⟨(t253), (wrap64 (x14_1 + 1)), (by first | rfl | (simp; done) | (simp [*]; done)), (by first | rfl | (simp; done) | (simp [*]; done)), H', ⟨by have := HK1.out; have := HJ9.out; have := HK3.out; omega⟩, ⟨by repeat (first | (with_reducible first | exact HB.out | apply below_alloc | apply pw_below_drewN | apply below_drew1) | exact HB.out)⟩⟩
        · rw [if_neg c8] at H
          have c8b0 : decide (x14_1 < t252) = false := decide_eq_false c8
          clear c8
          have HC52 := Aside0.mk H
          clear H
          go_upto_region 16 with (fail)
          go_cut [96] (fun v96 wc => ∃ (kq : Nat) (x96_51 : Bool), v96 = .bool x96_51 ∧ Aside0 (bodkinlaw01_UnitSteps.j3 kq a0 a1 x96_51 = some r) ∧ Aside0 (kq ≤ k1) ∧ Aside0 (Below w.heap.size w wc))
          case first =>
            have H := HC52.out
            clear HC52
            by_cases c53 : x5_1 = (a0.size : Int)
            · rw [if_pos c53] at H
              have c53b0 : (x5_1 == (a0.size : Int)) = true := beq_iff_eq.mpr c53
              have c53b1 : (x5_1 != (a0.size : Int)) = false := bne_eq_false_iff_eq.mpr c53
              clear c53
              (first | rw [c53b0] | (simp only [i64_w, i32_w]; rw [c53b0]) | skip)
              replace H := Option.bind_eq_some_iff.mp H
              obtain ⟨t261, A540, H⟩ := H
              replace H : (if t261 = x5_1 then ((unit_Prev.f k1 a0 0).bind fun t262 => (bodkinlaw01_UnitSteps.j3 k1 a0 a1 (t262 != 0))) else (bodkinlaw01_UnitSteps.j3 k1 a0 a1 true)) = some r := H
              have A54 := Aside0.mk A540
              clear A540
              by_cases c55 : t261 = x5_1
              · rw [if_pos c55] at H
                have c55b0 : (t261 == x5_1) = true := beq_iff_eq.mpr c55
                have c55b1 : (t261 != x5_1) = false := bne_eq_false_iff_eq.mpr c55
                clear c55
                replace H := Option.bind_eq_some_iff.mp H
                obtain ⟨t262, A560, H⟩ := H
                replace H : (bodkinlaw01_UnitSteps.j3 k1 a0 a1 (t262 != 0)) = some r := H
                have A56 := Aside0.mk A560
                clear A560
                have H' := Aside0.mk H
                clear H
                go_wp2_with (first | (go_at_call 32; (with_reducible refine (unit_Next.calls k1 a0 x5_1 t261 _ ?side1 A54.out).mono ?_); (case side1 => exact tabs_below HT.out (by repeat (first | (with_reducible first | exact HB.out | apply below_alloc | apply pw_below_drewN | apply below_drew1) | exact HB.out))); rintro e w57 ⟨rfl, hb⟩; have n0_ := Aside0.mk (below_step (by repeat (first | (with_reducible first | exact HB.out | apply below_alloc | apply pw_below_drewN | apply below_drew1) | exact HB.out)) hb); clear HB; have HB := n0_; clear n0_; (try clear hb); (try clear hb2); (try clear hk); (try clear hi)) | (go_at_call 33; (with_reducible refine (unit_Prev.calls k1 a0 0 t262 _ ?side1 A56.out).mono ?_); (case side1 => exact tabs_below HT.out (by repeat (first | (with_reducible first | exact HB.out | apply below_alloc | apply pw_below_drewN | apply below_drew1) | exact HB.out))); rintro e w58 ⟨rfl, hb⟩; have n0_ := Aside0.mk (below_step (by repeat (first | (with_reducible first | exact HB.out | apply below_alloc | apply pw_below_drewN | apply below_drew1) | exact HB.out)) hb); clear HB; have HB := n0_; clear n0_; (try clear hb); (try clear hb2); (try clear hk); (try clear hi)))
                go_meet
                case rel => exact ⟨_, ((t262 != 0)), (by first | rfl | (simp; done) | (simp [*]; done)), H', ⟨by have := HK1.out; first | omega | exact Nat.le_refl _⟩, ⟨by repeat (first | (with_reducible first | exact HB.out | apply below_alloc | apply pw_below_drewN | apply below_drew1) | exact HB.out)⟩⟩
              · rw [if_neg c55] at H
                have c55b0 : (t261 == x5_1) = false := beq_eq_false_iff_ne.mpr c55
                have c55b1 : (t261 != x5_1) = true := bne_iff_ne.mpr c55
                have H' := Aside0.mk H
                clear H
                go_wp2_with (first | (go_at_call 32; (with_reducible refine (unit_Next.calls k1 a0 x5_1 t261 _ ?side1 A54.out).mono ?_); (case side1 => exact tabs_below HT.out (by repeat (first | (with_reducible first | exact HB.out | apply below_alloc | apply pw_below_drewN | apply below_drew1) | exact HB.out))); rintro e w59 ⟨rfl, hb⟩; have n0_ := Aside0.mk (below_step (by repeat (first | (with_reducible first | exact HB.out | apply below_alloc | apply pw_below_drewN | apply below_drew1) | exact HB.out)) hb); clear HB; have HB := n0_; clear n0_; (try clear hb); (try clear hb2); (try clear hk); (try clear hi)))
                go_meet
                case rel => exact ⟨_, (true), (by first | rfl | (simp; done) | (simp [*]; done)), H', ⟨by have := HK1.out; first | omega | exact Nat.le_refl _⟩, ⟨by repeat (first | (with_reducible first | exact HB.out | apply below_alloc | apply pw_below_drewN | apply below_drew1) | exact HB.out)⟩⟩
            · rw [if_neg c53] at H
              have c53b0 : (x5_1 == (a0.size : Int)) = false := beq_eq_false_iff_ne.mpr c53
              have c53b1 : (x5_1 != (a0.size : Int)) = true := bne_iff_ne.mpr c53
              (first | rw [c53b0] | (simp only [i64_w, i32_w]; rw [c53b0]) | skip)
              have H' := Aside0.mk H
              clear H
              go_wp2
              go_meet
              case rel => exact ⟨_, (true), (by first | rfl | (simp; done) | (simp [*]; done)), H', ⟨by have := HK1.out; first | omega | exact Nat.le_refl _⟩, ⟨by repeat (first | (with_reducible first | exact HB.out | apply below_alloc | apply pw_below_drewN | apply below_drew1) | exact HB.out)⟩⟩
          case rest =>
            clear HC52
            try clear c1
            try clear c2
            try clear p2
            try clear c3
            try clear c4
            try clear c5
            try clear p6
            try clear c8
            try clear c8b0
            try clear c12
            try clear c12b0
            try clear c13
            try clear c13b0
            try clear c15
            try clear c15b0
            try clear c15b1
            try clear c20
            try clear c21
            try clear c21b0
            try clear c22
            try clear c23
            try clear c26
            try clear c26b0
            try clear c26b1
            try clear c28
            try clear c28b0
            try clear c28b1
            try clear c29
            try clear c30
            try clear c30b0
            try clear c30b1
            try clear c32
            try clear c32b0
            try clear c32b1
            try clear c53
            try clear c53b0
            try clear c53b1
            try clear c55
            try clear c55b0
            try clear c55b1
            try clear p2
            try clear p6
            obtain ⟨kq, x96_51, rfl, HA, HJ51, HB⟩ := hcut
            cases kq with
            | zero => exact absurd HA.out (by simp [bodkinlaw01_UnitSteps.j3])
            | succ kj51 =>
              have H := HA.out
              clear HA
              simp only [bodkinlaw01_UnitSteps.j3] at H
              by_cases c60 : x96_51 = true
              · subst c60
                have H1 : (some false) = some r := by rw [if_pos rfl] at H; exact H
                clear H
                have H := H1
                clear H1
                obtain rfl := Option.some.inj H
                go_wp2
                go_ret
                exact ⟨by first | rfl | (simp [errW_none, errW_some] <;> rfl) | (simp [*, errW_none, errW_some] <;> rfl), by repeat (first | (with_reducible first | exact HB.out | apply below_alloc | apply pw_below_drewN | apply below_drew1) | exact HB.out)⟩
              · replace c60 := Bool.eq_false_iff.mpr c60
                subst c60
                have H1 : ((unit_Down.f kj51 a0 a1).bind fun t263 => ((unit_Up.f kj51 a0 a1).bind fun t264 => (if a1 ≥ 0 then (bodkinlaw01_UnitSteps.j4 kj51 a0 a1 t263 t264 (decide (a1 ≤ (a0.size : Int)))) else (bodkinlaw01_UnitSteps.j4 kj51 a0 a1 t263 t264 false)))) = some r := by rw [if_neg (show ¬ (false = true) by decide)] at H; exact H
                clear H
                have H := H1
                clear H1
                replace H := Option.bind_eq_some_iff.mp H
                obtain ⟨t263, A610, H⟩ := H
                replace H : ((unit_Up.f kj51 a0 a1).bind fun t264 => (if a1 ≥ 0 then (bodkinlaw01_UnitSteps.j4 kj51 a0 a1 t263 t264 (decide (a1 ≤ (a0.size : Int)))) else (bodkinlaw01_UnitSteps.j4 kj51 a0 a1 t263 t264 false))) = some r := H
                have A61 := Aside0.mk A610
                clear A610
                replace H := Option.bind_eq_some_iff.mp H
                obtain ⟨t264, A620, H⟩ := H
                replace H : (if a1 ≥ 0 then (bodkinlaw01_UnitSteps.j4 kj51 a0 a1 t263 t264 (decide (a1 ≤ (a0.size : Int)))) else (bodkinlaw01_UnitSteps.j4 kj51 a0 a1 t263 t264 false)) = some r := H
                have A62 := Aside0.mk A620
                clear A620
                have HC63 := Aside0.mk H
                clear H
                go_upto_region 19 with (first | ((with_reducible refine gate_callee (f := 26) rfl ?_); refine goesL_ (some 99) rfl rfl Tryd.func26 (by kernel_rfl) rfl #[.string a0, .int .i64 a1] rfl (by (try simp only [List.map_toArray, List.map_cons, List.map_nil]); first | done | rfl | (simp only [List.length_drop, List.length_take]; rfl)) ?_; (with_reducible refine (unit_Down.calls kj51 a0 a1 t263 _ ?side1 A61.out).mono ?_); (case side1 => exact tabs_below HT.out (by repeat (first | (with_reducible first | exact HB.out | apply below_alloc | apply pw_below_drewN | apply below_drew1) | exact HB.out))); rintro e w64 ⟨rfl, hb⟩; refine ⟨_, rfl, ?_⟩; have n0_ := Aside0.mk (below_step (by repeat (first | (with_reducible first | exact HB.out | apply below_alloc | apply pw_below_drewN | apply below_drew1) | exact HB.out)) hb); clear HB; have HB := n0_; clear n0_; (try clear hb); (try clear hb2); (try clear hk); (try clear hi)) | ((with_reducible refine gate_callee (f := 27) rfl ?_); refine goesL_ (some 102) rfl rfl Tryd.func27 (by kernel_rfl) rfl #[.string a0, .int .i64 a1] rfl (by (try simp only [List.map_toArray, List.map_cons, List.map_nil]); first | done | rfl | (simp only [List.length_drop, List.length_take]; rfl)) ?_; (with_reducible refine (unit_Up.calls kj51 a0 a1 t264 _ ?side1 A62.out).mono ?_); (case side1 => exact tabs_below HT.out (by repeat (first | (with_reducible first | exact HB.out | apply below_alloc | apply pw_below_drewN | apply below_drew1) | exact HB.out))); rintro e w65 ⟨rfl, hb⟩; refine ⟨_, rfl, ?_⟩; have n0_ := Aside0.mk (below_step (by repeat (first | (with_reducible first | exact HB.out | apply below_alloc | apply pw_below_drewN | apply below_drew1) | exact HB.out)) hb); clear HB; have HB := n0_; clear n0_; (try clear hb); (try clear hb2); (try clear hk); (try clear hi)))
                (try simp only [Act.put, List.setIfInBounds_toArray, List.set_cons_zero, List.set_cons_succ])
                go_cut [110] (fun v110 wc => ∃ (kq : Nat) (x110_62 : Bool), v110 = .bool x110_62 ∧ Aside0 (bodkinlaw01_UnitSteps.j4 kq a0 a1 t263 t264 x110_62 = some r) ∧ Aside0 (kq ≤ kj51) ∧ Aside0 (Below w.heap.size w wc))
                case first =>
                  have H := HC63.out
                  clear HC63
                  by_cases c66 : a1 ≥ 0
                  · rw [if_pos c66] at H
                    have c66b0 : decide (0 ≤ a1) = true := decide_eq_true c66
                    clear c66
                    (first | rw [c66b0] | (simp only [i64_w, i32_w]; rw [c66b0]) | skip)
                    have H' := Aside0.mk H
                    clear H
                    go_wp2
                    go_meet
                    case rel => exact ⟨_, (decide (a1 ≤ (a0.size : Int))), (by first | rfl | (simp; done) | (simp [*]; done)), H', ⟨by have := HK1.out; have := HJ51.out; first | omega | exact Nat.le_refl _⟩, ⟨by repeat (first | (with_reducible first | exact HB.out | apply below_alloc | apply pw_below_drewN | apply below_drew1) | exact HB.out)⟩⟩
                  · rw [if_neg c66] at H
                    have c66b0 : decide (0 ≤ a1) = false := decide_eq_false c66
                    clear c66
                    (first | rw [c66b0] | (simp only [i64_w, i32_w]; rw [c66b0]) | skip)
                    have H' := Aside0.mk H
                    clear H
                    go_wp2
                    go_meet
                    case rel => exact ⟨_, (false), (by first | rfl | (simp; done) | (simp [*]; done)), H', ⟨by have := HK1.out; have := HJ51.out; first | omega | exact Nat.le_refl _⟩, ⟨by repeat (first | (with_reducible first | exact HB.out | apply below_alloc | apply pw_below_drewN | apply below_drew1) | exact HB.out)⟩⟩
                case rest =>
                  clear HC63
                  try clear c1
                  try clear c2
                  try clear p2
                  try clear c3
                  try clear c4
                  try clear c5
                  try clear c6
                  try clear p6
                  try clear c8
                  try clear c8b0
                  try clear c12
                  try clear c12b0
                  try clear c13
                  try clear c13b0
                  try clear c15
                  try clear c15b0
                  try clear c15b1
                  try clear c20
                  try clear c21
                  try clear c21b0
                  try clear c22
                  try clear c23
                  try clear c26
                  try clear c26b0
                  try clear c26b1
                  try clear c27
                  try clear c28
                  try clear c28b0
                  try clear c28b1
                  try clear c29
                  try clear c30
                  try clear c30b0
                  try clear c30b1
                  try clear c32
                  try clear c32b0
                  try clear c32b1
                  try clear c53
                  try clear c53b0
                  try clear c53b1
                  try clear c55
                  try clear c55b0
                  try clear c55b1
                  try clear c60
                  try clear p64
                  try clear c66
                  try clear c66b0
                  try clear p2
                  try clear p6
                  obtain ⟨kq, x110_62, rfl, HA, HJ62, HB⟩ := hcut
                  cases kq with
                  | zero => exact absurd HA.out (by simp [bodkinlaw01_UnitSteps.j4])
                  | succ kj62 =>
                    have H := HA.out
                    clear HA
                    simp only [bodkinlaw01_UnitSteps.j4] at H
                    by_cases c67 : x110_62 = true
                    · subst c67
                      have H1 : (if t263 ≤ a1 then (if a1 ≤ t264 then ((unit_Boundary.f kj62 a0 a1).bind fun t265 => (if (t265 == (t263 == t264)) = true then ((unit_Down.f kj62 a0 t264).bind fun t266 => (if t266 = t264 then ((unit_Up.f kj62 a0 t263).bind fun t267 => (some (t267 == t263))) else (some false))) else (some false))) else (some false)) else (some false)) = some r := by rw [if_pos rfl] at H; exact H
                      clear H
                      have H := H1
                      clear H1
                      by_cases c68 : t263 ≤ a1
                      · rw [if_pos c68] at H
                        have c68b0 : decide (t263 ≤ a1) = true := decide_eq_true c68
                        clear c68
                        by_cases c69 : a1 ≤ t264
                        · rw [if_pos c69] at H
                          have c69b0 : decide (a1 ≤ t264) = true := decide_eq_true c69
                          clear c69
                          replace H := Option.bind_eq_some_iff.mp H
                          obtain ⟨t265, A700, H⟩ := H
                          replace H : (if (t265 == (t263 == t264)) = true then ((unit_Down.f kj62 a0 t264).bind fun t266 => (if t266 = t264 then ((unit_Up.f kj62 a0 t263).bind fun t267 => (some (t267 == t263))) else (some false))) else (some false)) = some r := H
                          have A70 := Aside0.mk A700
                          clear A700
                          by_cases c71 : (t265 == (t263 == t264)) = true
                          · rw [if_pos c71] at H
                            have c71b0 : (t265 == (t263 == t264)) = true := c71
                            (try (have c71b1 : decide (t265 = (t263 == t264)) = true := by simpa using c71))
                            (try (have c71b2 : (t265 == (t263 == t264)) = true := by simpa using c71))
                            clear c71
                            replace H := Option.bind_eq_some_iff.mp H
                            obtain ⟨t266, A720, H⟩ := H
                            replace H : (if t266 = t264 then ((unit_Up.f kj62 a0 t263).bind fun t267 => (some (t267 == t263))) else (some false)) = some r := H
                            have A72 := Aside0.mk A720
                            clear A720
                            by_cases c73 : t266 = t264
                            · rw [if_pos c73] at H
                              have c73b0 : (t266 == t264) = true := beq_iff_eq.mpr c73
                              have c73b1 : (t266 != t264) = false := bne_eq_false_iff_eq.mpr c73
                              clear c73
                              replace H := Option.bind_eq_some_iff.mp H
                              obtain ⟨t267, A740, H⟩ := H
                              replace H : (some (t267 == t263)) = some r := H
                              have A74 := Aside0.mk A740
                              clear A740
                              obtain rfl := Option.some.inj H
                              go_wp2_with (first | (go_at_call 22; (with_reducible refine (unit_Boundary.calls kj62 a0 a1 t265 _ ?side1 A70.out).mono ?_); (case side1 => exact tabs_below HT.out (by repeat (first | (with_reducible first | exact HB.out | apply below_alloc | apply pw_below_drewN | apply below_drew1) | exact HB.out))); rintro e w75 ⟨rfl, hb⟩; have n0_ := Aside0.mk (below_step (by repeat (first | (with_reducible first | exact HB.out | apply below_alloc | apply pw_below_drewN | apply below_drew1) | exact HB.out)) hb); clear HB; have HB := n0_; clear n0_; (try clear hb); (try clear hb2); (try clear hk); (try clear hi)) | (go_at_call 26; (with_reducible refine (unit_Down.calls kj62 a0 t264 t266 _ ?side1 A72.out).mono ?_); (case side1 => exact tabs_below HT.out (by repeat (first | (with_reducible first | exact HB.out | apply below_alloc | apply pw_below_drewN | apply below_drew1) | exact HB.out))); rintro e w76 ⟨rfl, hb⟩; have n0_ := Aside0.mk (below_step (by repeat (first | (with_reducible first | exact HB.out | apply below_alloc | apply pw_below_drewN | apply below_drew1) | exact HB.out)) hb); clear HB; have HB := n0_; clear n0_; (try clear hb); (try clear hb2); (try clear hk); (try clear hi)) | (go_at_call 27; (with_reducible refine (unit_Up.calls kj62 a0 t263 t267 _ ?side1 A74.out).mono ?_); (case side1 => exact tabs_below HT.out (by repeat (first | (with_reducible first | exact HB.out | apply below_alloc | apply pw_below_drewN | apply below_drew1) | exact HB.out))); rintro e w77 ⟨rfl, hb⟩; have n0_ := Aside0.mk (below_step (by repeat (first | (with_reducible first | exact HB.out | apply below_alloc | apply pw_below_drewN | apply below_drew1) | exact HB.out)) hb); clear HB; have HB := n0_; clear n0_; (try clear hb); (try clear hb2); (try clear hk); (try clear hi)))
                              go_ret
                              exact ⟨by first | rfl | (simp [errW_none, errW_some] <;> rfl) | (simp [*, errW_none, errW_some] <;> rfl), by repeat (first | (with_reducible first | exact HB.out | apply below_alloc | apply pw_below_drewN | apply below_drew1) | exact HB.out)⟩
                            · rw [if_neg c73] at H
                              have c73b0 : (t266 == t264) = false := beq_eq_false_iff_ne.mpr c73
                              have c73b1 : (t266 != t264) = true := bne_iff_ne.mpr c73
                              obtain rfl := Option.some.inj H
                              go_wp2_with (first | (go_at_call 22; (with_reducible refine (unit_Boundary.calls kj62 a0 a1 t265 _ ?side1 A70.out).mono ?_); (case side1 => exact tabs_below HT.out (by repeat (first | (with_reducible first | exact HB.out | apply below_alloc | apply pw_below_drewN | apply below_drew1) | exact HB.out))); rintro e w78 ⟨rfl, hb⟩; have n0_ := Aside0.mk (below_step (by repeat (first | (with_reducible first | exact HB.out | apply below_alloc | apply pw_below_drewN | apply below_drew1) | exact HB.out)) hb); clear HB; have HB := n0_; clear n0_; (try clear hb); (try clear hb2); (try clear hk); (try clear hi)) | (go_at_call 26; (with_reducible refine (unit_Down.calls kj62 a0 t264 t266 _ ?side1 A72.out).mono ?_); (case side1 => exact tabs_below HT.out (by repeat (first | (with_reducible first | exact HB.out | apply below_alloc | apply pw_below_drewN | apply below_drew1) | exact HB.out))); rintro e w79 ⟨rfl, hb⟩; have n0_ := Aside0.mk (below_step (by repeat (first | (with_reducible first | exact HB.out | apply below_alloc | apply pw_below_drewN | apply below_drew1) | exact HB.out)) hb); clear HB; have HB := n0_; clear n0_; (try clear hb); (try clear hb2); (try clear hk); (try clear hi)))
                              go_ret
                              exact ⟨by first | rfl | (simp [errW_none, errW_some] <;> rfl) | (simp [*, errW_none, errW_some] <;> rfl), by repeat (first | (with_reducible first | exact HB.out | apply below_alloc | apply pw_below_drewN | apply below_drew1) | exact HB.out)⟩
                          · rw [if_neg c71] at H
                            have c71b0 : (t265 == (t263 == t264)) = false := by simpa using c71
                            (try (have c71b1 : decide (t265 = (t263 == t264)) = false := by simpa using c71))
                            (try (have c71b2 : (t265 == (t263 == t264)) = false := by simpa using c71))
                            (try (have c71b3 : ¬ (t265 = (t263 == t264)) := by simpa using c71))
                            clear c71
                            obtain rfl := Option.some.inj H
                            go_wp2_with (first | (go_at_call 22; (with_reducible refine (unit_Boundary.calls kj62 a0 a1 t265 _ ?side1 A70.out).mono ?_); (case side1 => exact tabs_below HT.out (by repeat (first | (with_reducible first | exact HB.out | apply below_alloc | apply pw_below_drewN | apply below_drew1) | exact HB.out))); rintro e w80 ⟨rfl, hb⟩; have n0_ := Aside0.mk (below_step (by repeat (first | (with_reducible first | exact HB.out | apply below_alloc | apply pw_below_drewN | apply below_drew1) | exact HB.out)) hb); clear HB; have HB := n0_; clear n0_; (try clear hb); (try clear hb2); (try clear hk); (try clear hi)))
                            go_ret
                            exact ⟨by first | rfl | (simp [errW_none, errW_some] <;> rfl) | (simp [*, errW_none, errW_some] <;> rfl), by repeat (first | (with_reducible first | exact HB.out | apply below_alloc | apply pw_below_drewN | apply below_drew1) | exact HB.out)⟩
                        · rw [if_neg c69] at H
                          have c69b0 : decide (a1 ≤ t264) = false := decide_eq_false c69
                          clear c69
                          obtain rfl := Option.some.inj H
                          go_wp2
                          go_ret
                          exact ⟨by first | rfl | (simp [errW_none, errW_some] <;> rfl) | (simp [*, errW_none, errW_some] <;> rfl), by repeat (first | (with_reducible first | exact HB.out | apply below_alloc | apply pw_below_drewN | apply below_drew1) | exact HB.out)⟩
                      · rw [if_neg c68] at H
                        have c68b0 : decide (t263 ≤ a1) = false := decide_eq_false c68
                        clear c68
                        obtain rfl := Option.some.inj H
                        go_wp2
                        go_ret
                        exact ⟨by first | rfl | (simp [errW_none, errW_some] <;> rfl) | (simp [*, errW_none, errW_some] <;> rfl), by repeat (first | (with_reducible first | exact HB.out | apply below_alloc | apply pw_below_drewN | apply below_drew1) | exact HB.out)⟩
                    · replace c67 := Bool.eq_false_iff.mpr c67
                      subst c67
                      have H1 : (if t263 = t264 then ((unit_Boundary.f kj62 a0 a1).bind fun t268 => (if t268 = true then (some false) else (if t263 = 0 then (some true) else (some (t263 == (a0.size : Int)))))) else (some false)) = some r := by rw [if_neg (show ¬ (false = true) by decide)] at H; exact H
                      clear H
                      have H := H1
                      clear H1
                      by_cases c81 : t263 = t264
                      · rw [if_pos c81] at H
                        have c81b0 : (t263 == t264) = true := beq_iff_eq.mpr c81
                        have c81b1 : (t263 != t264) = false := bne_eq_false_iff_eq.mpr c81
                        clear c81
                        replace H := Option.bind_eq_some_iff.mp H
                        obtain ⟨t268, A820, H⟩ := H
                        replace H : (if t268 = true then (some false) else (if t263 = 0 then (some true) else (some (t263 == (a0.size : Int))))) = some r := H
                        have A82 := Aside0.mk A820
                        clear A820
                        by_cases c83 : t268 = true
                        · subst c83
                          have H1 : (some false) = some r := by rw [if_pos rfl] at H; exact H
                          clear H
                          have H := H1
                          clear H1
                          obtain rfl := Option.some.inj H
                          go_wp2_with (first | (go_at_call 22; (with_reducible refine (unit_Boundary.calls kj62 a0 a1 true _ ?side1 A82.out).mono ?_); (case side1 => exact tabs_below HT.out (by repeat (first | (with_reducible first | exact HB.out | apply below_alloc | apply pw_below_drewN | apply below_drew1) | exact HB.out))); rintro e w84 ⟨rfl, hb⟩; have n0_ := Aside0.mk (below_step (by repeat (first | (with_reducible first | exact HB.out | apply below_alloc | apply pw_below_drewN | apply below_drew1) | exact HB.out)) hb); clear HB; have HB := n0_; clear n0_; (try clear hb); (try clear hb2); (try clear hk); (try clear hi)))
                          go_ret
                          exact ⟨by first | rfl | (simp [errW_none, errW_some] <;> rfl) | (simp [*, errW_none, errW_some] <;> rfl), by repeat (first | (with_reducible first | exact HB.out | apply below_alloc | apply pw_below_drewN | apply below_drew1) | exact HB.out)⟩
                        · replace c83 := Bool.eq_false_iff.mpr c83
                          subst c83
                          have H1 : (if t263 = 0 then (some true) else (some (t263 == (a0.size : Int)))) = some r := by rw [if_neg (show ¬ (false = true) by decide)] at H; exact H
                          clear H
                          have H := H1
                          clear H1
                          by_cases c85 : t263 = 0
                          · rw [if_pos c85] at H
                            have c85b0 : (t263 == 0) = true := beq_iff_eq.mpr c85
                            have c85b1 : (t263 != 0) = false := bne_eq_false_iff_eq.mpr c85
                            clear c85
                            obtain rfl := Option.some.inj H
                            go_wp2_with (first | (go_at_call 22; (with_reducible refine (unit_Boundary.calls kj62 a0 a1 false _ ?side1 A82.out).mono ?_); (case side1 => exact tabs_below HT.out (by repeat (first | (with_reducible first | exact HB.out | apply below_alloc | apply pw_below_drewN | apply below_drew1) | exact HB.out))); rintro e w86 ⟨rfl, hb⟩; have n0_ := Aside0.mk (below_step (by repeat (first | (with_reducible first | exact HB.out | apply below_alloc | apply pw_below_drewN | apply below_drew1) | exact HB.out)) hb); clear HB; have HB := n0_; clear n0_; (try clear hb); (try clear hb2); (try clear hk); (try clear hi)))
                            go_ret
                            exact ⟨by first | rfl | (simp [errW_none, errW_some] <;> rfl) | (simp [*, errW_none, errW_some] <;> rfl), by repeat (first | (with_reducible first | exact HB.out | apply below_alloc | apply pw_below_drewN | apply below_drew1) | exact HB.out)⟩
                          · rw [if_neg c85] at H
                            have c85b0 : (t263 == 0) = false := beq_eq_false_iff_ne.mpr c85
                            have c85b1 : (t263 != 0) = true := bne_iff_ne.mpr c85
                            obtain rfl := Option.some.inj H
                            go_wp2_with (first | (go_at_call 22; (with_reducible refine (unit_Boundary.calls kj62 a0 a1 false _ ?side1 A82.out).mono ?_); (case side1 => exact tabs_below HT.out (by repeat (first | (with_reducible first | exact HB.out | apply below_alloc | apply pw_below_drewN | apply below_drew1) | exact HB.out))); rintro e w87 ⟨rfl, hb⟩; have n0_ := Aside0.mk (below_step (by repeat (first | (with_reducible first | exact HB.out | apply below_alloc | apply pw_below_drewN | apply below_drew1) | exact HB.out)) hb); clear HB; have HB := n0_; clear n0_; (try clear hb); (try clear hb2); (try clear hk); (try clear hi)))
                            go_ret
                            exact ⟨by first | rfl | (simp [errW_none, errW_some] <;> rfl) | (simp [*, errW_none, errW_some] <;> rfl), by repeat (first | (with_reducible first | exact HB.out | apply below_alloc | apply pw_below_drewN | apply below_drew1) | exact HB.out)⟩
                      · rw [if_neg c81] at H
                        have c81b0 : (t263 == t264) = false := beq_eq_false_iff_ne.mpr c81
                        have c81b1 : (t263 != t264) = true := bne_iff_ne.mpr c81
                        obtain rfl := Option.some.inj H
                        go_wp2
                        go_ret
                        exact ⟨by first | rfl | (simp [errW_none, errW_some] <;> rfl) | (simp [*, errW_none, errW_some] <;> rfl), by repeat (first | (with_reducible first | exact HB.out | apply below_alloc | apply pw_below_drewN | apply below_drew1) | exact HB.out)⟩
  · replace c4 := Bool.eq_false_iff.mpr c4
    subst c4
    have H1 : (some false) = some r := by rw [if_neg (show ¬ (false = true) by decide)] at H; exact H
    clear H
    have H := H1
    clear H1
    obtain rfl := Option.some.inj H
    go_enter Tryd.func8, Tryd.ntmps8
    go_wp2_with (first | ((with_reducible refine gate_callee (f := 21) rfl ?_); refine goesL_ (some 10) rfl rfl Tryd.func21 (by kernel_rfl) rfl #[] rfl (by (try simp only [List.map_toArray, List.map_cons, List.map_nil]); first | done | rfl | (simp only [List.length_drop, List.length_take]; rfl)) ?_; (with_reducible refine (bodkinlaw01_cuts.calls  false _ ?side1 A3.out).mono ?_); (case side1 => exact tabs_below HT.out (by repeat (first | (with_reducible first | exact HB.out | apply below_alloc | apply pw_below_drewN | apply below_drew1) | exact HB.out))); rintro e w88 ⟨rfl, hb⟩; refine ⟨_, rfl, ?_⟩; have n0_ := Aside0.mk (below_step (by repeat (first | (with_reducible first | exact HB.out | apply below_alloc | apply pw_below_drewN | apply below_drew1) | exact HB.out)) hb); clear HB; have HB := n0_; clear n0_; (try clear hb); (try clear hb2); (try clear hk); (try clear hi)))
    go_ret
    exact ⟨by first | rfl | (simp [errW_none, errW_some] <;> rfl) | (simp [*, errW_none, errW_some] <;> rfl), by repeat (first | (with_reducible first | exact HB.out | apply below_alloc | apply pw_below_drewN | apply below_drew1) | exact HB.out)⟩

/-- THE ONE PURE STATEMENT of bodkinlaw01_UnitSteps: yours. -/
def bodkinlaw01_UnitSteps.Pure : Prop := ∀ (a0 : ByteArray) (a1 : Int), a0.size ≤ 140737488351232 → (Lit.int .i64 a1).wf = true → ∃ k, bodkinlaw01_UnitSteps.f k a0 a1 = some true
theorem bodkinlaw01_UnitSteps.walk (P : bodkinlaw01_UnitSteps.Pure) (a0 : ByteArray) (a1 : Int) (w : World) (w0 : a0.size ≤ 140737488351232) (w1 : (Lit.int .i64 a1).wf = true) (hT : Lib.Utf8Tabs 0 1 w) :
    Calls Tryd.prog 8 #[.string a0, .int .i64 a1] w fun e w' => e = .returned (.bool true) ∧ Below w.heap.size w w' := by
  obtain ⟨k, h⟩ := P a0 a1 w0 w1
  refine (bodkinlaw01_UnitSteps.calls k a0 a1 true w hT h).mono ?_
  rintro e w' ⟨rfl, hd⟩
  exact ⟨rfl, hd⟩

end Go.Proofs.YtfhnfhgpaoddbaaDoor.U
