-- Written by a program of this session's own (wip/tool/myprint.py). Lean checks it.
import Derived.Test.YtfhnfhgpaoddbaaDoorU0
import Derived.Test.YtfhnfhgpaoddbaaDoorU3
import Derived.Test.YtfhnfhgpaoddbaaDoorHc
import Derived.Test.YtfhnfhgpaoddbaaDoorHu
namespace Go.Proofs.YtfhnfhgpaoddbaaDoor.U
open Go.RowKit Go.Proofs.YtfhnfhgpaoddbaaDoorW.PrintWords Go.Proofs.YtfhnfhgpaoddbaaDoorW.PrintLast Go.Proofs.YtfhnfhgpaoddbaaDoorW.PrintMore
attribute [local go_sem] max2_int min2_int max_two min_two max_three min_three max_four min_four   -- for this text's walks alone
set_option linter.unusedVariables false
set_option linter.unusedSimpArgs false

/-! ### bodkinlaw01_UnitTiles: function 11 -/
mutual
def bodkinlaw01_UnitTiles.l0 : Nat → ByteArray → Int → List (S30) → Int → Int → Option (Bool)
  | 0, _, _, _, _, _ => none
  | k + 1, x0, x3, x12, x13, x14 => if x14 < x13 then (if 0 ≤ x14 then (if x14 < (x12.length : Int) then (if ((rd_T30 x12 x14).f1) < 1 then (bodkinlaw01_UnitTiles.j1 k x0 x3 x12 x13 x14 true ((rd_T30 x12 x14).f0) ((rd_T30 x12 x14).f1)) else (if ((rd_T30 x12 x14).f1) > 4 then (bodkinlaw01_UnitTiles.j1 k x0 x3 x12 x13 x14 true ((rd_T30 x12 x14).f0) ((rd_T30 x12 x14).f1)) else (bodkinlaw01_UnitTiles.j1 k x0 x3 x12 x13 x14 (decide ((wrap64 (x3 + ((rd_T30 x12 x14).f1))) > (x0.size : Int))) ((rd_T30 x12 x14).f0) ((rd_T30 x12 x14).f1)))) else (none)) else (none)) else (some (x3 == (x0.size : Int)))
def bodkinlaw01_UnitTiles.j1 : Nat → ByteArray → Int → List (S30) → Int → Int → Bool → Int → Int → Option (Bool)
  | 0, _, _, _, _, _, _, _, _ => none
  | k + 1, x0, x3, x12, x13, x14, x34, x374000, x374001 => if x34 = true then (some false) else (if 0 ≤ x3 then (if x3 ≤ (wrap64 (x3 + x374001)) then (if (wrap64 (x3 + x374001)) ≤ (x0.size : Int) then (if x374000 ≥ 0 then ((unit_Encode.f k (([x374000] : List Int))).bind fun t377 => (bodkinlaw01_UnitTiles.j2 k x0 x3 x12 x13 x14 (t377.toList != (x0.extract (x3 : Int).toNat ((wrap64 (x3 + x374001)) : Int).toNat).toList) x374000 x374001)) else (bodkinlaw01_UnitTiles.j2 k x0 x3 x12 x13 x14 false x374000 x374001)) else (none)) else (none)) else (none))
def bodkinlaw01_UnitTiles.j2 : Nat → ByteArray → Int → List (S30) → Int → Int → Bool → Int → Int → Option (Bool)
  | 0, _, _, _, _, _, _, _, _ => none
  | k + 1, x0, x3, x12, x13, x14, x52, x374000, x374001 => if x52 = true then (some false) else (if x374000 < 0 then (if x374000 = (-1) then (bodkinlaw01_UnitTiles.j3 k x0 x3 x12 x13 x14 (x374001 != 1) x374000 x374001) else (bodkinlaw01_UnitTiles.j3 k x0 x3 x12 x13 x14 true x374000 x374001)) else (bodkinlaw01_UnitTiles.j3 k x0 x3 x12 x13 x14 false x374000 x374001))
def bodkinlaw01_UnitTiles.j3 : Nat → ByteArray → Int → List (S30) → Int → Int → Bool → Int → Int → Option (Bool)
  | 0, _, _, _, _, _, _, _, _ => none
  | k + 1, x0, x3, x12, x13, x14, x65, x374000, x374001 => if x65 = true then (some false) else (bodkinlaw01_UnitTiles.l1 k x0 x3 1 x12 x13 x14 x374000 x374001)
def bodkinlaw01_UnitTiles.l1 : Nat → ByteArray → Int → Int → List (S30) → Int → Int → Int → Int → Option (Bool)
  | 0, _, _, _, _, _, _, _, _ => none
  | k + 1, x0, x3, x7, x12, x13, x14, x374000, x374001 => if x7 ≤ 4 then (if (wrap64 (x3 + x7)) ≤ (x0.size : Int) then (bodkinlaw01_UnitTiles.j5 k x0 x3 x7 x12 x13 x14 (decide (x374000 < 0)) x374000 x374001) else (bodkinlaw01_UnitTiles.j5 k x0 x3 x7 x12 x13 x14 false x374000 x374001)) else (bodkinlaw01_UnitTiles.j5 k x0 x3 x7 x12 x13 x14 false x374000 x374001)
def bodkinlaw01_UnitTiles.j5 : Nat → ByteArray → Int → Int → List (S30) → Int → Int → Bool → Int → Int → Option (Bool)
  | 0, _, _, _, _, _, _, _, _, _ => none
  | k + 1, x0, x3, x7, x12, x13, x14, x80, x374000, x374001 => if x80 = true then (if 0 ≤ x3 then (if x3 ≤ (wrap64 (x3 + x7)) then (if (wrap64 (x3 + x7)) ≤ (x0.size : Int) then ((unit_Units.f (x0.extract (x3 : Int).toNat ((wrap64 (x3 + x7)) : Int).toNat)).bind fun t378 => (if (t378.length : Int) = 0 then (some false) else (if 0 < (t378.length : Int) then (if ((rd_T30 t378 0).f0) ≥ 0 then (some false) else (bodkinlaw01_UnitTiles.l1 k x0 x3 (wrap64 (x7 + 1)) x12 x13 x14 x374000 x374001)) else (none)))) else (none)) else (none)) else (none)) else (bodkinlaw01_UnitTiles.l0 k x0 (wrap64 (x3 + x374001)) x12 x13 (wrap64 (x14 + 1)))
end
def bodkinlaw01_UnitTiles.f (k : Nat) (a0 : ByteArray) : Option (Bool) := (bodkinlaw01_cuts.f).bind fun t368 => (if t368 = true then ((unit_Units.f a0).bind fun t369 => (bodkinlaw01_UnitTiles.l0 k a0 0 t369 (t369.length : Int) 0)) else (some false))
theorem bodkinlaw01_UnitTiles.mono_l : ∀ k, (∀ y0 y1 y2 y3 y4, LeO (bodkinlaw01_UnitTiles.l0 k y0 y1 y2 y3 y4) (bodkinlaw01_UnitTiles.l0 (k + 1) y0 y1 y2 y3 y4)) ∧ (∀ y0 y1 y2 y3 y4 y5 y6 y7, LeO (bodkinlaw01_UnitTiles.j1 k y0 y1 y2 y3 y4 y5 y6 y7) (bodkinlaw01_UnitTiles.j1 (k + 1) y0 y1 y2 y3 y4 y5 y6 y7)) ∧ (∀ y0 y1 y2 y3 y4 y5 y6 y7, LeO (bodkinlaw01_UnitTiles.j2 k y0 y1 y2 y3 y4 y5 y6 y7) (bodkinlaw01_UnitTiles.j2 (k + 1) y0 y1 y2 y3 y4 y5 y6 y7)) ∧ (∀ y0 y1 y2 y3 y4 y5 y6 y7, LeO (bodkinlaw01_UnitTiles.j3 k y0 y1 y2 y3 y4 y5 y6 y7) (bodkinlaw01_UnitTiles.j3 (k + 1) y0 y1 y2 y3 y4 y5 y6 y7)) ∧ (∀ y0 y1 y2 y3 y4 y5 y6 y7, LeO (bodkinlaw01_UnitTiles.l1 k y0 y1 y2 y3 y4 y5 y6 y7) (bodkinlaw01_UnitTiles.l1 (k + 1) y0 y1 y2 y3 y4 y5 y6 y7)) ∧ (∀ y0 y1 y2 y3 y4 y5 y6 y7 y8, LeO (bodkinlaw01_UnitTiles.j5 k y0 y1 y2 y3 y4 y5 y6 y7 y8) (bodkinlaw01_UnitTiles.j5 (k + 1) y0 y1 y2 y3 y4 y5 y6 y7 y8))
  | 0 => ⟨fun _ _ _ _ _ r h => by simp [bodkinlaw01_UnitTiles.l0] at h, fun _ _ _ _ _ _ _ _ r h => by simp [bodkinlaw01_UnitTiles.j1] at h, fun _ _ _ _ _ _ _ _ r h => by simp [bodkinlaw01_UnitTiles.j2] at h, fun _ _ _ _ _ _ _ _ r h => by simp [bodkinlaw01_UnitTiles.j3] at h, fun _ _ _ _ _ _ _ _ r h => by simp [bodkinlaw01_UnitTiles.l1] at h, fun _ _ _ _ _ _ _ _ _ r h => by simp [bodkinlaw01_UnitTiles.j5] at h⟩
  | k + 1 => by
    obtain ⟨ih0, ih1, ih2, ih3, ih4, ih5⟩ := bodkinlaw01_UnitTiles.mono_l k
    refine ⟨?_, ?_, ?_, ?_, ?_, ?_⟩
    · intro y0 y1 y2 y3 y4
      unfold bodkinlaw01_UnitTiles.l0
      repeat' first
      | (with_reducible exact ih0 _ _ _ _ _)
      | (with_reducible exact ih1 _ _ _ _ _ _ _ _)
      | (with_reducible exact ih2 _ _ _ _ _ _ _ _)
      | (with_reducible exact ih3 _ _ _ _ _ _ _ _)
      | (with_reducible exact ih4 _ _ _ _ _ _ _ _)
      | (with_reducible exact ih5 _ _ _ _ _ _ _ _ _)
      | (with_reducible exact unit_Encode.mono _ _)
      | (with_reducible exact LeO.refl _)
      | (with_reducible exact LeO.none _)
      | (with_reducible refine LeO.ite ?_ ?_)
      | (with_reducible refine LeO.bind ?_ (fun _ => ?_))
      | exact ih0 _ _ _ _ _
      | exact ih1 _ _ _ _ _ _ _ _
      | exact ih2 _ _ _ _ _ _ _ _
      | exact ih3 _ _ _ _ _ _ _ _
      | exact ih4 _ _ _ _ _ _ _ _
      | exact ih5 _ _ _ _ _ _ _ _ _
      | exact unit_Encode.mono _ _
      | exact LeO.none _
      | refine LeO.ite ?_ ?_
      | refine LeO.bind ?_ (fun _ => ?_)
    · intro y0 y1 y2 y3 y4 y5 y6 y7
      unfold bodkinlaw01_UnitTiles.j1
      repeat' first
      | (with_reducible exact ih0 _ _ _ _ _)
      | (with_reducible exact ih1 _ _ _ _ _ _ _ _)
      | (with_reducible exact ih2 _ _ _ _ _ _ _ _)
      | (with_reducible exact ih3 _ _ _ _ _ _ _ _)
      | (with_reducible exact ih4 _ _ _ _ _ _ _ _)
      | (with_reducible exact ih5 _ _ _ _ _ _ _ _ _)
      | (with_reducible exact unit_Encode.mono _ _)
      | (with_reducible exact LeO.refl _)
      | (with_reducible exact LeO.none _)
      | (with_reducible refine LeO.ite ?_ ?_)
      | (with_reducible refine LeO.bind ?_ (fun _ => ?_))
      | exact ih0 _ _ _ _ _
      | exact ih1 _ _ _ _ _ _ _ _
      | exact ih2 _ _ _ _ _ _ _ _
      | exact ih3 _ _ _ _ _ _ _ _
      | exact ih4 _ _ _ _ _ _ _ _
      | exact ih5 _ _ _ _ _ _ _ _ _
      | exact unit_Encode.mono _ _
      | exact LeO.none _
      | refine LeO.ite ?_ ?_
      | refine LeO.bind ?_ (fun _ => ?_)
    · intro y0 y1 y2 y3 y4 y5 y6 y7
      unfold bodkinlaw01_UnitTiles.j2
      repeat' first
      | (with_reducible exact ih0 _ _ _ _ _)
      | (with_reducible exact ih1 _ _ _ _ _ _ _ _)
      | (with_reducible exact ih2 _ _ _ _ _ _ _ _)
      | (with_reducible exact ih3 _ _ _ _ _ _ _ _)
      | (with_reducible exact ih4 _ _ _ _ _ _ _ _)
      | (with_reducible exact ih5 _ _ _ _ _ _ _ _ _)
      | (with_reducible exact unit_Encode.mono _ _)
      | (with_reducible exact LeO.refl _)
      | (with_reducible exact LeO.none _)
      | (with_reducible refine LeO.ite ?_ ?_)
      | (with_reducible refine LeO.bind ?_ (fun _ => ?_))
      | exact ih0 _ _ _ _ _
      | exact ih1 _ _ _ _ _ _ _ _
      | exact ih2 _ _ _ _ _ _ _ _
      | exact ih3 _ _ _ _ _ _ _ _
      | exact ih4 _ _ _ _ _ _ _ _
      | exact ih5 _ _ _ _ _ _ _ _ _
      | exact unit_Encode.mono _ _
      | exact LeO.none _
      | refine LeO.ite ?_ ?_
      | refine LeO.bind ?_ (fun _ => ?_)
    · intro y0 y1 y2 y3 y4 y5 y6 y7
      unfold bodkinlaw01_UnitTiles.j3
      repeat' first
      | (with_reducible exact ih0 _ _ _ _ _)
      | (with_reducible exact ih1 _ _ _ _ _ _ _ _)
      | (with_reducible exact ih2 _ _ _ _ _ _ _ _)
      | (with_reducible exact ih3 _ _ _ _ _ _ _ _)
      | (with_reducible exact ih4 _ _ _ _ _ _ _ _)
      | (with_reducible exact ih5 _ _ _ _ _ _ _ _ _)
      | (with_reducible exact unit_Encode.mono _ _)
      | (with_reducible exact LeO.refl _)
      | (with_reducible exact LeO.none _)
      | (with_reducible refine LeO.ite ?_ ?_)
      | (with_reducible refine LeO.bind ?_ (fun _ => ?_))
      | exact ih0 _ _ _ _ _
      | exact ih1 _ _ _ _ _ _ _ _
      | exact ih2 _ _ _ _ _ _ _ _
      | exact ih3 _ _ _ _ _ _ _ _
      | exact ih4 _ _ _ _ _ _ _ _
      | exact ih5 _ _ _ _ _ _ _ _ _
      | exact unit_Encode.mono _ _
      | exact LeO.none _
      | refine LeO.ite ?_ ?_
      | refine LeO.bind ?_ (fun _ => ?_)
    · intro y0 y1 y2 y3 y4 y5 y6 y7
      unfold bodkinlaw01_UnitTiles.l1
      repeat' first
      | (with_reducible exact ih0 _ _ _ _ _)
      | (with_reducible exact ih1 _ _ _ _ _ _ _ _)
      | (with_reducible exact ih2 _ _ _ _ _ _ _ _)
      | (with_reducible exact ih3 _ _ _ _ _ _ _ _)
      | (with_reducible exact ih4 _ _ _ _ _ _ _ _)
      | (with_reducible exact ih5 _ _ _ _ _ _ _ _ _)
      | (with_reducible exact unit_Encode.mono _ _)
      | (with_reducible exact LeO.refl _)
      | (with_reducible exact LeO.none _)
      | (with_reducible refine LeO.ite ?_ ?_)
      | (with_reducible refine LeO.bind ?_ (fun _ => ?_))
      | exact ih0 _ _ _ _ _
      | exact ih1 _ _ _ _ _ _ _ _
      | exact ih2 _ _ _ _ _ _ _ _
      | exact ih3 _ _ _ _ _ _ _ _
      | exact ih4 _ _ _ _ _ _ _ _
      | exact ih5 _ _ _ _ _ _ _ _ _
      | exact unit_Encode.mono _ _
      | exact LeO.none _
      | refine LeO.ite ?_ ?_
      | refine LeO.bind ?_ (fun _ => ?_)
    · intro y0 y1 y2 y3 y4 y5 y6 y7 y8
      unfold bodkinlaw01_UnitTiles.j5
      repeat' first
      | (with_reducible exact ih0 _ _ _ _ _)
      | (with_reducible exact ih1 _ _ _ _ _ _ _ _)
      | (with_reducible exact ih2 _ _ _ _ _ _ _ _)
      | (with_reducible exact ih3 _ _ _ _ _ _ _ _)
      | (with_reducible exact ih4 _ _ _ _ _ _ _ _)
      | (with_reducible exact ih5 _ _ _ _ _ _ _ _ _)
      | (with_reducible exact unit_Encode.mono _ _)
      | (with_reducible exact LeO.refl _)
      | (with_reducible exact LeO.none _)
      | (with_reducible refine LeO.ite ?_ ?_)
      | (with_reducible refine LeO.bind ?_ (fun _ => ?_))
      | exact ih0 _ _ _ _ _
      | exact ih1 _ _ _ _ _ _ _ _
      | exact ih2 _ _ _ _ _ _ _ _
      | exact ih3 _ _ _ _ _ _ _ _
      | exact ih4 _ _ _ _ _ _ _ _
      | exact ih5 _ _ _ _ _ _ _ _ _
      | exact unit_Encode.mono _ _
      | exact LeO.none _
      | refine LeO.ite ?_ ?_
      | refine LeO.bind ?_ (fun _ => ?_)
theorem bodkinlaw01_UnitTiles.mono : ∀ a0 k, LeO (bodkinlaw01_UnitTiles.f k a0) (bodkinlaw01_UnitTiles.f (k + 1) a0) := by
  intro a0 k
  obtain ⟨ih0, ih1, ih2, ih3, ih4, ih5⟩ := bodkinlaw01_UnitTiles.mono_l k
  unfold bodkinlaw01_UnitTiles.f
  repeat' first
      | (with_reducible exact ih0 _ _ _ _ _)
      | (with_reducible exact ih1 _ _ _ _ _ _ _ _)
      | (with_reducible exact ih2 _ _ _ _ _ _ _ _)
      | (with_reducible exact ih3 _ _ _ _ _ _ _ _)
      | (with_reducible exact ih4 _ _ _ _ _ _ _ _)
      | (with_reducible exact ih5 _ _ _ _ _ _ _ _ _)
      | (with_reducible exact unit_Encode.mono _ _)
      | (with_reducible exact LeO.refl _)
      | (with_reducible exact LeO.none _)
      | (with_reducible refine LeO.ite ?_ ?_)
      | (with_reducible refine LeO.bind ?_ (fun _ => ?_))
      | exact ih0 _ _ _ _ _
      | exact ih1 _ _ _ _ _ _ _ _
      | exact ih2 _ _ _ _ _ _ _ _
      | exact ih3 _ _ _ _ _ _ _ _
      | exact ih4 _ _ _ _ _ _ _ _
      | exact ih5 _ _ _ _ _ _ _ _ _
      | exact unit_Encode.mono _ _
      | exact LeO.none _
      | refine LeO.ite ?_ ?_
      | refine LeO.bind ?_ (fun _ => ?_)
set_option maxHeartbeats 8000000 in
set_option maxRecDepth 100000 in
theorem bodkinlaw01_UnitTiles.calls (k : Nat) (a0 : ByteArray) (r : Bool) (w : World) (hT : Lib.Utf8Tabs 0 1 w) (h : bodkinlaw01_UnitTiles.f k a0 = some r) :
    Calls Tryd.prog 11 #[.string a0] w fun e w' => e = .returned (.bool r) ∧ Below w.heap.size w w' := by
  have hu30 := Tryd.underlying30
  have HT := Aside0.mk hT
  clear hT
  have HB := Aside0.mk (Below.refl w.heap.size w)
  have H : ((bodkinlaw01_cuts.f).bind fun t368 => (if t368 = true then ((unit_Units.f a0).bind fun t369 => (bodkinlaw01_UnitTiles.l0 k a0 0 t369 (t369.length : Int) 0)) else (some false))) = some r := h
  clear h
  replace H := Option.bind_eq_some_iff.mp H
  obtain ⟨t368, A20, H⟩ := H
  replace H : (if t368 = true then ((unit_Units.f a0).bind fun t369 => (bodkinlaw01_UnitTiles.l0 k a0 0 t369 (t369.length : Int) 0)) else (some false)) = some r := H
  have A2 := Aside0.mk A20
  clear A20
  by_cases c3 : t368 = true
  · subst c3
    have H1 : ((unit_Units.f a0).bind fun t369 => (bodkinlaw01_UnitTiles.l0 k a0 0 t369 (t369.length : Int) 0)) = some r := by rw [if_pos rfl] at H; exact H
    clear H
    have H := H1
    clear H1
    replace H := Option.bind_eq_some_iff.mp H
    obtain ⟨t369, A40, H⟩ := H
    replace H : (bodkinlaw01_UnitTiles.l0 k a0 0 t369 (t369.length : Int) 0) = some r := H
    have A4 := Aside0.mk A40
    clear A40
    have H' := Aside0.mk H
    clear H
    go_enter Tryd.func11, Tryd.ntmps11
    go_wp2_with (first | ((with_reducible refine gate_callee (f := 21) rfl ?_); refine goesL_ (some 9) rfl rfl Tryd.func21 (by kernel_rfl) rfl #[] rfl (by (try simp only [List.map_toArray, List.map_cons, List.map_nil]); first | done | rfl | (simp only [List.length_drop, List.length_take]; rfl)) ?_; (with_reducible refine (bodkinlaw01_cuts.calls  true _ ?side1 A2.out).mono ?_); (case side1 => exact tabs_below HT.out (by repeat (first | (with_reducible first | exact HB.out | apply below_alloc | apply pw_below_drewN | apply below_drew1) | exact HB.out))); rintro e w5 ⟨rfl, hb⟩; refine ⟨_, rfl, ?_⟩; have n0_ := Aside0.mk (below_step (by repeat (first | (with_reducible first | exact HB.out | apply below_alloc | apply pw_below_drewN | apply below_drew1) | exact HB.out)) hb); clear HB; have HB := n0_; clear n0_; (try clear hb); (try clear hb2); (try clear hk); (try clear hi)) | ((with_reducible refine gate_callee (f := 23) rfl ?_); refine goesL_ (some 12) rfl rfl Tryd.func23 (by kernel_rfl) rfl #[.string a0] rfl (by (try simp only [List.map_toArray, List.map_cons, List.map_nil]); first | done | rfl | (simp only [List.length_drop, List.length_take]; rfl)) ?_; (with_reducible refine (unit_Units.calls a0 t369 _ ?side1 A4.out).mono ?_); (case side1 => exact tabs_below HT.out (by repeat (first | (with_reducible first | exact HB.out | apply below_alloc | apply pw_below_drewN | apply below_drew1) | exact HB.out))); rintro e w6 ⟨v370, rfl, ho0, hb⟩; refine ⟨_, rfl, ?_⟩; have n0_ := Aside0.mk (Kd.R_lower ho0 (below_size (by repeat (first | (with_reducible first | exact HB.out | apply below_alloc | apply pw_below_drewN | apply below_drew1) | exact HB.out)))); have n1_ := Aside0.mk (below_step (by repeat (first | (with_reducible first | exact HB.out | apply below_alloc | apply pw_below_drewN | apply below_drew1) | exact HB.out)) hb); clear HB; have HO371 := n0_; have HB := n1_; clear n0_ n1_; (try clear hb); (try clear hb2); (try clear hk); (try clear hi); (try clear ho0); obtain ⟨Ao7, co7, eo7⟩ := Kd.R_slice HO371.out; subst eo7))
    go_loopg [3, 14] k (fun kq v3 v14 w' => ∃ (x3_1 : Int) (x14_1 : Int), v3 = .int .i64 x3_1 ∧ v14 = .int .i64 x14_1 ∧ Aside0 (bodkinlaw01_UnitTiles.l0 kq a0 x3_1 t369 (t369.length : Int) x14_1 = some r) ∧ Aside0 (kq ≤ k) ∧ Aside0 (Kd.R k30 30 w' w.heap.size (fun _ => True) (.slice Ao7 t369.length co7) t369) ∧ Aside0 (Below w.heap.size w w'))
    case atStart => exact ⟨(0), (0), (by first | rfl | (simp; done) | (simp [*]; done)), (by first | rfl | (simp; done) | (simp [*]; done)), H', ⟨Nat.le_refl _⟩, ⟨by (with_reducible repeat (first | apply Kd.R_alloc | apply Kd.R_drewN | apply Kd.R_drew)); exact HO371.out⟩, ⟨by repeat (first | (with_reducible first | exact HB.out | apply below_alloc | apply pw_below_drewN | apply below_drew1) | exact HB.out)⟩⟩
    case round =>
      clear H'
      try clear c1
      try clear c2
      try clear p2
      try clear c3
      obtain ⟨x3_1, x14_1, rfl, rfl, HA, HK1, HO_12, HB⟩ := hrel
      cases gk with
      | zero => exact absurd HA.out (by simp [bodkinlaw01_UnitTiles.l0])
      | succ k1 =>
        have H := HA.out
        clear HA
        simp only [bodkinlaw01_UnitTiles.l0] at H
        by_cases c8 : x14_1 < (t369.length : Int)
        · rw [if_pos c8] at H
          have c8b0 : decide (x14_1 < (t369.length : Int)) = true := decide_eq_true c8
          clear c8
          by_cases c9 : 0 ≤ x14_1
          · rw [if_pos c9] at H
            have c9b0 : decide (0 ≤ x14_1) = true := decide_eq_true c9
            clear c9
            by_cases c10 : x14_1 < (t369.length : Int)
            · rw [if_pos c10] at H
              have c10b0 : decide (x14_1 < (t369.length : Int)) = true := decide_eq_true c10
              clear c10
              have HC11 := Aside0.mk H
              clear H
              have p372 : 0 ≤ (x14_1 : Int) := of_decide_eq_true (by first | (with_reducible assumption) | assumption)
              have q372 : x14_1 < (t369.length : Int) := of_decide_eq_true (by first | (with_reducible assumption) | assumption)
              obtain ⟨ad372, e372, hx372_0, hx372_1⟩ := at_T30 (Kd.R_reads' HO_12.out).2.2 x14_1 p372 q372
              cases e372
              replace p372 := eq_true p372
              replace q372 := eq_true q372
              go_upto_region 7 with (first | ((with_reducible refine gate_dst (N := 5) rfl ?_); (try (refine gate_guard (by rfl) ?_; dsimp only)); refine box_event ?hg (N := 5) ?hd (cs := #[.int .i32 0, .int .i64 0]) (t := 30) ?hr ?_; (case hd => rfl); (case hg => rfl); (case hr => first | (go_simp; done) | (go_simp; rfl)); intro gb373 hg w12 hbox hb; have n0_ := Aside0.mk (Kd.R_below (Kd.R_elderB (by (with_reducible repeat (first | apply Kd.R_alloc | apply Kd.R_drewN | apply Kd.R_drew)); exact HO_12.out) gb373 (Nat.le_of_eq hg.symm)) hb); have n1_ := Aside0.mk (below_step (by repeat (first | (with_reducible first | exact HB.out | apply below_alloc | apply pw_below_drewN | apply below_drew1) | exact HB.out)) hb); have n2_ := Aside0.mk (hbox); have n3_ := Aside0.mk ((by rw [hg]; exact (below_size (by repeat (first | (with_reducible first | exact HB.out | apply below_alloc | apply pw_below_drewN | apply below_drew1) | exact HB.out))) : w.heap.size ≤ gb373)); have n4_ := Aside0.mk ((by rw [hg]; exact (below_size (by repeat (first | (with_reducible first | exact HB.out | apply below_alloc | apply pw_below_drewN | apply below_drew1) | exact HB.out))) : w.heap.size ≤ gb373)); clear HO_12; clear HB; have HO_12 := n0_; have HB := n1_; have BK373 := n2_; have GW373 := n3_; have GE373 := n4_; clear n0_ n1_ n2_ n3_ n4_; clear hb hbox hg; have hcz13_0 : w12.cell? ⟨gb373, 0, none⟩ = some (.int .i32 0) := (blk_cell BK373.out 0).trans rfl; have hcz13_1 : w12.cell? ⟨gb373, 1, none⟩ = some (.int .i64 0) := (blk_cell BK373.out 1).trans rfl; have hfz13_0 := blk_frozen BK373.out 0; have hfz13_1 := blk_frozen BK373.out 1))
              (try simp only [Act.put, List.setIfInBounds_toArray, List.set_cons_zero, List.set_cons_succ])
              go_cut [34] (fun v34 wc => ∃ (kq : Nat) (x34_10 : Bool), v34 = .bool x34_10 ∧ Aside0 (bodkinlaw01_UnitTiles.j1 kq a0 x3_1 t369 (t369.length : Int) x14_1 x34_10 ((rd_T30 t369 x14_1).f0) ((rd_T30 t369 x14_1).f1) = some r) ∧ Aside0 (kq ≤ k1) ∧ Aside0 (Kd.R k30 30 wc w.heap.size (fun k_ => k_ ≠ gb373) (.slice (some ad372) t369.length co7) t369) ∧ Aside0 (wc.heap[gb373]? = some (.cells #[.int .i32 ((rd_T30 t369 x14_1).f0), .int .i64 ((rd_T30 t369 x14_1).f1)] 30 (0, 0))) ∧ Aside0 (Below w.heap.size w wc))
              case first =>
                have H := HC11.out
                clear HC11
                by_cases c14 : ((rd_T30 t369 x14_1).f1) < 1
                · rw [if_pos c14] at H
                  have c14b0 : decide (((rd_T30 t369 x14_1).f1) < 1) = true := decide_eq_true c14
                  clear c14
                  (first | rw [c14b0] | (simp only [i64_w, i32_w]; rw [c14b0]) | skip)
                  have H' := Aside0.mk H
                  clear H
                  have hcz15_0 : w12.cell? ⟨gb373, 0, none⟩ = some (.int .i32 0) := (blk_cell BK373.out 0).trans rfl
                  have hcz15_1 : w12.cell? ⟨gb373, 1, none⟩ = some (.int .i64 0) := (blk_cell BK373.out 1).trans rfl
                  have hfz15_0 := blk_frozen BK373.out 0
                  have hfz15_1 := blk_frozen BK373.out 1
                  go_wp2
                  go_meet
                  case rel => exact ⟨_, (true), (by first | rfl | (simp; done) | (simp [*]; done)), H', ⟨by have := HK1.out; first | omega | exact Nat.le_refl _⟩, ⟨by (with_reducible repeat (first | apply Kd.R_alloc | apply Kd.R_drewN | apply Kd.R_drew)); exact Kd.R_mono (Kd.R_far (p := ⟨gb373, 1, none⟩) (Kd.R_far (p := ⟨gb373, 0, none⟩) (Kd.R_mono HO_12.out (fun k_ hk => (⟨hk, hk.2⟩ : _ ∧ k_ ≠ gb373))) (fun _ hk => hk.2) (.int .i32 ((rd_T30 t369 x14_1).f0))) (fun _ hk => hk.2) (.int .i64 ((rd_T30 t369 x14_1).f1))) (fun _ hk => hk.1.2)⟩, ⟨by (with_reducible repeat (first | refine blk_drewN ?_ _ | refine blk_drew ?_ | refine blk_alloc ?_ _)); refine blk_put (cs := #[.int .i32 ((rd_T30 t369 x14_1).f0), .int .i64 0]) ?_ 1 _ rfl; (with_reducible repeat (first | refine blk_drewN ?_ _ | refine blk_drew ?_ | refine blk_alloc ?_ _)); refine blk_put (cs := #[.int .i32 0, .int .i64 0]) ?_ 0 _ rfl; (with_reducible repeat (first | refine blk_drewN ?_ _ | refine blk_drew ?_ | refine blk_alloc ?_ _)); exact BK373.out⟩, ⟨by repeat (first | (with_reducible first | exact HB.out | apply below_alloc | apply pw_below_drewN | apply below_drew1 | refine below_set ?_ GE373.out) | exact HB.out)⟩⟩
                · rw [if_neg c14] at H
                  have c14b0 : decide (((rd_T30 t369 x14_1).f1) < 1) = false := decide_eq_false c14
                  clear c14
                  (first | rw [c14b0] | (simp only [i64_w, i32_w]; rw [c14b0]) | skip)
                  by_cases c16 : ((rd_T30 t369 x14_1).f1) > 4
                  · rw [if_pos c16] at H
                    have c16b0 : decide (4 < ((rd_T30 t369 x14_1).f1)) = true := decide_eq_true c16
                    clear c16
                    have H' := Aside0.mk H
                    clear H
                    have hcz17_0 : w12.cell? ⟨gb373, 0, none⟩ = some (.int .i32 0) := (blk_cell BK373.out 0).trans rfl
                    have hcz17_1 : w12.cell? ⟨gb373, 1, none⟩ = some (.int .i64 0) := (blk_cell BK373.out 1).trans rfl
                    have hfz17_0 := blk_frozen BK373.out 0
                    have hfz17_1 := blk_frozen BK373.out 1
                    go_wp2
                    go_meet
                    case rel => exact ⟨_, (true), (by first | rfl | (simp; done) | (simp [*]; done)), H', ⟨by have := HK1.out; first | omega | exact Nat.le_refl _⟩, ⟨by (with_reducible repeat (first | apply Kd.R_alloc | apply Kd.R_drewN | apply Kd.R_drew)); exact Kd.R_mono (Kd.R_far (p := ⟨gb373, 1, none⟩) (Kd.R_far (p := ⟨gb373, 0, none⟩) (Kd.R_mono HO_12.out (fun k_ hk => (⟨hk, hk.2⟩ : _ ∧ k_ ≠ gb373))) (fun _ hk => hk.2) (.int .i32 ((rd_T30 t369 x14_1).f0))) (fun _ hk => hk.2) (.int .i64 ((rd_T30 t369 x14_1).f1))) (fun _ hk => hk.1.2)⟩, ⟨by (with_reducible repeat (first | refine blk_drewN ?_ _ | refine blk_drew ?_ | refine blk_alloc ?_ _)); refine blk_put (cs := #[.int .i32 ((rd_T30 t369 x14_1).f0), .int .i64 0]) ?_ 1 _ rfl; (with_reducible repeat (first | refine blk_drewN ?_ _ | refine blk_drew ?_ | refine blk_alloc ?_ _)); refine blk_put (cs := #[.int .i32 0, .int .i64 0]) ?_ 0 _ rfl; (with_reducible repeat (first | refine blk_drewN ?_ _ | refine blk_drew ?_ | refine blk_alloc ?_ _)); exact BK373.out⟩, ⟨by repeat (first | (with_reducible first | exact HB.out | apply below_alloc | apply pw_below_drewN | apply below_drew1 | refine below_set ?_ GE373.out) | exact HB.out)⟩⟩
                  · rw [if_neg c16] at H
                    have c16b0 : decide (4 < ((rd_T30 t369 x14_1).f1)) = false := decide_eq_false c16
                    clear c16
                    have H' := Aside0.mk H
                    clear H
                    have hcz18_0 : w12.cell? ⟨gb373, 0, none⟩ = some (.int .i32 0) := (blk_cell BK373.out 0).trans rfl
                    have hcz18_1 : w12.cell? ⟨gb373, 1, none⟩ = some (.int .i64 0) := (blk_cell BK373.out 1).trans rfl
                    have hfz18_0 := blk_frozen BK373.out 0
                    have hfz18_1 := blk_frozen BK373.out 1
                    go_wp2
                    go_meet
                    case rel => exact ⟨_, (decide ((wrap64 (x3_1 + ((rd_T30 t369 x14_1).f1))) > (a0.size : Int))), (by first | rfl | (simp; done) | (simp [*]; done)), H', ⟨by have := HK1.out; first | omega | exact Nat.le_refl _⟩, ⟨by (with_reducible repeat (first | apply Kd.R_alloc | apply Kd.R_drewN | apply Kd.R_drew)); exact Kd.R_mono (Kd.R_far (p := ⟨gb373, 1, none⟩) (Kd.R_far (p := ⟨gb373, 0, none⟩) (Kd.R_mono HO_12.out (fun k_ hk => (⟨hk, hk.2⟩ : _ ∧ k_ ≠ gb373))) (fun _ hk => hk.2) (.int .i32 ((rd_T30 t369 x14_1).f0))) (fun _ hk => hk.2) (.int .i64 ((rd_T30 t369 x14_1).f1))) (fun _ hk => hk.1.2)⟩, ⟨by (with_reducible repeat (first | refine blk_drewN ?_ _ | refine blk_drew ?_ | refine blk_alloc ?_ _)); refine blk_put (cs := #[.int .i32 ((rd_T30 t369 x14_1).f0), .int .i64 0]) ?_ 1 _ rfl; (with_reducible repeat (first | refine blk_drewN ?_ _ | refine blk_drew ?_ | refine blk_alloc ?_ _)); refine blk_put (cs := #[.int .i32 0, .int .i64 0]) ?_ 0 _ rfl; (with_reducible repeat (first | refine blk_drewN ?_ _ | refine blk_drew ?_ | refine blk_alloc ?_ _)); exact BK373.out⟩, ⟨by repeat (first | (with_reducible first | exact HB.out | apply below_alloc | apply pw_below_drewN | apply below_drew1 | refine below_set ?_ GE373.out) | exact HB.out)⟩⟩
              case rest =>
                clear HC11
                try clear c1
                try clear c2
                try clear p2
                try clear c3
                try clear p3
                try clear q3
                try clear hx3
                try clear p6
                try clear c8
                try clear c8b0
                try clear c9
                try clear c9b0
                try clear c10
                try clear c10b0
                try clear c11
                try clear c14
                try clear c14b0
                try clear c16
                try clear c16b0
                try clear hcz13_0
                try clear hcz13_1
                try clear hcz15_0
                try clear hcz15_1
                try clear hcz17_0
                try clear hcz17_1
                try clear hcz18_0
                try clear hcz18_1
                try clear hfz13_0
                try clear hfz13_1
                try clear hfz15_0
                try clear hfz15_1
                try clear hfz17_0
                try clear hfz17_1
                try clear hfz18_0
                try clear hfz18_1
                try clear hx372_0
                try clear hx372_1
                try clear p2
                try clear p372
                try clear q372
                obtain ⟨kq, x34_10, rfl, HA, HJ10, HO_12, BK373, HB⟩ := hcut
                cases kq with
                | zero => exact absurd HA.out (by simp [bodkinlaw01_UnitTiles.j1])
                | succ kj10 =>
                  have H := HA.out
                  clear HA
                  simp only [bodkinlaw01_UnitTiles.j1] at H
                  by_cases c19 : x34_10 = true
                  · subst c19
                    have H1 : (some false) = some r := by rw [if_pos rfl] at H; exact H
                    clear H
                    have H := H1
                    clear H1
                    obtain rfl := Option.some.inj H
                    go_wp2
                    go_ret
                    exact ⟨by first | rfl | (simp [errW_none, errW_some] <;> rfl) | (simp [*, errW_none, errW_some] <;> rfl), by repeat (first | (with_reducible first | exact HB.out | apply below_alloc | apply pw_below_drewN | apply below_drew1 | refine below_set ?_ GE373.out) | exact HB.out)⟩
                  · replace c19 := Bool.eq_false_iff.mpr c19
                    subst c19
                    have H1 : (if 0 ≤ x3_1 then (if x3_1 ≤ (wrap64 (x3_1 + ((rd_T30 t369 x14_1).f1))) then (if (wrap64 (x3_1 + ((rd_T30 t369 x14_1).f1))) ≤ (a0.size : Int) then (if ((rd_T30 t369 x14_1).f0) ≥ 0 then ((unit_Encode.f kj10 (([((rd_T30 t369 x14_1).f0)] : List Int))).bind fun t377 => (bodkinlaw01_UnitTiles.j2 kj10 a0 x3_1 t369 (t369.length : Int) x14_1 (t377.toList != (a0.extract (x3_1 : Int).toNat ((wrap64 (x3_1 + ((rd_T30 t369 x14_1).f1))) : Int).toNat).toList) ((rd_T30 t369 x14_1).f0) ((rd_T30 t369 x14_1).f1))) else (bodkinlaw01_UnitTiles.j2 kj10 a0 x3_1 t369 (t369.length : Int) x14_1 false ((rd_T30 t369 x14_1).f0) ((rd_T30 t369 x14_1).f1))) else (none)) else (none)) else (none)) = some r := by rw [if_neg (show ¬ (false = true) by decide)] at H; exact H
                    clear H
                    have H := H1
                    clear H1
                    by_cases c20 : 0 ≤ x3_1
                    · rw [if_pos c20] at H
                      have c20b0 := eq_true c20
                      have c20b1 : decide (0 ≤ x3_1) = true := decide_eq_true c20
                      clear c20
                      by_cases c21 : x3_1 ≤ (wrap64 (x3_1 + ((rd_T30 t369 x14_1).f1)))
                      · rw [if_pos c21] at H
                        have c21b0 := eq_true c21
                        have c21b1 : decide (x3_1 ≤ (wrap64 (x3_1 + ((rd_T30 t369 x14_1).f1)))) = true := decide_eq_true c21
                        by_cases c22 : (wrap64 (x3_1 + ((rd_T30 t369 x14_1).f1))) ≤ (a0.size : Int)
                        · rw [if_pos c22] at H
                          have c22b0 := eq_true c22
                          have c22b1 : decide ((wrap64 (x3_1 + ((rd_T30 t369 x14_1).f1))) ≤ (a0.size : Int)) = true := decide_eq_true c22
                          have HC23 := Aside0.mk H
                          clear H
                          have hcz24_0 : wc.cell? ⟨gb373, 0, none⟩ = some (.int .i32 ((rd_T30 t369 x14_1).f0)) := (blk_cell BK373.out 0).trans rfl
                          have hcz24_1 : wc.cell? ⟨gb373, 1, none⟩ = some (.int .i64 ((rd_T30 t369 x14_1).f1)) := (blk_cell BK373.out 1).trans rfl
                          have hfz24_0 := blk_frozen BK373.out 0
                          have hfz24_1 := blk_frozen BK373.out 1
                          go_upto_region 10 with (fail)
                          go_cut [52] (fun v52 wc => ∃ (kq : Nat) (x52_22 : Bool), v52 = .bool x52_22 ∧ Aside0 (bodkinlaw01_UnitTiles.j2 kq a0 x3_1 t369 (t369.length : Int) x14_1 x52_22 ((rd_T30 t369 x14_1).f0) ((rd_T30 t369 x14_1).f1) = some r) ∧ Aside0 (kq ≤ kj10) ∧ Aside0 (Kd.R k30 30 wc w.heap.size (fun k_ => k_ ≠ gb373) (.slice (some ad372) t369.length co7) t369) ∧ Aside0 (wc.heap[gb373]? = some (.cells #[.int .i32 ((rd_T30 t369 x14_1).f0), .int .i64 ((rd_T30 t369 x14_1).f1)] 30 (0, 0))) ∧ Aside0 (Below w.heap.size w wc))
                          case first =>
                            have H := HC23.out
                            clear HC23
                            by_cases c25 : ((rd_T30 t369 x14_1).f0) ≥ 0
                            · rw [if_pos c25] at H
                              have c25b0 : decide (0 ≤ ((rd_T30 t369 x14_1).f0)) = true := decide_eq_true c25
                              clear c25
                              (first | rw [c25b0] | (simp only [i64_w, i32_w]; rw [c25b0]) | skip)
                              obtain ⟨y374, hy374⟩ : ∃ y_ : List Int, y_ = (([((rd_T30 t369 x14_1).f0)] : List Int)) := ⟨_, rfl⟩
                              replace H : ((unit_Encode.f kj10 y374).bind fun t377 => (bodkinlaw01_UnitTiles.j2 kj10 a0 x3_1 t369 (t369.length : Int) x14_1 (t377.toList != (a0.extract (x3_1 : Int).toNat ((wrap64 (x3_1 + ((rd_T30 t369 x14_1).f1))) : Int).toNat).toList) ((rd_T30 t369 x14_1).f0) ((rd_T30 t369 x14_1).f1))) = some r := by first | (rw [hy374]; with_reducible exact H) | (have H2_ := (Option.bind_some _ _).symm.trans H; rw [hy374]; with_reducible exact H2_) | (have H2_ := (Option.bind_some _ _).symm.trans H; with_reducible exact H2_) | with_reducible exact H | (rw [hy374]; exact H) | exact H
                              have Ny374 := Aside0.mk hy374
                              clear hy374
                              replace H := Option.bind_eq_some_iff.mp H
                              obtain ⟨t377, A260, H⟩ := H
                              replace H : (bodkinlaw01_UnitTiles.j2 kj10 a0 x3_1 t369 (t369.length : Int) x14_1 (t377.toList != (a0.extract (x3_1 : Int).toNat ((wrap64 (x3_1 + ((rd_T30 t369 x14_1).f1))) : Int).toNat).toList) ((rd_T30 t369 x14_1).f0) ((rd_T30 t369 x14_1).f1)) = some r := H
                              have A26 := Aside0.mk A260
                              clear A260
                              have H' := Aside0.mk H
                              clear H
                              have hcz27_0 : wc.cell? ⟨gb373, 0, none⟩ = some (.int .i32 ((rd_T30 t369 x14_1).f0)) := (blk_cell BK373.out 0).trans rfl
                              have hcz27_1 : wc.cell? ⟨gb373, 1, none⟩ = some (.int .i64 ((rd_T30 t369 x14_1).f1)) := (blk_cell BK373.out 1).trans rfl
                              have hfz27_0 := blk_frozen BK373.out 0
                              have hfz27_1 := blk_frozen BK373.out 1
                              go_wp2_with (first | ((with_reducible refine gate_dst (N := 48) rfl ?_); (try (refine gate_guard (by rfl) ?_; dsimp only)); refine Kd.R_lit (Kd.int .i32) _ 21 ?hg (N := 48) ?hd (xs := ([((rd_T30 t369 x14_1).f0)] : List Int)) (inner := [.int .i32 ((rd_T30 t369 x14_1).f0)]) (ok := fun _ => True) (okp := fun _ => True) ?hr ?hp (fun _ hk => hk) trivial (Below.refl _ _) (Nat.le_refl _) (by simp) ?_; (case hd => rfl); (case hg => rfl); (case hr => first | (go_simp; done) | (go_simp; rfl)); (case hp => exact (Reps.one (show Kd.M (Kd.int .i32) _ _ _ ((rd_T30 t369 x14_1).f0) [.int .i32 ((rd_T30 t369 x14_1).f0)] from rfl) (Reps.none _ _))); intro v375 w28 ho29 hb hg_ hnew_; clear hg_ hnew_; (first | rw [← Ny374.out] at ho29 | (simp only [Int.reduceToNat] at ho29; rw [← Ny374.out] at ho29)); have n0_ := Aside0.mk (Kd.R_below (by (with_reducible repeat (first | apply Kd.R_alloc | apply Kd.R_drewN | apply Kd.R_drew)); exact HO_12.out) hb); have n1_ := Aside0.mk (Kd.R_lower ho29 (below_size (by repeat (first | (with_reducible first | exact HB.out | apply below_alloc | apply pw_below_drewN | apply below_drew1 | refine below_set ?_ GE373.out) | exact HB.out)))); have n2_ := Aside0.mk (blk_below (g := gb373) (o := .cells #[.int .i32 ((rd_T30 t369 x14_1).f0), .int .i64 ((rd_T30 t369 x14_1).f1)] 30 (0, 0)) (by (with_reducible repeat (first | refine blk_drewN ?_ _ | refine blk_drew ?_ | refine blk_alloc ?_ _)); exact BK373.out) hb); have n3_ := Aside0.mk (below_step (by repeat (first | (with_reducible first | exact HB.out | apply below_alloc | apply pw_below_drewN | apply below_drew1 | refine below_set ?_ GE373.out) | exact HB.out)) hb); clear HO_12; clear BK373; clear HB; have HO_12 := n0_; have HO376 := n1_; have BK373 := n2_; have HB := n3_; clear n0_ n1_ n2_ n3_; clear hb ho29; obtain ⟨Ao30, co30, eo30⟩ := Kd.R_slice HO376.out; subst eo30) | (go_at_call 36; (with_reducible refine (unit_Encode.calls kj10 _ _ y374 t377 _ ?side1 ?side2 A26.out).mono ?_); (case side1 => repeat (first | exact (Kd.R_reads' HO376.out).2.2 | (with_reducible refine Kd.C_alloc ?_ _) | (with_reducible refine Kd.C_drewN ?_ _) | (with_reducible refine Kd.C_drew ?_))); (case side2 => exact (Kd.R_reads' HO376.out).2.1); rintro e w31 ⟨rfl, hb⟩; have n0_ := Aside0.mk (Kd.R_below (by (with_reducible repeat (first | apply Kd.R_alloc | apply Kd.R_drewN | apply Kd.R_drew)); exact HO_12.out) hb); have n1_ := Aside0.mk (Kd.R_below (by (with_reducible repeat (first | apply Kd.R_alloc | apply Kd.R_drewN | apply Kd.R_drew)); exact HO376.out) hb); have n2_ := Aside0.mk (blk_below (g := gb373) (o := .cells #[.int .i32 ((rd_T30 t369 x14_1).f0), .int .i64 ((rd_T30 t369 x14_1).f1)] 30 (0, 0)) (by (with_reducible repeat (first | refine blk_drewN ?_ _ | refine blk_drew ?_ | refine blk_alloc ?_ _)); exact BK373.out) hb); have n3_ := Aside0.mk (below_step (by repeat (first | (with_reducible first | exact HB.out | apply below_alloc | apply pw_below_drewN | apply below_drew1 | refine below_set ?_ GE373.out) | exact HB.out)) hb); clear HO_12; clear HO376; clear BK373; clear HB; have HO_12 := n0_; have HO376 := n1_; have BK373 := n2_; have HB := n3_; clear n0_ n1_ n2_ n3_; (try clear hb); (try clear hb2); (try clear hk); (try clear hi)))
                              go_meet
                              case rel => exact ⟨_, ((t377.toList != (a0.extract (x3_1 : Int).toNat ((wrap64 (x3_1 + ((rd_T30 t369 x14_1).f1))) : Int).toNat).toList)), (by first | rfl | (simp; done) | (simp [*]; done)), H', ⟨by have := HK1.out; have := HJ10.out; first | omega | exact Nat.le_refl _⟩, ⟨by (with_reducible repeat (first | apply Kd.R_alloc | apply Kd.R_drewN | apply Kd.R_drew)); exact HO_12.out⟩, ⟨by (with_reducible repeat (first | refine blk_drewN ?_ _ | refine blk_drew ?_ | refine blk_alloc ?_ _)); exact BK373.out⟩, ⟨by repeat (first | (with_reducible first | exact HB.out | apply below_alloc | apply pw_below_drewN | apply below_drew1 | refine below_set ?_ GE373.out) | exact HB.out)⟩⟩
                            · rw [if_neg c25] at H
                              have c25b0 : decide (0 ≤ ((rd_T30 t369 x14_1).f0)) = false := decide_eq_false c25
                              clear c25
                              (first | rw [c25b0] | (simp only [i64_w, i32_w]; rw [c25b0]) | skip)
                              have H' := Aside0.mk H
                              clear H
                              have hcz32_0 : wc.cell? ⟨gb373, 0, none⟩ = some (.int .i32 ((rd_T30 t369 x14_1).f0)) := (blk_cell BK373.out 0).trans rfl
                              have hcz32_1 : wc.cell? ⟨gb373, 1, none⟩ = some (.int .i64 ((rd_T30 t369 x14_1).f1)) := (blk_cell BK373.out 1).trans rfl
                              have hfz32_0 := blk_frozen BK373.out 0
                              have hfz32_1 := blk_frozen BK373.out 1
                              go_wp2
                              go_meet
                              case rel => exact ⟨_, (false), (by first | rfl | (simp; done) | (simp [*]; done)), H', ⟨by have := HK1.out; have := HJ10.out; first | omega | exact Nat.le_refl _⟩, ⟨by (with_reducible repeat (first | apply Kd.R_alloc | apply Kd.R_drewN | apply Kd.R_drew)); exact HO_12.out⟩, ⟨by (with_reducible repeat (first | refine blk_drewN ?_ _ | refine blk_drew ?_ | refine blk_alloc ?_ _)); exact BK373.out⟩, ⟨by repeat (first | (with_reducible first | exact HB.out | apply below_alloc | apply pw_below_drewN | apply below_drew1 | refine below_set ?_ GE373.out) | exact HB.out)⟩⟩
                          case rest =>
                            clear HC23
                            try clear c1
                            try clear c2
                            try clear p2
                            try clear c3
                            try clear p3
                            try clear q3
                            try clear hx3
                            try clear p6
                            try clear c8
                            try clear c8b0
                            try clear c9
                            try clear c9b0
                            try clear c10
                            try clear c10b0
                            try clear c11
                            try clear c14
                            try clear c14b0
                            try clear c16
                            try clear c16b0
                            try clear c19
                            try clear c20
                            try clear c20b0
                            try clear c20b1
                            try clear c21
                            try clear c21b0
                            try clear c21b1
                            try clear c22
                            try clear c22b0
                            try clear c22b1
                            try clear c23
                            try clear c25
                            try clear c25b0
                            try clear hcz13_0
                            try clear hcz13_1
                            try clear hcz15_0
                            try clear hcz15_1
                            try clear hcz17_0
                            try clear hcz17_1
                            try clear hcz18_0
                            try clear hcz18_1
                            try clear hcz24_0
                            try clear hcz24_1
                            try clear hcz27_0
                            try clear hcz27_1
                            try clear hcz32_0
                            try clear hcz32_1
                            try clear hfz13_0
                            try clear hfz13_1
                            try clear hfz15_0
                            try clear hfz15_1
                            try clear hfz17_0
                            try clear hfz17_1
                            try clear hfz18_0
                            try clear hfz18_1
                            try clear hfz24_0
                            try clear hfz24_1
                            try clear hfz27_0
                            try clear hfz27_1
                            try clear hfz32_0
                            try clear hfz32_1
                            try clear hx372_0
                            try clear hx372_1
                            try clear p2
                            try clear p3
                            try clear p372
                            try clear p6
                            try clear q3
                            try clear q372
                            obtain ⟨kq, x52_22, rfl, HA, HJ22, HO_12, BK373, HB⟩ := hcut
                            cases kq with
                            | zero => exact absurd HA.out (by simp [bodkinlaw01_UnitTiles.j2])
                            | succ kj22 =>
                              have H := HA.out
                              clear HA
                              simp only [bodkinlaw01_UnitTiles.j2] at H
                              by_cases c33 : x52_22 = true
                              · subst c33
                                have H1 : (some false) = some r := by rw [if_pos rfl] at H; exact H
                                clear H
                                have H := H1
                                clear H1
                                obtain rfl := Option.some.inj H
                                go_wp2
                                go_ret
                                exact ⟨by first | rfl | (simp [errW_none, errW_some] <;> rfl) | (simp [*, errW_none, errW_some] <;> rfl), by repeat (first | (with_reducible first | exact HB.out | apply below_alloc | apply pw_below_drewN | apply below_drew1 | refine below_set ?_ GE373.out) | exact HB.out)⟩
                              · replace c33 := Bool.eq_false_iff.mpr c33
                                subst c33
                                have H1 : (if ((rd_T30 t369 x14_1).f0) < 0 then (if ((rd_T30 t369 x14_1).f0) = (-1) then (bodkinlaw01_UnitTiles.j3 kj22 a0 x3_1 t369 (t369.length : Int) x14_1 (((rd_T30 t369 x14_1).f1) != 1) ((rd_T30 t369 x14_1).f0) ((rd_T30 t369 x14_1).f1)) else (bodkinlaw01_UnitTiles.j3 kj22 a0 x3_1 t369 (t369.length : Int) x14_1 true ((rd_T30 t369 x14_1).f0) ((rd_T30 t369 x14_1).f1))) else (bodkinlaw01_UnitTiles.j3 kj22 a0 x3_1 t369 (t369.length : Int) x14_1 false ((rd_T30 t369 x14_1).f0) ((rd_T30 t369 x14_1).f1))) = some r := by rw [if_neg (show ¬ (false = true) by decide)] at H; exact H
                                clear H
                                have H := H1
                                clear H1
                                have HC34 := Aside0.mk H
                                clear H
                                go_upto_region 12 with (fail)
                                go_cut [65] (fun v65 wc => ∃ (kq : Nat) (x65_33 : Bool), v65 = .bool x65_33 ∧ Aside0 (bodkinlaw01_UnitTiles.j3 kq a0 x3_1 t369 (t369.length : Int) x14_1 x65_33 ((rd_T30 t369 x14_1).f0) ((rd_T30 t369 x14_1).f1) = some r) ∧ Aside0 (kq ≤ kj22) ∧ Aside0 (Kd.R k30 30 wc w.heap.size (fun k_ => k_ ≠ gb373) (.slice (some ad372) t369.length co7) t369) ∧ Aside0 (wc.heap[gb373]? = some (.cells #[.int .i32 ((rd_T30 t369 x14_1).f0), .int .i64 ((rd_T30 t369 x14_1).f1)] 30 (0, 0))) ∧ Aside0 (Below w.heap.size w wc))
                                case first =>
                                  have H := HC34.out
                                  clear HC34
                                  by_cases c35 : ((rd_T30 t369 x14_1).f0) < 0
                                  · rw [if_pos c35] at H
                                    have c35b0 : decide (((rd_T30 t369 x14_1).f0) < 0) = true := decide_eq_true c35
                                    clear c35
                                    (first | rw [c35b0] | (simp only [i64_w, i32_w]; rw [c35b0]) | skip)
                                    by_cases c36 : ((rd_T30 t369 x14_1).f0) = (-1)
                                    · rw [if_pos c36] at H
                                      have c36b0 : (((rd_T30 t369 x14_1).f0) == (-1)) = true := beq_iff_eq.mpr c36
                                      have c36b1 : (((rd_T30 t369 x14_1).f0) != (-1)) = false := bne_eq_false_iff_eq.mpr c36
                                      clear c36
                                      have H' := Aside0.mk H
                                      clear H
                                      have hcz37_0 : wc.cell? ⟨gb373, 0, none⟩ = some (.int .i32 ((rd_T30 t369 x14_1).f0)) := (blk_cell BK373.out 0).trans rfl
                                      have hcz37_1 : wc.cell? ⟨gb373, 1, none⟩ = some (.int .i64 ((rd_T30 t369 x14_1).f1)) := (blk_cell BK373.out 1).trans rfl
                                      have hfz37_0 := blk_frozen BK373.out 0
                                      have hfz37_1 := blk_frozen BK373.out 1
                                      go_wp2
                                      go_meet
                                      case rel => exact ⟨_, ((((rd_T30 t369 x14_1).f1) != 1)), (by first | rfl | (simp; done) | (simp [*]; done)), H', ⟨by have := HK1.out; have := HJ10.out; have := HJ22.out; first | omega | exact Nat.le_refl _⟩, ⟨by (with_reducible repeat (first | apply Kd.R_alloc | apply Kd.R_drewN | apply Kd.R_drew)); exact HO_12.out⟩, ⟨by (with_reducible repeat (first | refine blk_drewN ?_ _ | refine blk_drew ?_ | refine blk_alloc ?_ _)); exact BK373.out⟩, ⟨by repeat (first | (with_reducible first | exact HB.out | apply below_alloc | apply pw_below_drewN | apply below_drew1 | refine below_set ?_ GE373.out) | exact HB.out)⟩⟩
                                    · rw [if_neg c36] at H
                                      have c36b0 : (((rd_T30 t369 x14_1).f0) == (-1)) = false := beq_eq_false_iff_ne.mpr c36
                                      have c36b1 : (((rd_T30 t369 x14_1).f0) != (-1)) = true := bne_iff_ne.mpr c36
                                      have H' := Aside0.mk H
                                      clear H
                                      have hcz38_0 : wc.cell? ⟨gb373, 0, none⟩ = some (.int .i32 ((rd_T30 t369 x14_1).f0)) := (blk_cell BK373.out 0).trans rfl
                                      have hcz38_1 : wc.cell? ⟨gb373, 1, none⟩ = some (.int .i64 ((rd_T30 t369 x14_1).f1)) := (blk_cell BK373.out 1).trans rfl
                                      have hfz38_0 := blk_frozen BK373.out 0
                                      have hfz38_1 := blk_frozen BK373.out 1
                                      go_wp2
                                      go_meet
                                      case rel => exact ⟨_, (true), (by first | rfl | (simp; done) | (simp [*]; done)), H', ⟨by have := HK1.out; have := HJ10.out; have := HJ22.out; first | omega | exact Nat.le_refl _⟩, ⟨by (with_reducible repeat (first | apply Kd.R_alloc | apply Kd.R_drewN | apply Kd.R_drew)); exact HO_12.out⟩, ⟨by (with_reducible repeat (first | refine blk_drewN ?_ _ | refine blk_drew ?_ | refine blk_alloc ?_ _)); exact BK373.out⟩, ⟨by repeat (first | (with_reducible first | exact HB.out | apply below_alloc | apply pw_below_drewN | apply below_drew1 | refine below_set ?_ GE373.out) | exact HB.out)⟩⟩
                                  · rw [if_neg c35] at H
                                    have c35b0 : decide (((rd_T30 t369 x14_1).f0) < 0) = false := decide_eq_false c35
                                    clear c35
                                    (first | rw [c35b0] | (simp only [i64_w, i32_w]; rw [c35b0]) | skip)
                                    have H' := Aside0.mk H
                                    clear H
                                    have hcz39_0 : wc.cell? ⟨gb373, 0, none⟩ = some (.int .i32 ((rd_T30 t369 x14_1).f0)) := (blk_cell BK373.out 0).trans rfl
                                    have hcz39_1 : wc.cell? ⟨gb373, 1, none⟩ = some (.int .i64 ((rd_T30 t369 x14_1).f1)) := (blk_cell BK373.out 1).trans rfl
                                    have hfz39_0 := blk_frozen BK373.out 0
                                    have hfz39_1 := blk_frozen BK373.out 1
                                    go_wp2
                                    go_meet
                                    case rel => exact ⟨_, (false), (by first | rfl | (simp; done) | (simp [*]; done)), H', ⟨by have := HK1.out; have := HJ10.out; have := HJ22.out; first | omega | exact Nat.le_refl _⟩, ⟨by (with_reducible repeat (first | apply Kd.R_alloc | apply Kd.R_drewN | apply Kd.R_drew)); exact HO_12.out⟩, ⟨by (with_reducible repeat (first | refine blk_drewN ?_ _ | refine blk_drew ?_ | refine blk_alloc ?_ _)); exact BK373.out⟩, ⟨by repeat (first | (with_reducible first | exact HB.out | apply below_alloc | apply pw_below_drewN | apply below_drew1 | refine below_set ?_ GE373.out) | exact HB.out)⟩⟩
                                case rest =>
                                  clear HC34
                                  try clear c1
                                  try clear c2
                                  try clear p2
                                  try clear c3
                                  try clear p3
                                  try clear q3
                                  try clear hx3
                                  try clear p6
                                  try clear c8
                                  try clear c8b0
                                  try clear c9
                                  try clear c9b0
                                  try clear c10
                                  try clear c10b0
                                  try clear c11
                                  try clear c14
                                  try clear c14b0
                                  try clear c16
                                  try clear c16b0
                                  try clear c19
                                  try clear c20
                                  try clear c20b0
                                  try clear c20b1
                                  try clear c21
                                  try clear c21b0
                                  try clear c21b1
                                  try clear c22
                                  try clear c22b0
                                  try clear c22b1
                                  try clear c23
                                  try clear c25
                                  try clear c25b0
                                  try clear c33
                                  try clear c35
                                  try clear c35b0
                                  try clear c36
                                  try clear c36b0
                                  try clear c36b1
                                  try clear p37
                                  try clear q37
                                  try clear hx37
                                  try clear hcz13_0
                                  try clear hcz13_1
                                  try clear hcz15_0
                                  try clear hcz15_1
                                  try clear hcz17_0
                                  try clear hcz17_1
                                  try clear hcz18_0
                                  try clear hcz18_1
                                  try clear hcz24_0
                                  try clear hcz24_1
                                  try clear hcz27_0
                                  try clear hcz27_1
                                  try clear hcz32_0
                                  try clear hcz32_1
                                  try clear hcz37_0
                                  try clear hcz37_1
                                  try clear hcz38_0
                                  try clear hcz38_1
                                  try clear hcz39_0
                                  try clear hcz39_1
                                  try clear hfz13_0
                                  try clear hfz13_1
                                  try clear hfz15_0
                                  try clear hfz15_1
                                  try clear hfz17_0
                                  try clear hfz17_1
                                  try clear hfz18_0
                                  try clear hfz18_1
                                  try clear hfz24_0
                                  try clear hfz24_1
                                  try clear hfz27_0
                                  try clear hfz27_1
                                  try clear hfz32_0
                                  try clear hfz32_1
                                  try clear hfz37_0
                                  try clear hfz37_1
                                  try clear hfz38_0
                                  try clear hfz38_1
                                  try clear hfz39_0
                                  try clear hfz39_1
                                  try clear hx372_0
                                  try clear hx372_1
                                  try clear p2
                                  try clear p3
                                  try clear p372
                                  try clear p6
                                  try clear q3
                                  try clear q372
                                  obtain ⟨kq, x65_33, rfl, HA, HJ33, HO_12, BK373, HB⟩ := hcut
                                  cases kq with
                                  | zero => exact absurd HA.out (by simp [bodkinlaw01_UnitTiles.j3])
                                  | succ kj33 =>
                                    have H := HA.out
                                    clear HA
                                    simp only [bodkinlaw01_UnitTiles.j3] at H
                                    by_cases c40 : x65_33 = true
                                    · subst c40
                                      have H1 : (some false) = some r := by rw [if_pos rfl] at H; exact H
                                      clear H
                                      have H := H1
                                      clear H1
                                      obtain rfl := Option.some.inj H
                                      go_wp2
                                      go_ret
                                      exact ⟨by first | rfl | (simp [errW_none, errW_some] <;> rfl) | (simp [*, errW_none, errW_some] <;> rfl), by repeat (first | (with_reducible first | exact HB.out | apply below_alloc | apply pw_below_drewN | apply below_drew1 | refine below_set ?_ GE373.out) | exact HB.out)⟩
                                    · replace c40 := Bool.eq_false_iff.mpr c40
                                      subst c40
                                      have H1 : (bodkinlaw01_UnitTiles.l1 kj33 a0 x3_1 1 t369 (t369.length : Int) x14_1 ((rd_T30 t369 x14_1).f0) ((rd_T30 t369 x14_1).f1)) = some r := by rw [if_neg (show ¬ (false = true) by decide)] at H; exact H
                                      clear H
                                      have H := H1
                                      clear H1
                                      have H' := Aside0.mk H
                                      clear H
                                      go_wp2
                                      go_loopg [7] kj33 (fun kq v7 w' => ∃ (x7_5 : Int), v7 = .int .i64 x7_5 ∧ Aside0 (bodkinlaw01_UnitTiles.l1 kq a0 x3_1 x7_5 t369 (t369.length : Int) x14_1 ((rd_T30 t369 x14_1).f0) ((rd_T30 t369 x14_1).f1) = some r) ∧ Aside0 (kq ≤ kj33) ∧ Aside0 (Kd.R k30 30 w' w.heap.size (fun k_ => k_ ≠ gb373) (.slice (some ad372) t369.length co7) t369) ∧ Aside0 (w'.heap[gb373]? = some (.cells #[.int .i32 ((rd_T30 t369 x14_1).f0), .int .i64 ((rd_T30 t369 x14_1).f1)] 30 (0, 0))) ∧ Aside0 (Below w.heap.size w w'))
                                      case atStart => exact ⟨(1), (by first | rfl | (simp; done) | (simp [*]; done)), H', ⟨Nat.le_refl _⟩, ⟨by (with_reducible repeat (first | apply Kd.R_alloc | apply Kd.R_drewN | apply Kd.R_drew)); exact HO_12.out⟩, ⟨by (with_reducible repeat (first | refine blk_drewN ?_ _ | refine blk_drew ?_ | refine blk_alloc ?_ _)); exact BK373.out⟩, ⟨by repeat (first | (with_reducible first | exact HB.out | apply below_alloc | apply pw_below_drewN | apply below_drew1 | refine below_set ?_ GE373.out) | exact HB.out)⟩⟩
                                      case round =>
                                        clear H'
                                        try clear c1
                                        try clear c2
                                        try clear p2
                                        try clear c3
                                        try clear p3
                                        try clear q3
                                        try clear hx3
                                        try clear c4
                                        try clear p6
                                        try clear c8
                                        try clear c8b0
                                        try clear c9
                                        try clear c9b0
                                        try clear c10
                                        try clear c10b0
                                        try clear c11
                                        try clear c14
                                        try clear c14b0
                                        try clear c16
                                        try clear c16b0
                                        try clear c19
                                        try clear c20
                                        try clear c20b0
                                        try clear c20b1
                                        try clear c21
                                        try clear c21b0
                                        try clear c21b1
                                        try clear c22
                                        try clear c22b0
                                        try clear c22b1
                                        try clear c23
                                        try clear c25
                                        try clear c25b0
                                        try clear c33
                                        try clear c35
                                        try clear c35b0
                                        try clear c36
                                        try clear c36b0
                                        try clear c36b1
                                        try clear p37
                                        try clear q37
                                        try clear hx37
                                        try clear c40
                                        try clear hcz13_0
                                        try clear hcz13_1
                                        try clear hcz15_0
                                        try clear hcz15_1
                                        try clear hcz17_0
                                        try clear hcz17_1
                                        try clear hcz18_0
                                        try clear hcz18_1
                                        try clear hcz24_0
                                        try clear hcz24_1
                                        try clear hcz27_0
                                        try clear hcz27_1
                                        try clear hcz32_0
                                        try clear hcz32_1
                                        try clear hcz37_0
                                        try clear hcz37_1
                                        try clear hcz38_0
                                        try clear hcz38_1
                                        try clear hcz39_0
                                        try clear hcz39_1
                                        try clear hfz13_0
                                        try clear hfz13_1
                                        try clear hfz15_0
                                        try clear hfz15_1
                                        try clear hfz17_0
                                        try clear hfz17_1
                                        try clear hfz18_0
                                        try clear hfz18_1
                                        try clear hfz24_0
                                        try clear hfz24_1
                                        try clear hfz27_0
                                        try clear hfz27_1
                                        try clear hfz32_0
                                        try clear hfz32_1
                                        try clear hfz37_0
                                        try clear hfz37_1
                                        try clear hfz38_0
                                        try clear hfz38_1
                                        try clear hfz39_0
                                        try clear hfz39_1
                                        try clear hx372_0
                                        try clear hx372_1
                                        try clear p2
                                        try clear p3
                                        try clear p37
                                        try clear p372
                                        try clear p6
                                        try clear q3
                                        try clear q37
                                        try clear q372
                                        obtain ⟨x7_5, rfl, HA, HK5, HO_12, BK373, HB⟩ := hrel
                                        cases gk with
                                        | zero => exact absurd HA.out (by simp [bodkinlaw01_UnitTiles.l1])
                                        | succ k5 =>
                                          have H := HA.out
                                          clear HA
                                          simp only [bodkinlaw01_UnitTiles.l1] at H
                                          have HC41 := Aside0.mk H
                                          clear H
                                          go_upto_region 15 with (fail)
                                          go_cut [80] (fun v80 wc => ∃ (kq : Nat) (x80_40 : Bool), v80 = .bool x80_40 ∧ Aside0 (bodkinlaw01_UnitTiles.j5 kq a0 x3_1 x7_5 t369 (t369.length : Int) x14_1 x80_40 ((rd_T30 t369 x14_1).f0) ((rd_T30 t369 x14_1).f1) = some r) ∧ Aside0 (kq ≤ k5) ∧ Aside0 (Kd.R k30 30 wc w.heap.size (fun k_ => k_ ≠ gb373) (.slice (some ad372) t369.length co7) t369) ∧ Aside0 (wc.heap[gb373]? = some (.cells #[.int .i32 ((rd_T30 t369 x14_1).f0), .int .i64 ((rd_T30 t369 x14_1).f1)] 30 (0, 0))) ∧ Aside0 (Below w.heap.size w wc))
                                          case first =>
                                            have H := HC41.out
                                            clear HC41
                                            by_cases c42 : x7_5 ≤ 4
                                            · rw [if_pos c42] at H
                                              have c42b0 : decide (x7_5 ≤ 4) = true := decide_eq_true c42
                                              clear c42
                                              (first | rw [c42b0] | (simp only [i64_w, i32_w]; rw [c42b0]) | skip)
                                              by_cases c43 : (wrap64 (x3_1 + x7_5)) ≤ (a0.size : Int)
                                              · rw [if_pos c43] at H
                                                have c43b0 : decide ((wrap64 (x3_1 + x7_5)) ≤ (a0.size : Int)) = true := decide_eq_true c43
                                                clear c43
                                                have H' := Aside0.mk H
                                                clear H
                                                have hcz44_0 : wr.cell? ⟨gb373, 0, none⟩ = some (.int .i32 ((rd_T30 t369 x14_1).f0)) := (blk_cell BK373.out 0).trans rfl
                                                have hcz44_1 : wr.cell? ⟨gb373, 1, none⟩ = some (.int .i64 ((rd_T30 t369 x14_1).f1)) := (blk_cell BK373.out 1).trans rfl
                                                have hfz44_0 := blk_frozen BK373.out 0
                                                have hfz44_1 := blk_frozen BK373.out 1
                                                go_wp2
                                                go_meet
                                                case rel => exact ⟨_, (decide (((rd_T30 t369 x14_1).f0) < 0)), (by first | rfl | (simp; done) | (simp [*]; done)), H', ⟨by have := HK1.out; have := HJ10.out; have := HJ22.out; have := HJ33.out; have := HK5.out; first | omega | exact Nat.le_refl _⟩, ⟨by (with_reducible repeat (first | apply Kd.R_alloc | apply Kd.R_drewN | apply Kd.R_drew)); exact HO_12.out⟩, ⟨by (with_reducible repeat (first | refine blk_drewN ?_ _ | refine blk_drew ?_ | refine blk_alloc ?_ _)); exact BK373.out⟩, ⟨by repeat (first | (with_reducible first | exact HB.out | apply below_alloc | apply pw_below_drewN | apply below_drew1 | refine below_set ?_ GE373.out) | exact HB.out)⟩⟩
                                              · rw [if_neg c43] at H
                                                have c43b0 : decide ((wrap64 (x3_1 + x7_5)) ≤ (a0.size : Int)) = false := decide_eq_false c43
                                                clear c43
                                                have H' := Aside0.mk H
                                                clear H
                                                go_wp2
                                                go_meet
                                                case rel => exact ⟨_, (false), (by first | rfl | (simp; done) | (simp [*]; done)), H', ⟨by have := HK1.out; have := HJ10.out; have := HJ22.out; have := HJ33.out; have := HK5.out; first | omega | exact Nat.le_refl _⟩, ⟨by (with_reducible repeat (first | apply Kd.R_alloc | apply Kd.R_drewN | apply Kd.R_drew)); exact HO_12.out⟩, ⟨by (with_reducible repeat (first | refine blk_drewN ?_ _ | refine blk_drew ?_ | refine blk_alloc ?_ _)); exact BK373.out⟩, ⟨by repeat (first | (with_reducible first | exact HB.out | apply below_alloc | apply pw_below_drewN | apply below_drew1 | refine below_set ?_ GE373.out) | exact HB.out)⟩⟩
                                            · rw [if_neg c42] at H
                                              have c42b0 : decide (x7_5 ≤ 4) = false := decide_eq_false c42
                                              clear c42
                                              (first | rw [c42b0] | (simp only [i64_w, i32_w]; rw [c42b0]) | skip)
                                              have H' := Aside0.mk H
                                              clear H
                                              go_wp2
                                              go_meet
                                              case rel => exact ⟨_, (false), (by first | rfl | (simp; done) | (simp [*]; done)), H', ⟨by have := HK1.out; have := HJ10.out; have := HJ22.out; have := HJ33.out; have := HK5.out; first | omega | exact Nat.le_refl _⟩, ⟨by (with_reducible repeat (first | apply Kd.R_alloc | apply Kd.R_drewN | apply Kd.R_drew)); exact HO_12.out⟩, ⟨by (with_reducible repeat (first | refine blk_drewN ?_ _ | refine blk_drew ?_ | refine blk_alloc ?_ _)); exact BK373.out⟩, ⟨by repeat (first | (with_reducible first | exact HB.out | apply below_alloc | apply pw_below_drewN | apply below_drew1 | refine below_set ?_ GE373.out) | exact HB.out)⟩⟩
                                          case rest =>
                                            clear HC41
                                            try clear c1
                                            try clear c2
                                            try clear p2
                                            try clear c3
                                            try clear p3
                                            try clear q3
                                            try clear hx3
                                            try clear c4
                                            try clear p6
                                            try clear c8
                                            try clear c8b0
                                            try clear c9
                                            try clear c9b0
                                            try clear c10
                                            try clear c10b0
                                            try clear c11
                                            try clear c14
                                            try clear c14b0
                                            try clear c16
                                            try clear c16b0
                                            try clear c19
                                            try clear c20
                                            try clear c20b0
                                            try clear c20b1
                                            try clear c21
                                            try clear c21b0
                                            try clear c21b1
                                            try clear c22
                                            try clear c22b0
                                            try clear c22b1
                                            try clear c23
                                            try clear c25
                                            try clear c25b0
                                            try clear c33
                                            try clear c35
                                            try clear c35b0
                                            try clear c36
                                            try clear c36b0
                                            try clear c36b1
                                            try clear p37
                                            try clear q37
                                            try clear hx37
                                            try clear c40
                                            try clear c42
                                            try clear c42b0
                                            try clear c43
                                            try clear c43b0
                                            try clear hcz13_0
                                            try clear hcz13_1
                                            try clear hcz15_0
                                            try clear hcz15_1
                                            try clear hcz17_0
                                            try clear hcz17_1
                                            try clear hcz18_0
                                            try clear hcz18_1
                                            try clear hcz24_0
                                            try clear hcz24_1
                                            try clear hcz27_0
                                            try clear hcz27_1
                                            try clear hcz32_0
                                            try clear hcz32_1
                                            try clear hcz37_0
                                            try clear hcz37_1
                                            try clear hcz38_0
                                            try clear hcz38_1
                                            try clear hcz39_0
                                            try clear hcz39_1
                                            try clear hcz44_0
                                            try clear hcz44_1
                                            try clear hfz13_0
                                            try clear hfz13_1
                                            try clear hfz15_0
                                            try clear hfz15_1
                                            try clear hfz17_0
                                            try clear hfz17_1
                                            try clear hfz18_0
                                            try clear hfz18_1
                                            try clear hfz24_0
                                            try clear hfz24_1
                                            try clear hfz27_0
                                            try clear hfz27_1
                                            try clear hfz32_0
                                            try clear hfz32_1
                                            try clear hfz37_0
                                            try clear hfz37_1
                                            try clear hfz38_0
                                            try clear hfz38_1
                                            try clear hfz39_0
                                            try clear hfz39_1
                                            try clear hfz44_0
                                            try clear hfz44_1
                                            try clear hx372_0
                                            try clear hx372_1
                                            try clear p2
                                            try clear p3
                                            try clear p37
                                            try clear p372
                                            try clear p6
                                            try clear q3
                                            try clear q37
                                            try clear q372
                                            obtain ⟨kq, x80_40, rfl, HA, HJ40, HO_12, BK373, HB⟩ := hcut
                                            cases kq with
                                            | zero => exact absurd HA.out (by simp [bodkinlaw01_UnitTiles.j5])
                                            | succ kj40 =>
                                              have H := HA.out
                                              clear HA
                                              simp only [bodkinlaw01_UnitTiles.j5] at H
                                              by_cases c45 : x80_40 = true
                                              · subst c45
                                                have H1 : (if 0 ≤ x3_1 then (if x3_1 ≤ (wrap64 (x3_1 + x7_5)) then (if (wrap64 (x3_1 + x7_5)) ≤ (a0.size : Int) then ((unit_Units.f (a0.extract (x3_1 : Int).toNat ((wrap64 (x3_1 + x7_5)) : Int).toNat)).bind fun t378 => (if (t378.length : Int) = 0 then (some false) else (if 0 < (t378.length : Int) then (if ((rd_T30 t378 0).f0) ≥ 0 then (some false) else (bodkinlaw01_UnitTiles.l1 kj40 a0 x3_1 (wrap64 (x7_5 + 1)) t369 (t369.length : Int) x14_1 ((rd_T30 t369 x14_1).f0) ((rd_T30 t369 x14_1).f1))) else (none)))) else (none)) else (none)) else (none)) = some r := by rw [if_pos rfl] at H; exact H
                                                clear H
                                                have H := H1
                                                clear H1
                                                by_cases c46 : 0 ≤ x3_1
                                                · rw [if_pos c46] at H
                                                  have c46b0 := eq_true c46
                                                  have c46b1 : decide (0 ≤ x3_1) = true := decide_eq_true c46
                                                  clear c46
                                                  by_cases c47 : x3_1 ≤ (wrap64 (x3_1 + x7_5))
                                                  · rw [if_pos c47] at H
                                                    have c47b0 := eq_true c47
                                                    have c47b1 : decide (x3_1 ≤ (wrap64 (x3_1 + x7_5))) = true := decide_eq_true c47
                                                    by_cases c48 : (wrap64 (x3_1 + x7_5)) ≤ (a0.size : Int)
                                                    · rw [if_pos c48] at H
                                                      have c48b0 := eq_true c48
                                                      have c48b1 : decide ((wrap64 (x3_1 + x7_5)) ≤ (a0.size : Int)) = true := decide_eq_true c48
                                                      replace H := Option.bind_eq_some_iff.mp H
                                                      obtain ⟨t378, A490, H⟩ := H
                                                      replace H : (if (t378.length : Int) = 0 then (some false) else (if 0 < (t378.length : Int) then (if ((rd_T30 t378 0).f0) ≥ 0 then (some false) else (bodkinlaw01_UnitTiles.l1 kj40 a0 x3_1 (wrap64 (x7_5 + 1)) t369 (t369.length : Int) x14_1 ((rd_T30 t369 x14_1).f0) ((rd_T30 t369 x14_1).f1))) else (none))) = some r := H
                                                      have A49 := Aside0.mk A490
                                                      clear A490
                                                      by_cases c50 : (t378.length : Int) = 0
                                                      · rw [if_pos c50] at H
                                                        have c50b0 : ((t378.length : Int) == 0) = true := beq_iff_eq.mpr c50
                                                        have c50b1 : ((t378.length : Int) != 0) = false := bne_eq_false_iff_eq.mpr c50
                                                        clear c50
                                                        obtain rfl := Option.some.inj H
                                                        go_wp2_with (first | ((with_reducible refine gate_callee (f := 23) rfl ?_); refine goesL_ (some 89) rfl rfl Tryd.func23 (by kernel_rfl) rfl #[.string (a0.extract (x3_1 : Int).toNat ((wrap64 (x3_1 + x7_5)) : Int).toNat)] rfl (by (try simp only [List.map_toArray, List.map_cons, List.map_nil]); first | done | rfl | (simp only [List.length_drop, List.length_take]; rfl)) ?_; (with_reducible refine (unit_Units.calls (a0.extract (x3_1 : Int).toNat ((wrap64 (x3_1 + x7_5)) : Int).toNat) t378 _ ?side1 A49.out).mono ?_); (case side1 => exact tabs_below HT.out (by repeat (first | (with_reducible first | exact HB.out | apply below_alloc | apply pw_below_drewN | apply below_drew1 | refine below_set ?_ GE373.out) | exact HB.out))); rintro e w51 ⟨v379, rfl, ho0, hb⟩; refine ⟨_, rfl, ?_⟩; have n0_ := Aside0.mk (Kd.R_elder' (by (with_reducible repeat (first | apply Kd.R_alloc | apply Kd.R_drewN | apply Kd.R_drew)); exact HO_12.out) (Kd.R_base ho0) hb); have n1_ := Aside0.mk (Kd.R_lower (Kd.R_newB (Kd.R_new' ho0 (Kd.R_lt (by (with_reducible repeat (first | apply Kd.R_alloc | apply Kd.R_drewN | apply Kd.R_drew)); exact HO_12.out))) (g := gb373) (o := .cells #[.int .i32 ((rd_T30 t369 x14_1).f0), .int .i64 ((rd_T30 t369 x14_1).f1)] 30 (0, 0)) (by (with_reducible repeat (first | refine blk_drewN ?_ _ | refine blk_drew ?_ | refine blk_alloc ?_ _)); exact BK373.out)) (below_size (by repeat (first | (with_reducible first | exact HB.out | apply below_alloc | apply pw_below_drewN | apply below_drew1 | refine below_set ?_ GE373.out) | exact HB.out)))); have n2_ := Aside0.mk (blk_below (g := gb373) (o := .cells #[.int .i32 ((rd_T30 t369 x14_1).f0), .int .i64 ((rd_T30 t369 x14_1).f1)] 30 (0, 0)) (by (with_reducible repeat (first | refine blk_drewN ?_ _ | refine blk_drew ?_ | refine blk_alloc ?_ _)); exact BK373.out) hb); have n3_ := Aside0.mk (below_step (by repeat (first | (with_reducible first | exact HB.out | apply below_alloc | apply pw_below_drewN | apply below_drew1 | refine below_set ?_ GE373.out) | exact HB.out)) hb); clear HO_12; clear BK373; clear HB; have HO_12 := n0_; have HO380 := n1_; have BK373 := n2_; have HB := n3_; clear n0_ n1_ n2_ n3_; (try clear hb); (try clear hb2); (try clear hk); (try clear hi); (try clear ho0); obtain ⟨Ao52, co52, eo52⟩ := Kd.R_slice HO380.out; subst eo52))
                                                        go_ret
                                                        exact ⟨by first | rfl | (simp [errW_none, errW_some] <;> rfl) | (simp [*, errW_none, errW_some] <;> rfl), by repeat (first | (with_reducible first | exact HB.out | apply below_alloc | apply pw_below_drewN | apply below_drew1 | refine below_set ?_ GE373.out) | exact HB.out)⟩
                                                      · rw [if_neg c50] at H
                                                        have c50b0 : ((t378.length : Int) == 0) = false := beq_eq_false_iff_ne.mpr c50
                                                        have c50b1 : ((t378.length : Int) != 0) = true := bne_iff_ne.mpr c50
                                                        have c50b2 : ¬ (t378 = []) := fun h_ => c50 (by rw [h_]; rfl)
                                                        by_cases c53 : 0 < (t378.length : Int)
                                                        · rw [if_pos c53] at H
                                                          have c53b0 : decide (0 < (t378.length : Int)) = true := decide_eq_true c53
                                                          have c53b1 : decide (0 < t378.length) = true := decide_eq_true (by omega)
                                                          clear c53
                                                          by_cases c54 : ((rd_T30 t378 0).f0) ≥ 0
                                                          · rw [if_pos c54] at H
                                                            have c54b0 : decide (0 ≤ ((rd_T30 t378 0).f0)) = true := decide_eq_true c54
                                                            clear c54
                                                            obtain rfl := Option.some.inj H
                                                            go_wp2_with (first | ((with_reducible refine gate_callee (f := 23) rfl ?_); refine goesL_ (some 89) rfl rfl Tryd.func23 (by kernel_rfl) rfl #[.string (a0.extract (x3_1 : Int).toNat ((wrap64 (x3_1 + x7_5)) : Int).toNat)] rfl (by (try simp only [List.map_toArray, List.map_cons, List.map_nil]); first | done | rfl | (simp only [List.length_drop, List.length_take]; rfl)) ?_; (with_reducible refine (unit_Units.calls (a0.extract (x3_1 : Int).toNat ((wrap64 (x3_1 + x7_5)) : Int).toNat) t378 _ ?side1 A49.out).mono ?_); (case side1 => exact tabs_below HT.out (by repeat (first | (with_reducible first | exact HB.out | apply below_alloc | apply pw_below_drewN | apply below_drew1 | refine below_set ?_ GE373.out) | exact HB.out))); rintro e w55 ⟨v379, rfl, ho0, hb⟩; refine ⟨_, rfl, ?_⟩; have n0_ := Aside0.mk (Kd.R_elder' (by (with_reducible repeat (first | apply Kd.R_alloc | apply Kd.R_drewN | apply Kd.R_drew)); exact HO_12.out) (Kd.R_base ho0) hb); have n1_ := Aside0.mk (Kd.R_lower (Kd.R_newB (Kd.R_new' ho0 (Kd.R_lt (by (with_reducible repeat (first | apply Kd.R_alloc | apply Kd.R_drewN | apply Kd.R_drew)); exact HO_12.out))) (g := gb373) (o := .cells #[.int .i32 ((rd_T30 t369 x14_1).f0), .int .i64 ((rd_T30 t369 x14_1).f1)] 30 (0, 0)) (by (with_reducible repeat (first | refine blk_drewN ?_ _ | refine blk_drew ?_ | refine blk_alloc ?_ _)); exact BK373.out)) (below_size (by repeat (first | (with_reducible first | exact HB.out | apply below_alloc | apply pw_below_drewN | apply below_drew1 | refine below_set ?_ GE373.out) | exact HB.out)))); have n2_ := Aside0.mk (blk_below (g := gb373) (o := .cells #[.int .i32 ((rd_T30 t369 x14_1).f0), .int .i64 ((rd_T30 t369 x14_1).f1)] 30 (0, 0)) (by (with_reducible repeat (first | refine blk_drewN ?_ _ | refine blk_drew ?_ | refine blk_alloc ?_ _)); exact BK373.out) hb); have n3_ := Aside0.mk (below_step (by repeat (first | (with_reducible first | exact HB.out | apply below_alloc | apply pw_below_drewN | apply below_drew1 | refine below_set ?_ GE373.out) | exact HB.out)) hb); clear HO_12; clear BK373; clear HB; have HO_12 := n0_; have HO380 := n1_; have BK373 := n2_; have HB := n3_; clear n0_ n1_ n2_ n3_; (try clear hb); (try clear hb2); (try clear hk); (try clear hi); (try clear ho0); obtain ⟨Ao56, co56, eo56⟩ := Kd.R_slice HO380.out; subst eo56; have p381 : 0 ≤ (0 : Int) := (by omega); have q381 : 0 < (t378.length : Int) := of_decide_eq_true (by first | (with_reducible assumption) | assumption); obtain ⟨ad381, e381, hx381_0, hx381_1⟩ := at_T30 (Kd.R_reads' HO380.out).2.2 0 p381 q381; cases e381; have qi381 : (0 < t378.length) = True := eq_true (by omega); (try rw [show ((0 : Int)).toNat = 0 from rfl] at hx381_0); (try rw [show 0 * 2 = 0 from rfl] at hx381_0); (try rw [Addr.add_zero'] at hx381_0); (try rw [show ((0 : Int)).toNat = 0 from rfl] at hx381_1); (try rw [show 0 * 2 = 0 from rfl] at hx381_1); (try rw [Addr.add_zero'] at hx381_1); replace p381 := eq_true p381; replace q381 := eq_true q381))
                                                            go_ret
                                                            exact ⟨by first | rfl | (simp [errW_none, errW_some] <;> rfl) | (simp [*, errW_none, errW_some] <;> rfl), by repeat (first | (with_reducible first | exact HB.out | apply below_alloc | apply pw_below_drewN | apply below_drew1 | refine below_set ?_ GE373.out) | exact HB.out)⟩
                                                          · rw [if_neg c54] at H
                                                            have c54b0 : decide (0 ≤ ((rd_T30 t378 0).f0)) = false := decide_eq_false c54
                                                            clear c54
                                                            have H' := Aside0.mk H
                                                            clear H
                                                            go_wp2_with (first | ((with_reducible refine gate_callee (f := 23) rfl ?_); refine goesL_ (some 89) rfl rfl Tryd.func23 (by kernel_rfl) rfl #[.string (a0.extract (x3_1 : Int).toNat ((wrap64 (x3_1 + x7_5)) : Int).toNat)] rfl (by (try simp only [List.map_toArray, List.map_cons, List.map_nil]); first | done | rfl | (simp only [List.length_drop, List.length_take]; rfl)) ?_; (with_reducible refine (unit_Units.calls (a0.extract (x3_1 : Int).toNat ((wrap64 (x3_1 + x7_5)) : Int).toNat) t378 _ ?side1 A49.out).mono ?_); (case side1 => exact tabs_below HT.out (by repeat (first | (with_reducible first | exact HB.out | apply below_alloc | apply pw_below_drewN | apply below_drew1 | refine below_set ?_ GE373.out) | exact HB.out))); rintro e w57 ⟨v379, rfl, ho0, hb⟩; refine ⟨_, rfl, ?_⟩; have n0_ := Aside0.mk (Kd.R_elder' (by (with_reducible repeat (first | apply Kd.R_alloc | apply Kd.R_drewN | apply Kd.R_drew)); exact HO_12.out) (Kd.R_base ho0) hb); have n1_ := Aside0.mk (Kd.R_lower (Kd.R_newB (Kd.R_new' ho0 (Kd.R_lt (by (with_reducible repeat (first | apply Kd.R_alloc | apply Kd.R_drewN | apply Kd.R_drew)); exact HO_12.out))) (g := gb373) (o := .cells #[.int .i32 ((rd_T30 t369 x14_1).f0), .int .i64 ((rd_T30 t369 x14_1).f1)] 30 (0, 0)) (by (with_reducible repeat (first | refine blk_drewN ?_ _ | refine blk_drew ?_ | refine blk_alloc ?_ _)); exact BK373.out)) (below_size (by repeat (first | (with_reducible first | exact HB.out | apply below_alloc | apply pw_below_drewN | apply below_drew1 | refine below_set ?_ GE373.out) | exact HB.out)))); have n2_ := Aside0.mk (blk_below (g := gb373) (o := .cells #[.int .i32 ((rd_T30 t369 x14_1).f0), .int .i64 ((rd_T30 t369 x14_1).f1)] 30 (0, 0)) (by (with_reducible repeat (first | refine blk_drewN ?_ _ | refine blk_drew ?_ | refine blk_alloc ?_ _)); exact BK373.out) hb); have n3_ := Aside0.mk (below_step (by repeat (first | (with_reducible first | exact HB.out | apply below_alloc | apply pw_below_drewN | apply below_drew1 | refine below_set ?_ GE373.out) | exact HB.out)) hb); clear HO_12; clear BK373; clear HB; have HO_12 := n0_; have HO380 := n1_; have BK373 := n2_; have HB := n3_; clear n0_ n1_ n2_ n3_; (try clear hb); (try clear hb2); (try clear hk); (try clear hi); (try clear ho0); obtain ⟨Ao58, co58, eo58⟩ := Kd.R_slice HO380.out; subst eo58; have p381 : 0 ≤ (0 : Int) := (by omega); have q381 : 0 < (t378.length : Int) := of_decide_eq_true (by first | (with_reducible assumption) | assumption); obtain ⟨ad381, e381, hx381_0, hx381_1⟩ := at_T30 (Kd.R_reads' HO380.out).2.2 0 p381 q381; cases e381; have qi381 : (0 < t378.length) = True := eq_true (by omega); (try rw [show ((0 : Int)).toNat = 0 from rfl] at hx381_0); (try rw [show 0 * 2 = 0 from rfl] at hx381_0); (try rw [Addr.add_zero'] at hx381_0); (try rw [show ((0 : Int)).toNat = 0 from rfl] at hx381_1); (try rw [show 0 * 2 = 0 from rfl] at hx381_1); (try rw [Addr.add_zero'] at hx381_1); replace p381 := eq_true p381; replace q381 := eq_true q381))
                                                            go_roundg kj40
                                                            case measure => have := HK1.out; have := HJ10.out; have := HJ22.out; have := HJ33.out; have := HK5.out; have := HJ40.out; omega
                                                            case rel => exact ⟨(wrap64 (x7_5 + 1)), (by first | rfl | (simp; done) | (simp [*]; done)), H', ⟨by have := HK1.out; have := HJ10.out; have := HJ22.out; have := HJ33.out; have := HK5.out; have := HJ40.out; omega⟩, ⟨by (with_reducible repeat (first | apply Kd.R_alloc | apply Kd.R_drewN | apply Kd.R_drew)); exact Kd.R_mono HO_12.out (fun _ hk => hk.1)⟩, ⟨by (with_reducible repeat (first | refine blk_drewN ?_ _ | refine blk_drew ?_ | refine blk_alloc ?_ _)); exact BK373.out⟩, ⟨by repeat (first | (with_reducible first | exact HB.out | apply below_alloc | apply pw_below_drewN | apply below_drew1 | refine below_set ?_ GE373.out) | exact HB.out)⟩⟩
                                                        · rw [if_neg c53] at H
                                                          exact absurd H (by simp)
                                                    · rw [if_neg c48] at H
                                                      exact absurd H (by simp)
                                                  · rw [if_neg c47] at H
                                                    exact absurd H (by simp)
                                                · rw [if_neg c46] at H
                                                  exact absurd H (by simp)
                                              · replace c45 := Bool.eq_false_iff.mpr c45
                                                subst c45
                                                have H1 : (bodkinlaw01_UnitTiles.l0 kj40 a0 (wrap64 (x3_1 + ((rd_T30 t369 x14_1).f1))) t369 (t369.length : Int) (wrap64 (x14_1 + 1))) = some r := by rw [if_neg (show ¬ (false = true) by decide)] at H; exact H
                                                clear H
                                                have H := H1
                                                clear H1
                                                have H' := Aside0.mk H
                                                clear H
                                                have hcz59_0 : wc.cell? ⟨gb373, 0, none⟩ = some (.int .i32 ((rd_T30 t369 x14_1).f0)) := (blk_cell BK373.out 0).trans rfl
                                                have hcz59_1 : wc.cell? ⟨gb373, 1, none⟩ = some (.int .i64 ((rd_T30 t369 x14_1).f1)) := (blk_cell BK373.out 1).trans rfl
                                                have hfz59_0 := blk_frozen BK373.out 0
                                                have hfz59_1 := blk_frozen BK373.out 1
                                                go_wp2
                                                go_roundg kj40
                                                case measure => have := HK1.out; have := HJ10.out; have := HJ22.out; have := HJ33.out; have := HK5.out; have := HJ40.out; omega
                                                case rel => exact ⟨(wrap64 (x3_1 + ((rd_T30 t369 x14_1).f1))), (wrap64 (x14_1 + 1)), (by first | rfl | (simp; done) | (simp [*]; done)), (by first | rfl | (simp; done) | (simp [*]; done)), H', ⟨by have := HK1.out; have := HJ10.out; have := HJ22.out; have := HJ33.out; have := HK5.out; have := HJ40.out; omega⟩, ⟨by (with_reducible repeat (first | apply Kd.R_alloc | apply Kd.R_drewN | apply Kd.R_drew)); exact Kd.R_mono HO_12.out (fun _ hk => trivial)⟩, ⟨by repeat (first | (with_reducible first | exact HB.out | apply below_alloc | apply pw_below_drewN | apply below_drew1 | refine below_set ?_ GE373.out) | exact HB.out)⟩⟩
                        · rw [if_neg c22] at H
                          exact absurd H (by simp)
                      · rw [if_neg c21] at H
                        exact absurd H (by simp)
                    · rw [if_neg c20] at H
                      exact absurd H (by simp)
            · rw [if_neg c10] at H
              exact absurd H (by simp)
          · rw [if_neg c9] at H
            exact absurd H (by simp)
        · rw [if_neg c8] at H
          have c8b0 : decide (x14_1 < (t369.length : Int)) = false := decide_eq_false c8
          clear c8
          obtain rfl := Option.some.inj H
          go_wp2
          go_ret
          exact ⟨by first | rfl | (simp [errW_none, errW_some] <;> rfl) | (simp [*, errW_none, errW_some] <;> rfl), by repeat (first | (with_reducible first | exact HB.out | apply below_alloc | apply pw_below_drewN | apply below_drew1) | exact HB.out)⟩
  · replace c3 := Bool.eq_false_iff.mpr c3
    subst c3
    have H1 : (some false) = some r := by rw [if_neg (show ¬ (false = true) by decide)] at H; exact H
    clear H
    have H := H1
    clear H1
    obtain rfl := Option.some.inj H
    go_enter Tryd.func11, Tryd.ntmps11
    go_wp2_with (first | ((with_reducible refine gate_callee (f := 21) rfl ?_); refine goesL_ (some 9) rfl rfl Tryd.func21 (by kernel_rfl) rfl #[] rfl (by (try simp only [List.map_toArray, List.map_cons, List.map_nil]); first | done | rfl | (simp only [List.length_drop, List.length_take]; rfl)) ?_; (with_reducible refine (bodkinlaw01_cuts.calls  false _ ?side1 A2.out).mono ?_); (case side1 => exact tabs_below HT.out (by repeat (first | (with_reducible first | exact HB.out | apply below_alloc | apply pw_below_drewN | apply below_drew1) | exact HB.out))); rintro e w60 ⟨rfl, hb⟩; refine ⟨_, rfl, ?_⟩; have n0_ := Aside0.mk (below_step (by repeat (first | (with_reducible first | exact HB.out | apply below_alloc | apply pw_below_drewN | apply below_drew1) | exact HB.out)) hb); clear HB; have HB := n0_; clear n0_; (try clear hb); (try clear hb2); (try clear hk); (try clear hi)))
    go_ret
    exact ⟨by first | rfl | (simp [errW_none, errW_some] <;> rfl) | (simp [*, errW_none, errW_some] <;> rfl), by repeat (first | (with_reducible first | exact HB.out | apply below_alloc | apply pw_below_drewN | apply below_drew1) | exact HB.out)⟩

/-- THE ONE PURE STATEMENT of bodkinlaw01_UnitTiles: yours. -/
def bodkinlaw01_UnitTiles.Pure : Prop := ∀ (a0 : ByteArray), a0.size ≤ 140737488351232 → ∃ k, bodkinlaw01_UnitTiles.f k a0 = some true
theorem bodkinlaw01_UnitTiles.walk (P : bodkinlaw01_UnitTiles.Pure) (a0 : ByteArray) (w : World) (w0 : a0.size ≤ 140737488351232) (hT : Lib.Utf8Tabs 0 1 w) :
    Calls Tryd.prog 11 #[.string a0] w fun e w' => e = .returned (.bool true) ∧ Below w.heap.size w w' := by
  obtain ⟨k, h⟩ := P a0 w0
  refine (bodkinlaw01_UnitTiles.calls k a0 true w hT h).mono ?_
  rintro e w' ⟨rfl, hd⟩
  exact ⟨rfl, hd⟩

end Go.Proofs.YtfhnfhgpaoddbaaDoor.U
