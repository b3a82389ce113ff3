-- Written by a program of this session's own (wip/tool/myprint.py). Lean checks it.
import Derived.Test.YtfhnfhgpaoddbaaDoorU0
import Derived.Test.YtfhnfhgpaoddbaaDoorU4
import Derived.Test.YtfhnfhgpaoddbaaDoorHc
namespace Go.Proofs.YtfhnfhgpaoddbaaDoor.U
open Go.RowKit Go.Proofs.YtfhnfhgpaoddbaaDoorW.PrintWords Go.Proofs.YtfhnfhgpaoddbaaDoorW.PrintLast Go.Proofs.YtfhnfhgpaoddbaaDoorW.PrintMore
attribute [local go_sem] max2_int min2_int max_two min_two max_three min_three max_four min_four   -- for this text's walks alone
set_option linter.unusedVariables false
set_option linter.unusedSimpArgs false

/-! ### bodkinlaw01_UnitLocal: function 3 -/
def bodkinlaw01_UnitLocal.l0 : Nat → ByteArray → List Int → Int → Int → Option (Bool)
  | 0, _, _, _, _ => none
  | k + 1, x0, x25, x26, x27 => if x27 < x26 then (if 0 ≤ x27 then (if x27 < (x25.length : Int) then ((unit_Boundary.f k x0 (rd x25 x27)).bind fun t116 => (if 0 ≤ (mx (wrap64 ((rd x25 x27) - 3)) 0) then (if (mx (wrap64 ((rd x25 x27) - 3)) 0) ≤ (mn (wrap64 ((rd x25 x27) + 3)) (x0.size : Int)) then (if (mn (wrap64 ((rd x25 x27) + 3)) (x0.size : Int)) ≤ (x0.size : Int) then ((unit_Boundary.f k (x0.extract ((mx (wrap64 ((rd x25 x27) - 3)) 0) : Int).toNat ((mn (wrap64 ((rd x25 x27) + 3)) (x0.size : Int)) : Int).toNat) (wrap64 ((rd x25 x27) - (mx (wrap64 ((rd x25 x27) - 3)) 0)))).bind fun t117 => (if (t116 != t117) = true then (some false) else (bodkinlaw01_UnitLocal.l0 k x0 x25 x26 (wrap64 (x27 + 1))))) else (none)) else (none)) else (none))) else (none)) else (none)) else (some true)
def bodkinlaw01_UnitLocal.f (k : Nat) (a0 : ByteArray) (a1 : Int) : Option (Bool) := (bodkinlaw01_cuts.f).bind fun t111 => (if t111 = true then (if (wrap64 ((a0.size : Int) + 1)) = 0 then (none) else ((some (([Int.tmod (wrap64 (a1)) (wrap64 ((a0.size : Int) + 1)), wrap64 (Int.tdiv (Int.tmod (wrap64 (a1)) (wrap64 ((a0.size : Int) + 1))) 2), wrap64 ((a0.size : Int) - (wrap64 (Int.tdiv (Int.tmod (wrap64 (a1)) (wrap64 ((a0.size : Int) + 1))) 3)))] : List Int) : List Int)).bind fun y112 => (bodkinlaw01_UnitLocal.l0 k a0 y112 (y112.length : Int) 0))) else (some false))
theorem bodkinlaw01_UnitLocal.mono_l : ∀ k, (∀ y0 y1 y2 y3, LeO (bodkinlaw01_UnitLocal.l0 k y0 y1 y2 y3) (bodkinlaw01_UnitLocal.l0 (k + 1) y0 y1 y2 y3))
  | 0 => fun _ _ _ _ r h => by simp [bodkinlaw01_UnitLocal.l0] at h
  | k + 1 => by
    have ih0 := bodkinlaw01_UnitLocal.mono_l k
    · intro y0 y1 y2 y3
      unfold bodkinlaw01_UnitLocal.l0
      repeat' first
      | (with_reducible exact ih0 _ _ _ _)
      | (with_reducible exact unit_Boundary.mono _ _ _)
      | (with_reducible exact LeO.refl _)
      | (with_reducible exact LeO.none _)
      | (with_reducible refine LeO.ite ?_ ?_)
      | (with_reducible refine LeO.bind ?_ (fun _ => ?_))
      | exact ih0 _ _ _ _
      | exact unit_Boundary.mono _ _ _
      | exact LeO.none _
      | refine LeO.ite ?_ ?_
      | refine LeO.bind ?_ (fun _ => ?_)
theorem bodkinlaw01_UnitLocal.mono : ∀ a0 a1 k, LeO (bodkinlaw01_UnitLocal.f k a0 a1) (bodkinlaw01_UnitLocal.f (k + 1) a0 a1) := by
  intro a0 a1 k
  have ih0 := bodkinlaw01_UnitLocal.mono_l k
  unfold bodkinlaw01_UnitLocal.f
  repeat' first
      | (with_reducible exact ih0 _ _ _ _)
      | (with_reducible exact unit_Boundary.mono _ _ _)
      | (with_reducible exact LeO.refl _)
      | (with_reducible exact LeO.none _)
      | (with_reducible refine LeO.ite ?_ ?_)
      | (with_reducible refine LeO.bind ?_ (fun _ => ?_))
      | exact ih0 _ _ _ _
      | exact unit_Boundary.mono _ _ _
      | exact LeO.none _
      | refine LeO.ite ?_ ?_
      | refine LeO.bind ?_ (fun _ => ?_)
def bodkinlaw01_UnitLocal.T8 : Bool × List (List Nat × List Nat) := (true, [([], []), ([], []), ([0, 1], [0, 1]), ([], []), ([], []), ([], []), ([5], [5]), ([], []), ([7], [7]), ([6, 8], [6, 8]), ([3, 4, 9], [3, 4, 9]), ([], []), ([], []), ([11, 12], [11, 12]), ([10, 13, 2], [10, 13]), ([2, 14], [2, 14])])
def bodkinlaw01_UnitLocal.B8 : List Nat := [0, 0, 3, 0, 0, 0, 32, 0, 128, 480, 1016, 0, 0, 6144, 16383, 32767]
theorem bodkinlaw01_UnitLocal.tab8 : rtab .any (opsOf Tryd.f3 8) = bodkinlaw01_UnitLocal.T8 := by kernel_rfl
theorem bodkinlaw01_UnitLocal.bits8 : waitsOk bodkinlaw01_UnitLocal.T8.2 bodkinlaw01_UnitLocal.B8 = true := by kernel_rfl
set_option maxHeartbeats 8000000 in
set_option maxRecDepth 100000 in
theorem bodkinlaw01_UnitLocal.calls (k : Nat) (a0 : ByteArray) (a1 : Int) (r : Bool) (w : World) (hT : Lib.Utf8Tabs 0 1 w) (h : bodkinlaw01_UnitLocal.f k a0 a1 = some r) :
    Calls Tryd.prog 3 #[.string a0, .int .u16 a1] w fun e w' => e = .returned (.bool r) ∧ Below w.heap.size w w' := by
  have HT := Aside0.mk hT
  clear hT
  have HB := Aside0.mk (Below.refl w.heap.size w)
  have H : ((bodkinlaw01_cuts.f).bind fun t111 => (if t111 = true then (if (wrap64 ((a0.size : Int) + 1)) = 0 then (none) else ((some (([Int.tmod (wrap64 (a1)) (wrap64 ((a0.size : Int) + 1)), wrap64 (Int.tdiv (Int.tmod (wrap64 (a1)) (wrap64 ((a0.size : Int) + 1))) 2), wrap64 ((a0.size : Int) - (wrap64 (Int.tdiv (Int.tmod (wrap64 (a1)) (wrap64 ((a0.size : Int) + 1))) 3)))] : List Int) : List Int)).bind fun y112 => (bodkinlaw01_UnitLocal.l0 k a0 y112 (y112.length : Int) 0))) else (some false))) = some r := h
  clear h
  replace H := Option.bind_eq_some_iff.mp H
  obtain ⟨t111, A30, H⟩ := H
  replace H : (if t111 = true then (if (wrap64 ((a0.size : Int) + 1)) = 0 then (none) else ((some (([Int.tmod (wrap64 (a1)) (wrap64 ((a0.size : Int) + 1)), wrap64 (Int.tdiv (Int.tmod (wrap64 (a1)) (wrap64 ((a0.size : Int) + 1))) 2), wrap64 ((a0.size : Int) - (wrap64 (Int.tdiv (Int.tmod (wrap64 (a1)) (wrap64 ((a0.size : Int) + 1))) 3)))] : List Int) : List Int)).bind fun y112 => (bodkinlaw01_UnitLocal.l0 k a0 y112 (y112.length : Int) 0))) else (some false)) = some r := H
  have A3 := Aside0.mk A30
  clear A30
  by_cases c4 : t111 = true
  · subst c4
    have H1 : (if (wrap64 ((a0.size : Int) + 1)) = 0 then (none) else ((some (([Int.tmod (wrap64 (a1)) (wrap64 ((a0.size : Int) + 1)), wrap64 (Int.tdiv (Int.tmod (wrap64 (a1)) (wrap64 ((a0.size : Int) + 1))) 2), wrap64 ((a0.size : Int) - (wrap64 (Int.tdiv (Int.tmod (wrap64 (a1)) (wrap64 ((a0.size : Int) + 1))) 3)))] : List Int) : List Int)).bind fun y112 => (bodkinlaw01_UnitLocal.l0 k a0 y112 (y112.length : Int) 0))) = some r := by rw [if_pos rfl] at H; exact H
    clear H
    have H := H1
    clear H1
    by_cases c5 : (wrap64 ((a0.size : Int) + 1)) = 0
    · rw [if_pos c5] at H
      exact absurd H (by simp)
    · rw [if_neg c5] at H
      have c5b0 : ((wrap64 ((a0.size : Int) + 1)) == 0) = false := beq_eq_false_iff_ne.mpr c5
      have c5b1 : ((wrap64 ((a0.size : Int) + 1)) != 0) = true := bne_iff_ne.mpr c5
      obtain ⟨y112, hy112⟩ : ∃ y_ : List Int, y_ = (([Int.tmod (wrap64 (a1)) (wrap64 ((a0.size : Int) + 1)), wrap64 (Int.tdiv (Int.tmod (wrap64 (a1)) (wrap64 ((a0.size : Int) + 1))) 2), wrap64 ((a0.size : Int) - (wrap64 (Int.tdiv (Int.tmod (wrap64 (a1)) (wrap64 ((a0.size : Int) + 1))) 3)))] : List Int)) := ⟨_, rfl⟩
      replace H : (bodkinlaw01_UnitLocal.l0 k a0 y112 (y112.length : Int) 0) = some r := by first | (rw [hy112]; with_reducible exact H) | (have H2_ := (Option.bind_some _ _).symm.trans H; rw [hy112]; with_reducible exact H2_) | (have H2_ := (Option.bind_some _ _).symm.trans H; with_reducible exact H2_) | with_reducible exact H | (rw [hy112]; exact H) | exact H
      have Ny112 := Aside0.mk hy112
      clear hy112
      have H' := Aside0.mk H
      clear H
      go_enter Tryd.func3, Tryd.ntmps3
      go_wp2_with (first | ((with_reducible refine gate_callee (f := 21) rfl ?_); refine goesL_ (some 9) rfl rfl Tryd.func21 (by kernel_rfl) rfl #[] rfl (by (try simp only [List.map_toArray, List.map_cons, List.map_nil]); first | done | rfl | (simp only [List.length_drop, List.length_take]; rfl)) ?_; (with_reducible refine (bodkinlaw01_cuts.calls  true _ ?side1 A3.out).mono ?_); (case side1 => exact tabs_below HT.out (by repeat (first | (with_reducible first | exact HB.out | apply below_alloc | apply pw_below_drewN | apply below_drew1) | exact HB.out))); rintro e w6 ⟨rfl, hb⟩; refine ⟨_, rfl, ?_⟩; have n0_ := Aside0.mk (below_step (by repeat (first | (with_reducible first | exact HB.out | apply below_alloc | apply pw_below_drewN | apply below_drew1) | exact HB.out)) hb); clear HB; have HB := n0_; clear n0_; (try clear hb); (try clear hb2); (try clear hk); (try clear hi)) | ((with_reducible refine gate_dst (N := 25) rfl ?_); refine Kd.R_lit (Kd.int .i64) _ 3 ?hg (N := 25) ?hd (xs := ([Int.tmod (wrap64 (a1)) (wrap64 ((a0.size : Int) + 1)), wrap64 (Int.tdiv (Int.tmod (wrap64 (a1)) (wrap64 ((a0.size : Int) + 1))) 2), wrap64 ((a0.size : Int) - (wrap64 (Int.tdiv (Int.tmod (wrap64 (a1)) (wrap64 ((a0.size : Int) + 1))) 3)))] : List Int)) (inner := [.int .i64 (Int.tmod (wrap64 (a1)) (wrap64 ((a0.size : Int) + 1))), .int .i64 (wrap64 (Int.tdiv (Int.tmod (wrap64 (a1)) (wrap64 ((a0.size : Int) + 1))) 2)), .int .i64 (wrap64 ((a0.size : Int) - (wrap64 (Int.tdiv (Int.tmod (wrap64 (a1)) (wrap64 ((a0.size : Int) + 1))) 3))))]) (ok := fun _ => True) (okp := fun _ => True) ?hr ?hp (fun _ hk => hk) trivial (Below.refl _ _) (Nat.le_refl _) (by simp) ?_; (case hd => rfl); (case hg => rfl); (case hr => first | (go_simp; done) | (go_simp; rfl)); (case hp => exact (Reps.one (show Kd.M (Kd.int .i64) _ _ _ (Int.tmod (wrap64 (a1)) (wrap64 ((a0.size : Int) + 1))) [.int .i64 (Int.tmod (wrap64 (a1)) (wrap64 ((a0.size : Int) + 1)))] from rfl) (Reps.one (show Kd.M (Kd.int .i64) _ _ _ (wrap64 (Int.tdiv (Int.tmod (wrap64 (a1)) (wrap64 ((a0.size : Int) + 1))) 2)) [.int .i64 (wrap64 (Int.tdiv (Int.tmod (wrap64 (a1)) (wrap64 ((a0.size : Int) + 1))) 2))] from rfl) (Reps.one (show Kd.M (Kd.int .i64) _ _ _ (wrap64 ((a0.size : Int) - (wrap64 (Int.tdiv (Int.tmod (wrap64 (a1)) (wrap64 ((a0.size : Int) + 1))) 3)))) [.int .i64 (wrap64 ((a0.size : Int) - (wrap64 (Int.tdiv (Int.tmod (wrap64 (a1)) (wrap64 ((a0.size : Int) + 1))) 3))))] from rfl) (Reps.none _ _))))); intro v113 w7 ho8 hb hg_ hnew_; clear hg_ hnew_; (first | rw [← Ny112.out] at ho8 | (simp only [Int.reduceToNat] at ho8; rw [← Ny112.out] at ho8)); have n0_ := Aside0.mk (Kd.R_lower ho8 (below_size (by repeat (first | (with_reducible first | exact HB.out | apply below_alloc | apply pw_below_drewN | apply below_drew1) | exact HB.out)))); have n1_ := Aside0.mk (below_step (by repeat (first | (with_reducible first | exact HB.out | apply below_alloc | apply pw_below_drewN | apply below_drew1) | exact HB.out)) hb); clear HB; have HO114 := n0_; have HB := n1_; clear n0_ n1_; clear hb ho8; obtain ⟨Ao9, co9, eo9⟩ := Kd.R_slice HO114.out; subst eo9))
      go_loopg [27] k (fun kq v27 w' => ∃ (x27_1 : Int), v27 = .int .i64 x27_1 ∧ Aside0 (bodkinlaw01_UnitLocal.l0 kq a0 y112 (y112.length : Int) x27_1 = some r) ∧ Aside0 (kq ≤ k) ∧ Aside0 (Kd.R (Kd.int .i64) 3 w' w.heap.size (fun _ => True) (.slice Ao9 y112.length co9) y112) ∧ Aside0 (Below w.heap.size w w'))
      case atStart => exact ⟨(0), (by first | rfl | (simp; done) | (simp [*]; done)), H', ⟨Nat.le_refl _⟩, ⟨by (with_reducible repeat (first | apply Kd.R_alloc | apply Kd.R_drewN | apply Kd.R_drew)); exact HO114.out⟩, ⟨by repeat (first | (with_reducible first | exact HB.out | apply below_alloc | apply pw_below_drewN | apply below_drew1) | exact HB.out)⟩⟩
      case round =>
        clear H'
        try clear c2
        try clear p2
        try clear c3
        try clear c4
        try clear c5
        try clear c5b0
        try clear c5b1
        try clear p6
        obtain ⟨x27_1, rfl, HA, HK1, HO_25, HB⟩ := hrel
        cases gk with
        | zero => exact absurd HA.out (by simp [bodkinlaw01_UnitLocal.l0])
        | succ k1 =>
          have H := HA.out
          clear HA
          simp only [bodkinlaw01_UnitLocal.l0] at H
          by_cases c10 : x27_1 < (y112.length : Int)
          · rw [if_pos c10] at H
            have c10b0 : decide (x27_1 < (y112.length : Int)) = true := decide_eq_true c10
            clear c10
            by_cases c11 : 0 ≤ x27_1
            · rw [if_pos c11] at H
              have c11b0 : decide (0 ≤ x27_1) = true := decide_eq_true c11
              clear c11
              by_cases c12 : x27_1 < (y112.length : Int)
              · rw [if_pos c12] at H
                have c12b0 : decide (x27_1 < (y112.length : Int)) = true := decide_eq_true c12
                clear c12
                obtain ⟨ji13, hji13⟩ : ∃ j_ : Int, (mx (wrap64 ((rd y112 x27_1) - 3)) 0) = j_ := ⟨_, rfl⟩
                replace H : ((unit_Boundary.f k1 a0 (rd y112 x27_1)).bind fun t116 => (if 0 ≤ (ji13) then (if (ji13) ≤ (mn (wrap64 ((rd y112 x27_1) + 3)) (a0.size : Int)) then (if (mn (wrap64 ((rd y112 x27_1) + 3)) (a0.size : Int)) ≤ (a0.size : Int) then ((unit_Boundary.f k1 (a0.extract ((ji13) : Int).toNat ((mn (wrap64 ((rd y112 x27_1) + 3)) (a0.size : Int)) : Int).toNat) (wrap64 ((rd y112 x27_1) - (ji13)))).bind fun t117 => (if (t116 != t117) = true then (some false) else (bodkinlaw01_UnitLocal.l0 k1 a0 y112 (y112.length : Int) (wrap64 (x27_1 + 1))))) else (none)) else (none)) else (none))) = some r := by first | (rw [hji13] at H; exact H) | (simp only [hji13] at H ⊢; exact H)
                have hji13_ : (if (wrap64 ((rd y112 x27_1) - 3)) < 0 then 0 else (wrap64 ((rd y112 x27_1) - 3))) = ji13 := hji13
                replace H := Option.bind_eq_some_iff.mp H
                obtain ⟨t116, A140, H⟩ := H
                replace H : (if 0 ≤ (ji13) then (if (ji13) ≤ (mn (wrap64 ((rd y112 x27_1) + 3)) (a0.size : Int)) then (if (mn (wrap64 ((rd y112 x27_1) + 3)) (a0.size : Int)) ≤ (a0.size : Int) then ((unit_Boundary.f k1 (a0.extract ((ji13) : Int).toNat ((mn (wrap64 ((rd y112 x27_1) + 3)) (a0.size : Int)) : Int).toNat) (wrap64 ((rd y112 x27_1) - (ji13)))).bind fun t117 => (if (t116 != t117) = true then (some false) else (bodkinlaw01_UnitLocal.l0 k1 a0 y112 (y112.length : Int) (wrap64 (x27_1 + 1))))) else (none)) else (none)) else (none)) = some r := H
                have A14 := Aside0.mk A140
                clear A140
                obtain ⟨ji15, hji15⟩ : ∃ j_ : Int, (mn (wrap64 ((rd y112 x27_1) + 3)) (a0.size : Int)) = j_ := ⟨_, rfl⟩
                replace H : (if 0 ≤ (ji13) then (if (ji13) ≤ (ji15) then (if (ji15) ≤ (a0.size : Int) then ((unit_Boundary.f k1 (a0.extract ((ji13) : Int).toNat ((ji15) : Int).toNat) (wrap64 ((rd y112 x27_1) - (ji13)))).bind fun t117 => (if (t116 != t117) = true then (some false) else (bodkinlaw01_UnitLocal.l0 k1 a0 y112 (y112.length : Int) (wrap64 (x27_1 + 1))))) else (none)) else (none)) else (none)) = some r := by first | (rw [hji15] at H; exact H) | (simp only [hji15] at H ⊢; exact H)
                (try rw [hji15] at A14)
                have hji15_ : (if (a0.size : Int) < (wrap64 ((rd y112 x27_1) + 3)) then (a0.size : Int) else (wrap64 ((rd y112 x27_1) + 3))) = ji15 := hji15
                by_cases c16 : 0 ≤ (ji13)
                · rw [if_pos c16] at H
                  have c16b0 := eq_true c16
                  have c16b1 : decide (0 ≤ (ji13)) = true := decide_eq_true c16
                  clear c16
                  by_cases c17 : (ji13) ≤ (ji15)
                  · rw [if_pos c17] at H
                    have c17b0 := eq_true c17
                    have c17b1 : decide ((ji13) ≤ (ji15)) = true := decide_eq_true c17
                    clear c17
                    by_cases c18 : (ji15) ≤ (a0.size : Int)
                    · rw [if_pos c18] at H
                      have c18b0 := eq_true c18
                      have c18b1 : decide ((ji15) ≤ (a0.size : Int)) = true := decide_eq_true c18
                      clear c18
                      replace H := Option.bind_eq_some_iff.mp H
                      obtain ⟨t117, A190, H⟩ := H
                      replace H : (if (t116 != t117) = true then (some false) else (bodkinlaw01_UnitLocal.l0 k1 a0 y112 (y112.length : Int) (wrap64 (x27_1 + 1)))) = some r := H
                      have A19 := Aside0.mk A190
                      clear A190
                      by_cases c20 : (t116 != t117) = true
                      · rw [if_pos c20] at H
                        have c20b0 : (t116 != t117) = true := c20
                        (try (have c20b1 : decide (t116 = t117) = false := by simpa using c20))
                        (try (have c20b2 : (t116 == t117) = false := by simpa using c20))
                        (try (have c20b3 : ¬ (t116 = t117) := by simpa using c20))
                        clear c20
                        obtain rfl := Option.some.inj H
                        have p115 : 0 ≤ (x27_1 : Int) := of_decide_eq_true (by first | (with_reducible assumption) | assumption)
                        have q115 : x27_1 < (y112.length : Int) := of_decide_eq_true (by first | (with_reducible assumption) | assumption)
                        obtain ⟨ad115, e115, hx115_0⟩ := Kd.at_int (Kd.R_reads' HO_25.out).2.2 x27_1 p115 q115
                        cases e115
                        replace p115 := eq_true p115
                        replace q115 := eq_true q115
                        try go_wp2
                        have n0_ := Aside0.mk (Kd.R_drew HO_25.out)
                        have n1_ := Aside0.mk (below_drew1 HB.out)
                        clear HO_25
                        clear HB
                        have HO_25 := n0_
                        have HB := n1_
                        clear n0_ n1_
                        refine start_ (n := 16) (S := fun w' => True) (ds := []) #[false, false, false, false, false, false, false, false, false, false, false, false, false, false, false, false] (by kernel_rfl) rfl rfl trivial (fun hHeld => ?_); refine with_tabW bodkinlaw01_UnitLocal.tab8 bodkinlaw01_UnitLocal.bits8 (fun HT_ HW_ => ?_)
                        generalize wr.drew = w21 at HO_25 HB hHeld ⊢
                        refine pure_ (i := 0) (N := some 34) (v := ?_) (a' := ?_) #[true, false, false, false, false, false, false, false, false, false, false, false, false, false, false, false] rfl rfl (any_of HT_.out (by kernel_rfl)) (fun _ _ _ h => h) (Or.inl ⟨by rfl, ?_⟩) ?_ ?_
                        rotate_left
                        · intro w'
                          go_simp
                          with_reducible rfl
                        rotate_left
                        · simp only [Act.put, List.setIfInBounds_toArray, List.set_cons_zero, List.set_cons_succ, i64_w, i32_w]
                          rfl
                        refine pure_ (i := 1) (N := some 35) (v := ?_) (a' := ?_) #[true, true, false, false, false, false, false, false, false, false, false, false, false, false, false, false] rfl rfl (any_of HT_.out (by kernel_rfl)) (fun _ _ _ h => h) (Or.inl ⟨by rfl, ?_⟩) ?_ ?_
                        rotate_left
                        · intro w'
                          go_simp
                          with_reducible rfl
                        rotate_left
                        · simp only [Act.put, List.setIfInBounds_toArray, List.set_cons_zero, List.set_cons_succ, i64_w, i32_w]
                          rfl
                        refine pure_ (i := 3) (N := some 37) (v := ?_) (a' := ?_) #[true, true, false, true, false, false, false, false, false, false, false, false, false, false, false, false] rfl rfl (any_of HT_.out (by kernel_rfl)) (fun _ _ _ h => h) (Or.inl ⟨by rfl, ?_⟩) ?_ ?_
                        rotate_left
                        · intro w'
                          go_simp
                          with_reducible rfl
                        rotate_left
                        · simp only [Act.put, List.setIfInBounds_toArray, List.set_cons_zero, List.set_cons_succ, i64_w, i32_w]
                          rfl
                        refine pure_ (i := 4) (N := some 38) (v := ?_) (a' := ?_) #[true, true, false, true, true, false, false, false, false, false, false, false, false, false, false, false] rfl rfl (any_of HT_.out (by kernel_rfl)) (fun _ _ _ h => h) (Or.inl ⟨by rfl, ?_⟩) ?_ ?_
                        rotate_left
                        · intro w'
                          go_simp
                          with_reducible rfl
                        rotate_left
                        · simp only [Act.put, List.setIfInBounds_toArray, List.set_cons_zero, List.set_cons_succ, i64_w, i32_w]
                          rfl
                        refine pure_ (i := 5) (N := some 39) (v := ?_) (a' := ?_) #[true, true, false, true, true, true, false, false, false, false, false, false, false, false, false, false] rfl rfl (any_of HT_.out (by kernel_rfl)) (fun _ _ _ h => h) (Or.inl ⟨by rfl, ?_⟩) ?_ ?_
                        rotate_left
                        · intro w'
                          go_simp
                          with_reducible rfl
                        rotate_left
                        · simp only [Act.put, List.setIfInBounds_toArray, List.set_cons_zero, List.set_cons_succ, i64_w, i32_w]
                          rfl
                        refine pure_ (i := 6) (N := some 40) (v := ?_) (a' := ?_) #[true, true, false, true, true, true, true, false, false, false, false, false, false, false, false, false] rfl rfl (any_of HT_.out (by kernel_rfl)) (fun _ _ _ h => h) (Or.inl ⟨by rfl, ?_⟩) ?_ ?_
                        rotate_left
                        · intro w'
                          go_simp
                          with_reducible rfl
                        rotate_left
                        · simp only [Act.put, List.setIfInBounds_toArray, List.set_cons_zero, List.set_cons_succ, i64_w, i32_w]
                          rfl
                        refine pure_ (i := 7) (N := some 41) (v := ?_) (a' := ?_) #[true, true, false, true, true, true, true, true, false, false, false, false, false, false, false, false] rfl rfl (any_of HT_.out (by kernel_rfl)) (fun _ _ _ h => h) (Or.inl ⟨by rfl, ?_⟩) ?_ ?_
                        rotate_left
                        · intro w'
                          go_simp
                          with_reducible rfl
                        rotate_left
                        · simp only [Act.put, List.setIfInBounds_toArray, List.set_cons_zero, List.set_cons_succ, i64_w, i32_w]
                          rfl
                        refine pure_ (i := 8) (N := some 42) (v := ?_) (a' := ?_) #[true, true, false, true, true, true, true, true, true, false, false, false, false, false, false, false] rfl rfl (any_of HT_.out (by kernel_rfl)) (fun _ _ _ h => h) (Or.inl ⟨by rfl, ?_⟩) ?_ ?_
                        rotate_left
                        · intro w'
                          go_simp
                          with_reducible rfl
                        rotate_left
                        · simp only [Act.put, List.setIfInBounds_toArray, List.set_cons_zero, List.set_cons_succ, i64_w, i32_w]
                          rfl
                        refine pure_ (i := 9) (N := some 43) (v := ?_) (a' := ?_) #[true, true, false, true, true, true, true, true, true, true, false, false, false, false, false, false] rfl rfl (any_of HT_.out (by kernel_rfl)) (fun _ _ _ h => h) (Or.inl ⟨by rfl, ?_⟩) ?_ ?_
                        rotate_left
                        · intro w'
                          go_simp
                          with_reducible rfl
                        rotate_left
                        · simp only [Act.put, List.setIfInBounds_toArray, List.set_cons_zero, List.set_cons_succ, i64_w, i32_w]
                          rfl
                        refine pure_ (i := 10) (N := some 44) (v := ?_) (a' := ?_) #[true, true, false, true, true, true, true, true, true, true, true, false, false, false, false, false] rfl rfl (any_of HT_.out (by kernel_rfl)) (fun _ _ _ h => h) (Or.inl ⟨by rfl, ?_⟩) ?_ ?_
                        rotate_left
                        · intro w'
                          go_simp
                          with_reducible rfl
                        rotate_left
                        · simp only [Act.put, List.setIfInBounds_toArray, List.set_cons_zero, List.set_cons_succ, i64_w, i32_w]
                          rfl
                        refine pure_ (i := 11) (N := some 45) (v := ?_) (a' := ?_) #[true, true, false, true, true, true, true, true, true, true, true, true, false, false, false, false] rfl rfl (any_of HT_.out (by kernel_rfl)) (fun _ _ _ h => h) (Or.inl ⟨by rfl, ?_⟩) ?_ ?_
                        rotate_left
                        · intro w'
                          go_simp
                          with_reducible rfl
                        rotate_left
                        · simp only [Act.put, List.setIfInBounds_toArray, List.set_cons_zero, List.set_cons_succ, i64_w, i32_w]
                          rfl
                        refine pure_ (i := 12) (N := some 46) (v := ?_) (a' := ?_) #[true, true, false, true, true, true, true, true, true, true, true, true, true, false, false, false] rfl rfl (any_of HT_.out (by kernel_rfl)) (fun _ _ _ h => h) (Or.inl ⟨by rfl, ?_⟩) ?_ ?_
                        rotate_left
                        · intro w'
                          go_simp
                          with_reducible rfl
                        rotate_left
                        · simp only [Act.put, List.setIfInBounds_toArray, List.set_cons_zero, List.set_cons_succ, i64_w, i32_w]
                          rfl
                        refine pure_ (i := 13) (N := some 47) (v := ?_) (a' := ?_) #[true, true, false, true, true, true, true, true, true, true, true, true, true, true, false, false] rfl rfl (any_of HT_.out (by kernel_rfl)) (fun _ _ _ h => h) (Or.inl ⟨by rfl, ?_⟩) ?_ ?_
                        rotate_left
                        · intro w'
                          go_simp
                          with_reducible rfl
                        rotate_left
                        · simp only [Act.put, List.setIfInBounds_toArray, List.set_cons_zero, List.set_cons_succ, i64_w, i32_w]
                          rfl
                        refine one_ (i := 2) (N := some 36) #[true, true, true, true, true, true, true, true, true, true, true, true, true, true, false, false] rfl rfl (one_of HT_.out (by kernel_rfl)) (by decide) (fun K hK => ?_)
                        refine goes_ Tryd.func22 (by kernel_rfl) rfl #[.string a0, .int .i64 (rd y112 x27_1)] (by rfl) rfl rfl (by (try simp only [List.map_toArray, List.map_cons, List.map_nil]); first | done | rfl | (simp only [List.length_drop, List.length_take]; rfl)) ?_
                        with_reducible refine (unit_Boundary.calls k1 a0 (rd y112 x27_1) t116 _ ?side1 A14.out).mono ?_
                        (case side1 => exact tabs_below HT.out (by repeat (first | (with_reducible first | exact HB.out | apply below_alloc | apply pw_below_drewN | apply below_drew1) | exact HB.out)))
                        rintro e w22 ⟨rfl, hb⟩
                        refine ⟨_, rfl, ?_⟩
                        have n0_ := Aside0.mk (Kd.R_below (by (with_reducible repeat (first | apply Kd.R_alloc | apply Kd.R_drewN | apply Kd.R_drew)); exact HO_25.out) hb)
                        have n1_ := Aside0.mk (below_step (by repeat (first | (with_reducible first | exact HB.out | apply below_alloc | apply pw_below_drewN | apply below_drew1) | exact HB.out)) hb)
                        clear HO_25
                        clear HB
                        have HO_25 := n0_
                        have HB := n1_
                        clear n0_ n1_
                        (try clear hb)
                        (try clear hb2)
                        (try clear hk)
                        (try clear hi)
                        refine hK.out _ _ trivial (fun hHeld => ?_)
                        clear hK K
                        refine norm_ (a' := ?_) ?_ ?_
                        rotate_left
                        · show Act.put _ (some 36) _ = _
                          simp only [Act.put, List.setIfInBounds_toArray, List.set_cons_zero, List.set_cons_succ, i64_w, i32_w]
                          rfl
                        refine one_ (i := 14) (N := some 48) #[true, true, true, true, true, true, true, true, true, true, true, true, true, true, true, false] rfl rfl (one_of HT_.out (by kernel_rfl)) (by decide) (fun K hK => ?_)
                        refine goes_ Tryd.func22 (by kernel_rfl) rfl #[.string (a0.extract ((ji13) : Int).toNat ((ji15) : Int).toNat), .int .i64 (wrap64 ((rd y112 x27_1) - (ji13)))] (by rfl) rfl rfl (by (try simp only [List.map_toArray, List.map_cons, List.map_nil]); first | done | (simp only [hji13, hji15]; rfl) | rfl | (simp only [List.length_drop, List.length_take]; rfl)) ?_
                        with_reducible refine (unit_Boundary.calls k1 (a0.extract ((ji13) : Int).toNat ((ji15) : Int).toNat) (wrap64 ((rd y112 x27_1) - (ji13))) t117 _ ?side1 A19.out).mono ?_
                        (case side1 => exact tabs_below HT.out (by repeat (first | (with_reducible first | exact HB.out | apply below_alloc | apply pw_below_drewN | apply below_drew1) | exact HB.out)))
                        rintro e w23 ⟨rfl, hb⟩
                        refine ⟨_, rfl, ?_⟩
                        have n0_ := Aside0.mk (Kd.R_below (by (with_reducible repeat (first | apply Kd.R_alloc | apply Kd.R_drewN | apply Kd.R_drew)); exact HO_25.out) hb)
                        have n1_ := Aside0.mk (below_step (by repeat (first | (with_reducible first | exact HB.out | apply below_alloc | apply pw_below_drewN | apply below_drew1) | exact HB.out)) hb)
                        clear HO_25
                        clear HB
                        have HO_25 := n0_
                        have HB := n1_
                        clear n0_ n1_
                        (try clear hb)
                        (try clear hb2)
                        (try clear hk)
                        (try clear hi)
                        refine hK.out _ _ trivial (fun hHeld => ?_)
                        clear hK K
                        refine norm_ (a' := ?_) ?_ ?_
                        rotate_left
                        · show Act.put _ (some 48) _ = _
                          simp only [Act.put, List.setIfInBounds_toArray, List.set_cons_zero, List.set_cons_succ, i64_w, i32_w]
                          rfl
                        refine pure_ (i := 15) (N := some 49) (v := ?_) (a' := ?_) #[true, true, true, true, true, true, true, true, true, true, true, true, true, true, true, true] rfl rfl (any_of HT_.out (by kernel_rfl)) (fun _ _ _ h => h) (Or.inl ⟨by rfl, ?_⟩) ?_ ?_
                        rotate_left
                        · intro w'
                          go_simp
                          with_reducible rfl
                        rotate_left
                        · simp only [Act.put, List.setIfInBounds_toArray, List.set_cons_zero, List.set_cons_succ, i64_w, i32_w]
                          rfl
                        refine done_ (done_of HT_.out (by kernel_rfl)) ?_
                        try go_wp2
                        go_ret
                        exact ⟨by first | rfl | (simp [errW_none, errW_some] <;> rfl) | (simp only [← hji13, ← hji15]; first | rfl | (simp [errW_none, errW_some] <;> rfl)) | (simp [*, errW_none, errW_some] <;> rfl), by repeat (first | (with_reducible first | exact HB.out | apply below_alloc | apply pw_below_drewN | apply below_drew1) | exact HB.out)⟩
                      · rw [if_neg c20] at H
                        have c20b0 : (t116 != t117) = false := by simpa using c20
                        (try (have c20b1 : decide (t116 = t117) = true := by simpa using c20))
                        (try (have c20b2 : (t116 == t117) = true := by simpa using c20))
                        clear c20
                        have H' := Aside0.mk H
                        clear H
                        have p115 : 0 ≤ (x27_1 : Int) := of_decide_eq_true (by first | (with_reducible assumption) | assumption)
                        have q115 : x27_1 < (y112.length : Int) := of_decide_eq_true (by first | (with_reducible assumption) | assumption)
                        obtain ⟨ad115, e115, hx115_0⟩ := Kd.at_int (Kd.R_reads' HO_25.out).2.2 x27_1 p115 q115
                        cases e115
                        replace p115 := eq_true p115
                        replace q115 := eq_true q115
                        try go_wp2
                        have n0_ := Aside0.mk (Kd.R_drew HO_25.out)
                        have n1_ := Aside0.mk (below_drew1 HB.out)
                        clear HO_25
                        clear HB
                        have HO_25 := n0_
                        have HB := n1_
                        clear n0_ n1_
                        refine start_ (n := 16) (S := fun w' => True) (ds := []) #[false, false, false, false, false, false, false, false, false, false, false, false, false, false, false, false] (by kernel_rfl) rfl rfl trivial (fun hHeld => ?_); refine with_tabW bodkinlaw01_UnitLocal.tab8 bodkinlaw01_UnitLocal.bits8 (fun HT_ HW_ => ?_)
                        generalize wr.drew = w24 at HO_25 HB hHeld ⊢
                        refine pure_ (i := 0) (N := some 34) (v := ?_) (a' := ?_) #[true, false, false, false, false, false, false, false, false, false, false, false, false, false, false, false] rfl rfl (any_of HT_.out (by kernel_rfl)) (fun _ _ _ h => h) (Or.inl ⟨by rfl, ?_⟩) ?_ ?_
                        rotate_left
                        · intro w'
                          go_simp
                          with_reducible rfl
                        rotate_left
                        · simp only [Act.put, List.setIfInBounds_toArray, List.set_cons_zero, List.set_cons_succ, i64_w, i32_w]
                          rfl
                        refine pure_ (i := 1) (N := some 35) (v := ?_) (a' := ?_) #[true, true, false, false, false, false, false, false, false, false, false, false, false, false, false, false] rfl rfl (any_of HT_.out (by kernel_rfl)) (fun _ _ _ h => h) (Or.inl ⟨by rfl, ?_⟩) ?_ ?_
                        rotate_left
                        · intro w'
                          go_simp
                          with_reducible rfl
                        rotate_left
                        · simp only [Act.put, List.setIfInBounds_toArray, List.set_cons_zero, List.set_cons_succ, i64_w, i32_w]
                          rfl
                        refine pure_ (i := 3) (N := some 37) (v := ?_) (a' := ?_) #[true, true, false, true, false, false, false, false, false, false, false, false, false, false, false, false] rfl rfl (any_of HT_.out (by kernel_rfl)) (fun _ _ _ h => h) (Or.inl ⟨by rfl, ?_⟩) ?_ ?_
                        rotate_left
                        · intro w'
                          go_simp
                          with_reducible rfl
                        rotate_left
                        · simp only [Act.put, List.setIfInBounds_toArray, List.set_cons_zero, List.set_cons_succ, i64_w, i32_w]
                          rfl
                        refine pure_ (i := 4) (N := some 38) (v := ?_) (a' := ?_) #[true, true, false, true, true, false, false, false, false, false, false, false, false, false, false, false] rfl rfl (any_of HT_.out (by kernel_rfl)) (fun _ _ _ h => h) (Or.inl ⟨by rfl, ?_⟩) ?_ ?_
                        rotate_left
                        · intro w'
                          go_simp
                          with_reducible rfl
                        rotate_left
                        · simp only [Act.put, List.setIfInBounds_toArray, List.set_cons_zero, List.set_cons_succ, i64_w, i32_w]
                          rfl
                        refine pure_ (i := 5) (N := some 39) (v := ?_) (a' := ?_) #[true, true, false, true, true, true, false, false, false, false, false, false, false, false, false, false] rfl rfl (any_of HT_.out (by kernel_rfl)) (fun _ _ _ h => h) (Or.inl ⟨by rfl, ?_⟩) ?_ ?_
                        rotate_left
                        · intro w'
                          go_simp
                          with_reducible rfl
                        rotate_left
                        · simp only [Act.put, List.setIfInBounds_toArray, List.set_cons_zero, List.set_cons_succ, i64_w, i32_w]
                          rfl
                        refine pure_ (i := 6) (N := some 40) (v := ?_) (a' := ?_) #[true, true, false, true, true, true, true, false, false, false, false, false, false, false, false, false] rfl rfl (any_of HT_.out (by kernel_rfl)) (fun _ _ _ h => h) (Or.inl ⟨by rfl, ?_⟩) ?_ ?_
                        rotate_left
                        · intro w'
                          go_simp
                          with_reducible rfl
                        rotate_left
                        · simp only [Act.put, List.setIfInBounds_toArray, List.set_cons_zero, List.set_cons_succ, i64_w, i32_w]
                          rfl
                        refine pure_ (i := 7) (N := some 41) (v := ?_) (a' := ?_) #[true, true, false, true, true, true, true, true, false, false, false, false, false, false, false, false] rfl rfl (any_of HT_.out (by kernel_rfl)) (fun _ _ _ h => h) (Or.inl ⟨by rfl, ?_⟩) ?_ ?_
                        rotate_left
                        · intro w'
                          go_simp
                          with_reducible rfl
                        rotate_left
                        · simp only [Act.put, List.setIfInBounds_toArray, List.set_cons_zero, List.set_cons_succ, i64_w, i32_w]
                          rfl
                        refine pure_ (i := 8) (N := some 42) (v := ?_) (a' := ?_) #[true, true, false, true, true, true, true, true, true, false, false, false, false, false, false, false] rfl rfl (any_of HT_.out (by kernel_rfl)) (fun _ _ _ h => h) (Or.inl ⟨by rfl, ?_⟩) ?_ ?_
                        rotate_left
                        · intro w'
                          go_simp
                          with_reducible rfl
                        rotate_left
                        · simp only [Act.put, List.setIfInBounds_toArray, List.set_cons_zero, List.set_cons_succ, i64_w, i32_w]
                          rfl
                        refine pure_ (i := 9) (N := some 43) (v := ?_) (a' := ?_) #[true, true, false, true, true, true, true, true, true, true, false, false, false, false, false, false] rfl rfl (any_of HT_.out (by kernel_rfl)) (fun _ _ _ h => h) (Or.inl ⟨by rfl, ?_⟩) ?_ ?_
                        rotate_left
                        · intro w'
                          go_simp
                          with_reducible rfl
                        rotate_left
                        · simp only [Act.put, List.setIfInBounds_toArray, List.set_cons_zero, List.set_cons_succ, i64_w, i32_w]
                          rfl
                        refine pure_ (i := 10) (N := some 44) (v := ?_) (a' := ?_) #[true, true, false, true, true, true, true, true, true, true, true, false, false, false, false, false] rfl rfl (any_of HT_.out (by kernel_rfl)) (fun _ _ _ h => h) (Or.inl ⟨by rfl, ?_⟩) ?_ ?_
                        rotate_left
                        · intro w'
                          go_simp
                          with_reducible rfl
                        rotate_left
                        · simp only [Act.put, List.setIfInBounds_toArray, List.set_cons_zero, List.set_cons_succ, i64_w, i32_w]
                          rfl
                        refine pure_ (i := 11) (N := some 45) (v := ?_) (a' := ?_) #[true, true, false, true, true, true, true, true, true, true, true, true, false, false, false, false] rfl rfl (any_of HT_.out (by kernel_rfl)) (fun _ _ _ h => h) (Or.inl ⟨by rfl, ?_⟩) ?_ ?_
                        rotate_left
                        · intro w'
                          go_simp
                          with_reducible rfl
                        rotate_left
                        · simp only [Act.put, List.setIfInBounds_toArray, List.set_cons_zero, List.set_cons_succ, i64_w, i32_w]
                          rfl
                        refine pure_ (i := 12) (N := some 46) (v := ?_) (a' := ?_) #[true, true, false, true, true, true, true, true, true, true, true, true, true, false, false, false] rfl rfl (any_of HT_.out (by kernel_rfl)) (fun _ _ _ h => h) (Or.inl ⟨by rfl, ?_⟩) ?_ ?_
                        rotate_left
                        · intro w'
                          go_simp
                          with_reducible rfl
                        rotate_left
                        · simp only [Act.put, List.setIfInBounds_toArray, List.set_cons_zero, List.set_cons_succ, i64_w, i32_w]
                          rfl
                        refine pure_ (i := 13) (N := some 47) (v := ?_) (a' := ?_) #[true, true, false, true, true, true, true, true, true, true, true, true, true, true, false, false] rfl rfl (any_of HT_.out (by kernel_rfl)) (fun _ _ _ h => h) (Or.inl ⟨by rfl, ?_⟩) ?_ ?_
                        rotate_left
                        · intro w'
                          go_simp
                          with_reducible rfl
                        rotate_left
                        · simp only [Act.put, List.setIfInBounds_toArray, List.set_cons_zero, List.set_cons_succ, i64_w, i32_w]
                          rfl
                        refine one_ (i := 2) (N := some 36) #[true, true, true, true, true, true, true, true, true, true, true, true, true, true, false, false] rfl rfl (one_of HT_.out (by kernel_rfl)) (by decide) (fun K hK => ?_)
                        refine goes_ Tryd.func22 (by kernel_rfl) rfl #[.string a0, .int .i64 (rd y112 x27_1)] (by rfl) rfl rfl (by (try simp only [List.map_toArray, List.map_cons, List.map_nil]); first | done | rfl | (simp only [List.length_drop, List.length_take]; rfl)) ?_
                        with_reducible refine (unit_Boundary.calls k1 a0 (rd y112 x27_1) t116 _ ?side1 A14.out).mono ?_
                        (case side1 => exact tabs_below HT.out (by repeat (first | (with_reducible first | exact HB.out | apply below_alloc | apply pw_below_drewN | apply below_drew1) | exact HB.out)))
                        rintro e w25 ⟨rfl, hb⟩
                        refine ⟨_, rfl, ?_⟩
                        have n0_ := Aside0.mk (Kd.R_below (by (with_reducible repeat (first | apply Kd.R_alloc | apply Kd.R_drewN | apply Kd.R_drew)); exact HO_25.out) hb)
                        have n1_ := Aside0.mk (below_step (by repeat (first | (with_reducible first | exact HB.out | apply below_alloc | apply pw_below_drewN | apply below_drew1) | exact HB.out)) hb)
                        clear HO_25
                        clear HB
                        have HO_25 := n0_
                        have HB := n1_
                        clear n0_ n1_
                        (try clear hb)
                        (try clear hb2)
                        (try clear hk)
                        (try clear hi)
                        refine hK.out _ _ trivial (fun hHeld => ?_)
                        clear hK K
                        refine norm_ (a' := ?_) ?_ ?_
                        rotate_left
                        · show Act.put _ (some 36) _ = _
                          simp only [Act.put, List.setIfInBounds_toArray, List.set_cons_zero, List.set_cons_succ, i64_w, i32_w]
                          rfl
                        refine one_ (i := 14) (N := some 48) #[true, true, true, true, true, true, true, true, true, true, true, true, true, true, true, false] rfl rfl (one_of HT_.out (by kernel_rfl)) (by decide) (fun K hK => ?_)
                        refine goes_ Tryd.func22 (by kernel_rfl) rfl #[.string (a0.extract ((ji13) : Int).toNat ((ji15) : Int).toNat), .int .i64 (wrap64 ((rd y112 x27_1) - (ji13)))] (by rfl) rfl rfl (by (try simp only [List.map_toArray, List.map_cons, List.map_nil]); first | done | (simp only [hji13, hji15]; rfl) | rfl | (simp only [List.length_drop, List.length_take]; rfl)) ?_
                        with_reducible refine (unit_Boundary.calls k1 (a0.extract ((ji13) : Int).toNat ((ji15) : Int).toNat) (wrap64 ((rd y112 x27_1) - (ji13))) t117 _ ?side1 A19.out).mono ?_
                        (case side1 => exact tabs_below HT.out (by repeat (first | (with_reducible first | exact HB.out | apply below_alloc | apply pw_below_drewN | apply below_drew1) | exact HB.out)))
                        rintro e w26 ⟨rfl, hb⟩
                        refine ⟨_, rfl, ?_⟩
                        have n0_ := Aside0.mk (Kd.R_below (by (with_reducible repeat (first | apply Kd.R_alloc | apply Kd.R_drewN | apply Kd.R_drew)); exact HO_25.out) hb)
                        have n1_ := Aside0.mk (below_step (by repeat (first | (with_reducible first | exact HB.out | apply below_alloc | apply pw_below_drewN | apply below_drew1) | exact HB.out)) hb)
                        clear HO_25
                        clear HB
                        have HO_25 := n0_
                        have HB := n1_
                        clear n0_ n1_
                        (try clear hb)
                        (try clear hb2)
                        (try clear hk)
                        (try clear hi)
                        refine hK.out _ _ trivial (fun hHeld => ?_)
                        clear hK K
                        refine norm_ (a' := ?_) ?_ ?_
                        rotate_left
                        · show Act.put _ (some 48) _ = _
                          simp only [Act.put, List.setIfInBounds_toArray, List.set_cons_zero, List.set_cons_succ, i64_w, i32_w]
                          rfl
                        refine pure_ (i := 15) (N := some 49) (v := ?_) (a' := ?_) #[true, true, true, true, true, true, true, true, true, true, true, true, true, true, true, true] rfl rfl (any_of HT_.out (by kernel_rfl)) (fun _ _ _ h => h) (Or.inl ⟨by rfl, ?_⟩) ?_ ?_
                        rotate_left
                        · intro w'
                          go_simp
                          with_reducible rfl
                        rotate_left
                        · simp only [Act.put, List.setIfInBounds_toArray, List.set_cons_zero, List.set_cons_succ, i64_w, i32_w]
                          rfl
                        refine done_ (done_of HT_.out (by kernel_rfl)) ?_
                        try go_wp2
                        go_roundg k1
                        case measure => have := HK1.out; omega
                        case rel => exact ⟨(wrap64 (x27_1 + 1)), (by first | rfl | (simp; done) | (simp [*]; done)), H', ⟨by have := HK1.out; omega⟩, ⟨by (with_reducible repeat (first | apply Kd.R_alloc | apply Kd.R_drewN | apply Kd.R_drew)); exact HO_25.out⟩, ⟨by repeat (first | (with_reducible first | exact HB.out | apply below_alloc | apply pw_below_drewN | apply below_drew1) | exact HB.out)⟩⟩
                    · rw [if_neg c18] at H
                      exact absurd H (by simp)
                  · rw [if_neg c17] at H
                    exact absurd H (by simp)
                · rw [if_neg c16] at H
                  exact absurd H (by simp)
              · rw [if_neg c12] at H
                exact absurd H (by simp)
            · rw [if_neg c11] at H
              exact absurd H (by simp)
          · rw [if_neg c10] at H
            have c10b0 : decide (x27_1 < (y112.length : Int)) = false := decide_eq_false c10
            clear c10
            obtain rfl := Option.some.inj H
            go_wp2
            go_ret
            exact ⟨by first | rfl | (simp [errW_none, errW_some] <;> rfl) | (simp [*, errW_none, errW_some] <;> rfl), by repeat (first | (with_reducible first | exact HB.out | apply below_alloc | apply pw_below_drewN | apply below_drew1) | exact HB.out)⟩
  · replace c4 := Bool.eq_false_iff.mpr c4
    subst c4
    have H1 : (some false) = some r := by rw [if_neg (show ¬ (false = true) by decide)] at H; exact H
    clear H
    have H := H1
    clear H1
    obtain rfl := Option.some.inj H
    go_enter Tryd.func3, Tryd.ntmps3
    go_wp2_with (first | ((with_reducible refine gate_callee (f := 21) rfl ?_); refine goesL_ (some 9) rfl rfl Tryd.func21 (by kernel_rfl) rfl #[] rfl (by (try simp only [List.map_toArray, List.map_cons, List.map_nil]); first | done | rfl | (simp only [List.length_drop, List.length_take]; rfl)) ?_; (with_reducible refine (bodkinlaw01_cuts.calls  false _ ?side1 A3.out).mono ?_); (case side1 => exact tabs_below HT.out (by repeat (first | (with_reducible first | exact HB.out | apply below_alloc | apply pw_below_drewN | apply below_drew1) | exact HB.out))); rintro e w27 ⟨rfl, hb⟩; refine ⟨_, rfl, ?_⟩; have n0_ := Aside0.mk (below_step (by repeat (first | (with_reducible first | exact HB.out | apply below_alloc | apply pw_below_drewN | apply below_drew1) | exact HB.out)) hb); clear HB; have HB := n0_; clear n0_; (try clear hb); (try clear hb2); (try clear hk); (try clear hi)))
    go_ret
    exact ⟨by first | rfl | (simp [errW_none, errW_some] <;> rfl) | (simp [*, errW_none, errW_some] <;> rfl), by repeat (first | (with_reducible first | exact HB.out | apply below_alloc | apply pw_below_drewN | apply below_drew1) | exact HB.out)⟩

/-- THE ONE PURE STATEMENT of bodkinlaw01_UnitLocal: yours. -/
def bodkinlaw01_UnitLocal.Pure : Prop := ∀ (a0 : ByteArray) (a1 : Int), a0.size ≤ 140737488351232 → (Lit.int .u16 a1).wf = true → ∃ k, bodkinlaw01_UnitLocal.f k a0 a1 = some true
theorem bodkinlaw01_UnitLocal.walk (P : bodkinlaw01_UnitLocal.Pure) (a0 : ByteArray) (a1 : Int) (w : World) (w0 : a0.size ≤ 140737488351232) (w1 : (Lit.int .u16 a1).wf = true) (hT : Lib.Utf8Tabs 0 1 w) :
    Calls Tryd.prog 3 #[.string a0, .int .u16 a1] w fun e w' => e = .returned (.bool true) ∧ Below w.heap.size w w' := by
  obtain ⟨k, h⟩ := P a0 a1 w0 w1
  refine (bodkinlaw01_UnitLocal.calls k a0 a1 true w hT h).mono ?_
  rintro e w' ⟨rfl, hd⟩
  exact ⟨rfl, hd⟩

end Go.Proofs.YtfhnfhgpaoddbaaDoor.U
