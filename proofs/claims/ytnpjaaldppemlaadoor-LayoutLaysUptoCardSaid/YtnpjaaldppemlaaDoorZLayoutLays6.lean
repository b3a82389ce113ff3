/- What the law LayoutLays reaches of this seat's own texts, merged; what nothing uses is left out. -/
import Derived.Test.YtnpjaaldppemlaaDoorZLayoutLays0
import Derived.Test.YtnpjaaldppemlaaDoorZLayoutLays1
import Derived.Test.YtnpjaaldppemlaaDoorZLayoutLays2
import Derived.Test.YtnpjaaldppemlaaDoorZLayoutLays3
import Derived.Test.YtnpjaaldppemlaaDoorZLayoutLays4
section
namespace Go.Proofs.YtnpjaaldppemlaaDoor.U
open Go.RowKit Go.Proofs.YtnpjaaldppemlaaDoorW.PrintWords Go.Proofs.YtnpjaaldppemlaaDoorW.PrintLast Go.Proofs.YtnpjaaldppemlaaDoorW.PrintMore
attribute [local go_sem] max2_int min2_int max_two min_two max_three min_three max_four min_four   -- for this text's walks alone
set_option linter.unusedVariables false
set_option linter.unusedSimpArgs false
mutual
def bodkinref02_Table.l0 : Nat → ByteArray → List Int → Int → Bool → Int → Option ((List (S116)))
 | 0,_,_,_,_,_ => none
 | k + 1,x0,x3,x4,x5,x6 => if x6 ≤ (x0.size : Int) then (if x6 < (x0.size : Int) then (if 0 ≤ x6 then ((bodkinref02_digit.f k (bt x0 x6)).bind fun t454 => (bodkinref02_Table.j1 k x0 x3 x4 x5 x6 t454)) else (none)) else (bodkinref02_Table.j1 k x0 x3 x4 x5 x6 (-1))) else (bodkinref02_Table.l1 k x3 ([] : List (S116)) 0)
def bodkinref02_Table.j1 : Nat → ByteArray → List Int → Int → Bool → Int → Int → Option ((List (S116)))
 | 0,_,_,_,_,_,_ => none
 | k + 1,x0,x3,x4,x5,x6,x7 => if x7 ≥ 0 then (bodkinref02_Table.l0 k x0 x3 (wrap32 ((wrap32 (x4 * 16)) + x7)) true (wrap64 (x6 + 1))) else (if x5 = true then (if x3.length < 35184372088832 then (bodkinref02_Table.l0 k x0 (x3 ++ [x4]) 0 false (wrap64 (x6 + 1))) else (none)) else (bodkinref02_Table.l0 k x0 x3 0 false (wrap64 (x6 + 1))))
def bodkinref02_Table.l1 : Nat → List Int → List (S116) → Int → Option ((List (S116)))
 | 0,_,_,_ => none
 | k + 1,x3,x8,x9 => if (wrap64 (x9 + 1)) < (x3.length : Int) then (if 0 ≤ x9 then (if x9 < (x3.length : Int) then (if 0 ≤ (wrap64 (x9 + 1)) then (if x8.length < 17592186044416 then (bodkinref02_Table.l1 k x3 (x8 ++ [(⟨rd x3 x9,rd x3 (wrap64 (x9 + 1))⟩ : S116)]) (wrap64 (x9 + 2))) else (none)) else (none)) else (none)) else (none)) else (some x8)
end
def bodkinref02_Table.f (k : Nat) (a0 : ByteArray) : Option ((List (S116))) := bodkinref02_Table.l0 k a0 ([] : List Int) 0 false 0
theorem bodkinref02_Table.mono_l : ∀ k,(∀ y0 y1 y2 y3 y4,LeO (bodkinref02_Table.l0 k y0 y1 y2 y3 y4) (bodkinref02_Table.l0 (k + 1) y0 y1 y2 y3 y4)) ∧ (∀ y0 y1 y2 y3 y4 y5,LeO (bodkinref02_Table.j1 k y0 y1 y2 y3 y4 y5) (bodkinref02_Table.j1 (k + 1) y0 y1 y2 y3 y4 y5)) ∧ (∀ y0 y1 y2,LeO (bodkinref02_Table.l1 k y0 y1 y2) (bodkinref02_Table.l1 (k + 1) y0 y1 y2))
 | 0 => ⟨fun _ _ _ _ _ r h => by simp [bodkinref02_Table.l0] at h,fun _ _ _ _ _ _ r h => by simp [bodkinref02_Table.j1] at h,fun _ _ _ r h => by simp [bodkinref02_Table.l1] at h⟩
 | k + 1 => by
  obtain ⟨ih0,ih1,ih2⟩ := bodkinref02_Table.mono_l k
  refine ⟨?_,?_,?_⟩
  ·intro y0 y1 y2 y3 y4
   unfold bodkinref02_Table.l0
   repeat' first
   | (with_reducible exact ih0 _ _ _ _ _)
   | (with_reducible exact ih1 _ _ _ _ _ _)
   | (with_reducible exact ih2 _ _ _)
   | (with_reducible exact bodkinref02_digit.mono _ _)
   | (with_reducible exact LeO.refl _)
   | (with_reducible exact LeO.none _)
   | (with_reducible refine LeO.ite ?_ ?_)
   | (with_reducible refine LeO.bind ?_ (fun _ => ?_))
   | exact ih0 _ _ _ _ _
   | exact ih1 _ _ _ _ _ _
   | exact ih2 _ _ _
   | exact bodkinref02_digit.mono _ _
   | exact LeO.none _
   | refine LeO.ite ?_ ?_
   | refine LeO.bind ?_ (fun _ => ?_)
  ·intro y0 y1 y2 y3 y4 y5
   unfold bodkinref02_Table.j1
   repeat' first
   | (with_reducible exact ih0 _ _ _ _ _)
   | (with_reducible exact ih1 _ _ _ _ _ _)
   | (with_reducible exact ih2 _ _ _)
   | (with_reducible exact bodkinref02_digit.mono _ _)
   | (with_reducible exact LeO.refl _)
   | (with_reducible exact LeO.none _)
   | (with_reducible refine LeO.ite ?_ ?_)
   | (with_reducible refine LeO.bind ?_ (fun _ => ?_))
   | exact ih0 _ _ _ _ _
   | exact ih1 _ _ _ _ _ _
   | exact ih2 _ _ _
   | exact bodkinref02_digit.mono _ _
   | exact LeO.none _
   | refine LeO.ite ?_ ?_
   | refine LeO.bind ?_ (fun _ => ?_)
  ·intro y0 y1 y2
   unfold bodkinref02_Table.l1
   repeat' first
   | (with_reducible exact ih0 _ _ _ _ _)
   | (with_reducible exact ih1 _ _ _ _ _ _)
   | (with_reducible exact ih2 _ _ _)
   | (with_reducible exact bodkinref02_digit.mono _ _)
   | (with_reducible exact LeO.refl _)
   | (with_reducible exact LeO.none _)
   | (with_reducible refine LeO.ite ?_ ?_)
   | (with_reducible refine LeO.bind ?_ (fun _ => ?_))
   | exact ih0 _ _ _ _ _
   | exact ih1 _ _ _ _ _ _
   | exact ih2 _ _ _
   | exact bodkinref02_digit.mono _ _
   | exact LeO.none _
   | refine LeO.ite ?_ ?_
   | refine LeO.bind ?_ (fun _ => ?_)
theorem bodkinref02_Table.mono : ∀ a0 k,LeO (bodkinref02_Table.f k a0) (bodkinref02_Table.f (k + 1) a0) := by
 intro a0 k
 obtain ⟨ih0,ih1,ih2⟩ := bodkinref02_Table.mono_l k
 unfold bodkinref02_Table.f
 repeat' first
   | (with_reducible exact ih0 _ _ _ _ _)
   | (with_reducible exact ih1 _ _ _ _ _ _)
   | (with_reducible exact ih2 _ _ _)
   | (with_reducible exact bodkinref02_digit.mono _ _)
   | (with_reducible exact LeO.refl _)
   | (with_reducible exact LeO.none _)
   | (with_reducible refine LeO.ite ?_ ?_)
   | (with_reducible refine LeO.bind ?_ (fun _ => ?_))
   | exact ih0 _ _ _ _ _
   | exact ih1 _ _ _ _ _ _
   | exact ih2 _ _ _
   | exact bodkinref02_digit.mono _ _
   | exact LeO.none _
   | refine LeO.ite ?_ ?_
   | refine LeO.bind ?_ (fun _ => ?_)
def bodkinref02_Table.T21 : Bool × List (List Nat × List Nat) := (true,[([],[]),([],[]),([],[]),([1,2],[1,2]),([3],[3]),([],[]),([],[]),([6],[6]),([5,7],[5,7]),([8],[8]),([4,9],[4,9]),([10],[10]),([0,11],[0,11]),([12,12,0,1,2,3,4,5,6,7,8,9,10,11,12],[0,12])])
def bodkinref02_Table.B21 : List Nat := [0,0,0,6,14,0,0,64,224,480,1022,2046,4095,8191]
theorem bodkinref02_Table.tab21 : rtab .any (opsOf Tryd.f70 21) = bodkinref02_Table.T21 := by kernel_rfl
theorem bodkinref02_Table.bits21 : waitsOk bodkinref02_Table.T21.2 bodkinref02_Table.B21 = true := by kernel_rfl
set_option maxHeartbeats 8000000 in
set_option maxRecDepth 100000 in
theorem bodkinref02_Table.calls (k : Nat) (a0 : ByteArray) (r : List (S116)) (w : World) (h : bodkinref02_Table.f k a0 = some r) :
  Calls Tryd.prog 70 #[.string a0] w fun e w' => ∃ v0_ : Value,e = .returned (v0_) ∧ Kd.R k116 116 w' w.heap.size (fun _ => True) v0_ r ∧ Below w.heap.size w w' := by
 have hu116 := Tryd.underlying116
 have HB := Aside0.mk (Below.refl w.heap.size w)
 have H : (bodkinref02_Table.l0 k a0 ([] : List Int) 0 false 0) = some r := h
 clear h
 have H' := Aside0.mk H
 clear H
 go_enter Tryd.func70,Tryd.ntmps70
 go_wp2
 go_loopg [3,4,5,6] k (fun kq v3 v4 v5 v6 w' => ∃ (x3_1 : List Int) (x4_1 : Int) (x5_1 : Bool) (x6_1 : Int),v4 = .int .i32 x4_1 ∧ v5 = .bool x5_1 ∧ v6 = .int .i64 x6_1 ∧ Aside0 (bodkinref02_Table.l0 kq a0 x3_1 x4_1 x5_1 x6_1 = some r) ∧ Aside0 (kq ≤ k) ∧ Aside0 (Kd.R (Kd.int .i32) 21 w' w.heap.size (fun _ => True) v3 x3_1) ∧ Aside0 (Below w.heap.size w w'))
 case atStart => exact ⟨(([] : List Int)),(0),(false),(0),au4,au4,au4,H',⟨Nat.le_refl _⟩,⟨by first | exact Kd.R_nil _ _ _ _ _ | exact Kd.N_nil _ _ _ _ _ | exact Kd.V_nil _ _ _ _ _ | exact Kd.Q_nil _ _ _ _ _ | exact Kd.S_nil _ _ _ _ _⟩,⟨au0⟩⟩
 case round =>
  clear H'
  obtain ⟨x3_1,x4_1,x5_1,x6_1,rfl,rfl,rfl,HA,HK1,HO_3,HB⟩ := hrel
  cases gk with
  | zero => exact absurd HA.out (by simp [bodkinref02_Table.l0])
  | succ k1 =>
   have H := HA.out
   clear HA
   simp only [bodkinref02_Table.l0] at H
   by_cases c2 : x6_1 ≤ (a0.size : Int)
   ·rw [if_pos c2] at H
    have c2b0 : decide (x6_1 ≤ (a0.size : Int)) = true := decide_eq_true c2
    clear c2
    have HC3 := Aside0.mk H
    clear H
    go_upto_if 19 with (fail)
    go_cut [7] (fun v7 wc => ∃ (kq : Nat) (x7_2 : Int),v7 = .int .i32 x7_2 ∧ Aside0 (bodkinref02_Table.j1 kq a0 x3_1 x4_1 x5_1 x6_1 x7_2 = some r) ∧ Aside0 (kq ≤ k1) ∧ Aside0 (Kd.R (Kd.int .i32) 21 wc w.heap.size (fun _ => True) u3 x3_1) ∧ Aside0 (Below w.heap.size w wc))
    case first =>
     have H := HC3.out
     clear HC3
     by_cases c4 : x6_1 < (a0.size : Int)
     ·rw [if_pos c4] at H
      have c4b0 : decide (x6_1 < (a0.size : Int)) = true := decide_eq_true c4
      clear c4
      (first | rw [c4b0] | (simp only [i64_w,i32_w];rw [c4b0]) | skip)
      by_cases c5 : 0 ≤ x6_1
      ·rw [if_pos c5] at H
       have c5b0 : decide (0 ≤ x6_1) = true := decide_eq_true c5
       clear c5
       replace H := Option.bind_eq_some_iff.mp H
       obtain ⟨t454,A70,H⟩ := H
       replace H : (bodkinref02_Table.j1 k1 a0 x3_1 x4_1 x5_1 x6_1 t454) = some r := H
       have A7 := Aside0.mk A70
       clear A70
       have H' := Aside0.mk H
       clear H
       have p6 : 0 ≤ (x6_1 : Int) := of_decide_eq_true au3
       have q6 : x6_1 < (a0.size : Int) := of_decide_eq_true au3
       have hx6 := bt_at a0 x6_1
       replace p6 := eq_true p6
       replace q6 := eq_true q6
       go_wp2_with (first | ((with_reducible refine gate_callee (f := 83) rfl ?_);refine goesL_ (some 23) rfl rfl Tryd.func83 (by kernel_rfl) rfl #[.int .u8 (bt a0 x6_1)] rfl au1 ?_;(with_reducible refine (bodkinref02_digit.calls k1 (bt a0 x6_1) t454 _ A7.out).mono ?_);rintro e w' ⟨rfl,⟨nd,rfl⟩⟩;refine ⟨_,rfl,?_⟩))
       go_meet
       case rel => exact ⟨_,(t454),au4,H',⟨by have := HK1.out;first | omega | exact Nat.le_refl _⟩,⟨by (with_reducible repeat (first | apply Kd.R_alloc | apply Kd.R_drewN | apply Kd.R_drew));exact HO_3.out⟩,⟨au0⟩⟩
      ·rw [if_neg c5] at H
       exact absurd H (by simp)
     ·rw [if_neg c4] at H
      have c4b0 : decide (x6_1 < (a0.size : Int)) = false := decide_eq_false c4
      clear c4
      (first | rw [c4b0] | (simp only [i64_w,i32_w];rw [c4b0]) | skip)
      have H' := Aside0.mk H
      clear H
      go_wp2
      go_meet
      case rel => exact ⟨_,((-1)),au4,H',⟨by have := HK1.out;first | omega | exact Nat.le_refl _⟩,⟨by (with_reducible repeat (first | apply Kd.R_alloc | apply Kd.R_drewN | apply Kd.R_drew));exact HO_3.out⟩,⟨au0⟩⟩
    case rest =>
     clear HC3
     try clear c2
     try clear c2b0
     try clear p2
     try clear c4
     try clear c4b0
     try clear c5
     try clear c5b0
     try clear p6
     try clear q6
     try clear hx6
     try clear c7
     try clear p6
     try clear q6
     obtain ⟨kq,x7_2,rfl,HA,HJ2,HO_3,HB⟩ := hcut
     cases kq with
     | zero => exact absurd HA.out (by simp [bodkinref02_Table.j1])
     | succ kj2 =>
      have H := HA.out
      clear HA
      simp only [bodkinref02_Table.j1] at H
      by_cases c8 : x7_2 ≥ 0
      ·rw [if_pos c8] at H
       have c8b0 : decide (0 ≤ x7_2) = true := decide_eq_true c8
       clear c8
       have H' := Aside0.mk H
       clear H
       go_wp2
       go_roundg kj2
       case measure => have := HK1.out;have := HJ2.out;omega
       case rel => exact ⟨(x3_1),(wrap32 ((wrap32 (x4_1 * 16)) + x7_2)),(true),(wrap64 (x6_1 + 1)),au4,au4,au4,H',⟨by have := HK1.out;have := HJ2.out;omega⟩,⟨by (with_reducible repeat (first | apply Kd.R_alloc | apply Kd.R_drewN | apply Kd.R_drew));exact HO_3.out⟩,⟨au0⟩⟩
      ·rw [if_neg c8] at H
       have c8b0 : decide (0 ≤ x7_2) = false := decide_eq_false c8
       clear c8
       by_cases c9 : x5_1 = true
       ·subst c9
        have H1 : (if x3_1.length < 35184372088832 then (bodkinref02_Table.l0 kj2 a0 (x3_1 ++ [x4_1]) 0 false (wrap64 (x6_1 + 1))) else (none)) = some r := by rw [if_pos rfl] at H;exact H
        clear H
        have H := H1
        clear H1
        by_cases c10 : x3_1.length < 35184372088832
        ·rw [if_pos c10] at H
         have LMc10 := Aside0.mk c10
         clear c10
         obtain ⟨y455,hy455⟩ : ∃ y_ : List Int,y_ = (x3_1 ++ [x4_1]) := ⟨_,rfl⟩
         replace H : (bodkinref02_Table.l0 kj2 a0 y455 0 false (wrap64 (x6_1 + 1))) = some r := by first | (rw [hy455];with_reducible exact H) | (have H2_ := (Option.bind_some _ _).symm.trans H;rw [hy455];with_reducible exact H2_) | (have H2_ := (Option.bind_some _ _).symm.trans H;with_reducible exact H2_) | with_reducible exact H | (rw [hy455];exact H) | exact H
         have Ny455 := Aside0.mk hy455
         clear hy455
         have H' := Aside0.mk H
         clear H
         go_wp2_with (first | ((with_reducible refine gate_builtin (b := .append) (xs := #[.tmp 31,.tmp 33]) rfl ?_);at_builtin;refine Kd.R_append (Kd.int .i32) (w0 := w) w.heap.size rfl (.tmp 31) (.tmp 33) 117 21 (.int .i32 0) 4 rfl Tryd.underlying117 info21 rfl (by decide) (by omega) u3 x3_1 x4_1 [.int .i32 x4_1] (fun _ => True) (fun _ => False) rfl rfl ?aP (fun _ hk => hk.elim) ?aF ?aO ?aB ?aS ?aL ?_;(case aP => exact rfl);(case aB => exact au0);(case aF => exact (fun _ _ => trivial));(case aO => exact au8);(case aS => exact (below_size au0));(case aL => have := LMc10.out;omega);intro v456 w11 ho hb hg hat;rw [← Ny455.out] at ho;have n0_ := Aside0.mk (hb);have n1_ := Aside0.mk (ho);clear HB;clear HO_3;have HB := n0_;have HO457 := n1_;clear n0_ n1_;clear ho hb hg hat))
         go_roundg kj2
         case measure => have := HK1.out;have := HJ2.out;omega
         case rel => exact ⟨(y455),(0),(false),(wrap64 (x6_1 + 1)),au4,au4,au4,H',⟨by have := HK1.out;have := HJ2.out;omega⟩,⟨by (with_reducible repeat (first | apply Kd.R_alloc | apply Kd.R_drewN | apply Kd.R_drew));exact HO457.out⟩,⟨au0⟩⟩
        ·rw [if_neg c10] at H
         exact absurd H (by simp)
       ·replace c9 := Bool.eq_false_iff.mpr c9
        subst c9
        have H1 : (bodkinref02_Table.l0 kj2 a0 x3_1 0 false (wrap64 (x6_1 + 1))) = some r := by rw [if_neg (show ¬ (false = true) by decide)] at H;exact H
        clear H
        have H := H1
        clear H1
        have H' := Aside0.mk H
        clear H
        go_wp2
        go_roundg kj2
        case measure => have := HK1.out;have := HJ2.out;omega
        case rel => exact ⟨(x3_1),(0),(false),(wrap64 (x6_1 + 1)),au4,au4,au4,H',⟨by have := HK1.out;have := HJ2.out;omega⟩,⟨by (with_reducible repeat (first | apply Kd.R_alloc | apply Kd.R_drewN | apply Kd.R_drew));exact HO_3.out⟩,⟨au0⟩⟩
   ·rw [if_neg c2] at H
    have c2b0 : decide (x6_1 ≤ (a0.size : Int)) = false := decide_eq_false c2
    clear c2
    have H' := Aside0.mk H
    clear H
    go_wp2
    go_loopg [8,9] k1 (fun kq v8 v9 w' => ∃ (x8_2 : List (S116)) (x9_2 : Int),v9 = .int .i64 x9_2 ∧ Aside0 (bodkinref02_Table.l1 kq x3_1 x8_2 x9_2 = some r) ∧ Aside0 (kq ≤ k1) ∧ Aside0 (Kd.R (Kd.int .i32) 21 w' w.heap.size (fun _ => True) u3 x3_1) ∧ Aside0 (Kd.R k116 116 w' w.heap.size (fun _ => True) v8 x8_2) ∧ Aside0 (Below w.heap.size w w'))
    case atStart => exact ⟨(([] : List (S116))),(0),au4,H',⟨Nat.le_refl _⟩,⟨by (with_reducible repeat (first | apply Kd.R_alloc | apply Kd.R_drewN | apply Kd.R_drew));exact HO_3.out⟩,⟨by first | exact Kd.R_nil _ _ _ _ _ | exact Kd.N_nil _ _ _ _ _ | exact Kd.V_nil _ _ _ _ _ | exact Kd.Q_nil _ _ _ _ _ | exact Kd.S_nil _ _ _ _ _⟩,⟨au0⟩⟩
    case round =>
     clear H'
     try clear c1
     try clear c2
     try clear c2b0
     try clear p2
     try clear p3
     try clear c4
     try clear c4b0
     try clear c5
     try clear c5b0
     try clear p6
     try clear q6
     try clear hx6
     try clear c7
     try clear c8
     try clear c8b0
     try clear c9
     try clear c10
     try clear p2
     try clear p6
     try clear q6
     obtain ⟨x8_2,x9_2,rfl,HA,HK2,HO_3,HO_8,HB⟩ := hrel
     cases gk with
     | zero => exact absurd HA.out (by simp [bodkinref02_Table.l1])
     | succ k2 =>
      have H := HA.out
      clear HA
      simp only [bodkinref02_Table.l1] at H
      by_cases c12 : (wrap64 (x9_2 + 1)) < (x3_1.length : Int)
      ·rw [if_pos c12] at H
       have c12b0 : decide ((wrap64 (x9_2 + 1)) < (x3_1.length : Int)) = true := decide_eq_true c12
       clear c12
       by_cases c13 : 0 ≤ x9_2
       ·rw [if_pos c13] at H
        have c13b0 : decide (0 ≤ x9_2) = true := decide_eq_true c13
        clear c13
        by_cases c14 : x9_2 < (x3_1.length : Int)
        ·rw [if_pos c14] at H
         have c14b0 : decide (x9_2 < (x3_1.length : Int)) = true := decide_eq_true c14
         clear c14
         obtain ⟨ji15,hji15⟩ : ∃ j_ : Int,(wrap64 (x9_2 + 1)) = j_ := ⟨_,rfl⟩
         replace H : (if 0 ≤ (ji15) then (if x8_2.length < 17592186044416 then (bodkinref02_Table.l1 k2 x3_1 (x8_2 ++ [(⟨rd x3_1 x9_2,rd x3_1 (ji15)⟩ : S116)]) (wrap64 (x9_2 + 2))) else (none)) else (none)) = some r := by first | (rw [hji15] at H;exact H) | (simp only [hji15] at H ⊢;exact H)
         (try rw [hji15] at c12b0)
         have hji15w : (IntKind.i64.wrap (x9_2 + 1)) = ji15 := (i64_w _).trans hji15
         by_cases c16 : 0 ≤ (ji15)
         ·rw [if_pos c16] at H
          have c16b0 : decide (0 ≤ (ji15)) = true := decide_eq_true c16
          clear c16
          by_cases c17 : x8_2.length < 17592186044416
          ·rw [if_pos c17] at H
           have LMc17 := Aside0.mk c17
           clear c17
           obtain ⟨y460,hy460⟩ : ∃ y_ : List (S116),y_ = (x8_2 ++ [(⟨rd x3_1 x9_2,rd x3_1 (ji15)⟩ : S116)]) := ⟨_,rfl⟩
           replace H : (bodkinref02_Table.l1 k2 x3_1 y460 (wrap64 (x9_2 + 2))) = some r := by first | (rw [hy460];with_reducible exact H) | (have H2_ := (Option.bind_some _ _).symm.trans H;rw [hy460];with_reducible exact H2_) | (have H2_ := (Option.bind_some _ _).symm.trans H;with_reducible exact H2_) | with_reducible exact H | (rw [hy460];exact H) | exact H
           have Ny460 := Aside0.mk hy460
           clear hy460
           have H' := Aside0.mk H
           clear H
           obtain ⟨Ao18,co18,eo18⟩ := Kd.R_slice HO_3.out
           subst eo18
           try go_wp2
           have n0_ := Aside0.mk (Kd.R_drew HO_3.out)
           have n1_ := Aside0.mk (Kd.R_drew HO_8.out)
           have n2_ := Aside0.mk (below_drew1 HB.out)
           clear HO_3
           clear HO_8
           clear HB
           have HO_3 := n0_
           have HO_8 := n1_
           have HB := n2_
           clear n0_ n1_ n2_
           have p458 : 0 ≤ (x9_2 : Int) := of_decide_eq_true au3
           have q458 : x9_2 < (x3_1.length : Int) := of_decide_eq_true au3
           obtain ⟨ad458,e458,hx458_0⟩ := Kd.at_int (Kd.R_reads' HO_3.out).2.2 x9_2 p458 q458
           cases e458
           replace p458 := eq_true p458
           replace q458 := eq_true q458
           have p459 : 0 ≤ ((ji15) : Int) := of_decide_eq_true au3
           have q459 : (ji15) < (x3_1.length : Int) := of_decide_eq_true au3
           obtain ⟨ad459,e459,hx459_0⟩ := Kd.at_int (Kd.R_reads' HO_3.out).2.2 (ji15) p459 q459
           obtain rfl : ad458 = ad459 := (by injection e459)
           replace p459 := eq_true p459
           replace q459 := eq_true q459
           refine start_ (n := 14) (S := fun w' => w'.cell? (ad458.add (x9_2).toNat) = some (.int .i32 (rd x3_1 x9_2)) ∧ w'.cell? (ad458.add ((ji15)).toNat) = some (.int .i32 (rd x3_1 (ji15)))) (ds := [11,12]) #[false,false,false,false,false,false,false,false,false,false,false,false,false,false] (by kernel_rfl) rfl rfl ⟨hx458_0,hx459_0⟩ (fun hHeld => ?_);refine with_tabW bodkinref02_Table.tab21 bodkinref02_Table.bits21 (fun HT_ HW_ => ?_)
           generalize wr.drew = w19 at HO_3 HO_8 HB hx458_0 hx459_0 hHeld ⊢
           refine pure_ (i := 0) (N := some 42) (v := ?_) (a' := ?_) #[true,false,false,false,false,false,false,false,false,false,false,false,false,false] rfl rfl (any_of HT_.out (by kernel_rfl)) (fun _ _ _ h => h) (Or.inl ⟨by rfl,?_⟩) ?_ ?_
           rotate_left
           ·intro w'
            go_simp
            with_reducible rfl
           rotate_left
           ·simp only [Act.put,List.setIfInBounds_toArray,List.set_cons_zero,List.set_cons_succ,i64_w,i32_w]
            rfl
           refine pure_ (i := 1) (N := some 43) (v := ?_) (a' := ?_) #[true,true,false,false,false,false,false,false,false,false,false,false,false,false] rfl rfl (any_of HT_.out (by kernel_rfl)) (fun _ _ _ h => h) (Or.inl ⟨by rfl,?_⟩) ?_ ?_
           rotate_left
           ·intro w'
            go_simp
            with_reducible rfl
           rotate_left
           ·simp only [Act.put,List.setIfInBounds_toArray,List.set_cons_zero,List.set_cons_succ,i64_w,i32_w]
            rfl
           refine pure_ (i := 2) (N := some 44) (v := ?_) (a' := ?_) #[true,true,true,false,false,false,false,false,false,false,false,false,false,false] rfl rfl (any_of HT_.out (by kernel_rfl)) (fun _ _ _ h => h) (Or.inl ⟨by rfl,?_⟩) ?_ ?_
           rotate_left
           ·intro w'
            go_simp
            with_reducible rfl
           rotate_left
           ·simp only [Act.put,List.setIfInBounds_toArray,List.set_cons_zero,List.set_cons_succ,i64_w,i32_w]
            rfl
           refine pure_ (i := 3) (N := some 45) (v := ?_) (a' := ?_) #[true,true,true,true,false,false,false,false,false,false,false,false,false,false] rfl rfl (any_of HT_.out (by kernel_rfl)) (fun _ _ _ h => h) (Or.inl ⟨by rfl,?_⟩) ?_ ?_
           rotate_left
           ·intro w'
            go_simp
            with_reducible rfl
           rotate_left
           ·simp only [Act.put,List.setIfInBounds_toArray,List.set_cons_zero,List.set_cons_succ,i64_w,i32_w]
            rfl
           refine pure_ (i := 5) (N := some 47) (v := ?_) (a' := ?_) #[true,true,true,true,false,true,false,false,false,false,false,false,false,false] rfl rfl (any_of HT_.out (by kernel_rfl)) (fun _ _ _ h => h) (Or.inl ⟨by rfl,?_⟩) ?_ ?_
           rotate_left
           ·intro w'
            go_simp
            with_reducible rfl
           rotate_left
           ·simp only [Act.put,List.setIfInBounds_toArray,List.set_cons_zero,List.set_cons_succ,i64_w,i32_w]
            rfl
           refine pure_ (i := 6) (N := some 48) (v := ?_) (a' := ?_) #[true,true,true,true,false,true,true,false,false,false,false,false,false,false] rfl rfl (any_of HT_.out (by kernel_rfl)) (fun _ _ _ h => h) (Or.inl ⟨by rfl,?_⟩) ?_ ?_
           rotate_left
           ·intro w'
            go_simp
            with_reducible rfl
           rotate_left
           ·simp only [Act.put,List.setIfInBounds_toArray,List.set_cons_zero,List.set_cons_succ,i64_w,i32_w]
            rfl
           refine pure_ (i := 7) (N := some 49) (v := ?_) (a' := ?_) #[true,true,true,true,false,true,true,true,false,false,false,false,false,false] rfl rfl (any_of HT_.out (by kernel_rfl)) (fun _ _ _ h => h) (Or.inl ⟨by rfl,?_⟩) ?_ ?_
           rotate_left
           ·intro w'
            go_simp
            with_reducible rfl
           rotate_left
           ·simp only [Act.put,List.setIfInBounds_toArray,List.set_cons_zero,List.set_cons_succ,i64_w,i32_w]
            rfl
           refine pure_ (i := 8) (N := some 50) (v := ?_) (a' := ?_) #[true,true,true,true,false,true,true,true,true,false,false,false,false,false] rfl rfl (any_of HT_.out (by kernel_rfl)) (fun _ _ _ h => h) (Or.inl ⟨by rfl,?_⟩) ?_ ?_
           rotate_left
           ·intro w'
            go_simp
            with_reducible rfl
           rotate_left
           ·simp only [Act.put,List.setIfInBounds_toArray,List.set_cons_zero,List.set_cons_succ,i64_w,i32_w]
            rfl
           refine take_ (i := 4) (N := some 46) (v := ?_) (a' := ?_) #[true,true,true,true,true,true,true,true,true,false,false,false,false,false] rfl rfl (take_ofW HT_.out HW_.out (by kernel_rfl)) (fun _ _ _ h => h) (Or.inl ⟨by rfl,?_⟩) hHeld ?_ ?_
           rotate_left
           ·rintro w' ⟨s0,s1⟩
            go_simp
            with_reducible rfl
           rotate_left
           ·simp only [Act.put,List.setIfInBounds_toArray,List.set_cons_zero,List.set_cons_succ,i64_w,i32_w]
            rfl
           refine take_ (i := 9) (N := some 51) (v := ?_) (a' := ?_) #[true,true,true,true,true,true,true,true,true,true,false,false,false,false] rfl rfl (take_ofW HT_.out HW_.out (by kernel_rfl)) (fun _ _ _ h => h) (Or.inl ⟨by rfl,?_⟩) hHeld ?_ ?_
           rotate_left
           ·rintro w' ⟨s0,s1⟩
            go_simp
            with_reducible rfl
           rotate_left
           ·simp only [Act.put,List.setIfInBounds_toArray,List.set_cons_zero,List.set_cons_succ,i64_w,i32_w]
            rfl
           refine pure_ (i := 10) (N := some 52) (v := ?_) (a' := ?_) #[true,true,true,true,true,true,true,true,true,true,true,false,false,false] rfl rfl (any_of HT_.out (by kernel_rfl)) (fun _ _ _ h => h) (Or.inl ⟨by rfl,?_⟩) ?_ ?_
           rotate_left
           ·intro w'
            go_simp
            with_reducible rfl
           rotate_left
           ·simp only [Act.put,List.setIfInBounds_toArray,List.set_cons_zero,List.set_cons_succ,i64_w,i32_w]
            rfl
           refine last_ (i := 11) (N := some 53) #[true,true,true,true,true,true,true,true,true,true,true,true,false,false] rfl rfl (one_of HT_.out (by kernel_rfl)) (by decide) (fun K hK => ?_)
           refine value_ (w1 := ?_) (v := ?_) (by rfl) rfl ?_ ?_
           rotate_left 2
           ·go_simp
            constructor
            ·rfl
            ·rfl
           refine hK.out _ _ ?_
           clear hK K
           refine norm_ (a' := ?_) ?_ ?_
           rotate_left
           ·show Act.put _ (some 53) _ = _
            simp only [Act.put,List.setIfInBounds_toArray,List.set_cons_zero,List.set_cons_succ,i64_w,i32_w]
            rfl
           refine last_ (i := 12) (N := some 54) #[true,true,true,true,true,true,true,true,true,true,true,true,true,false] rfl rfl (one_of HT_.out (by kernel_rfl)) (by decide) (fun K hK => ?_)
           refine Kd.R_append_step k116 (w0 := w) w.heap.size (by rfl) (.tmp 42) (.tmp 53) 106 116 (.agg #[(.int .i32 0),(.int .i32 0)]) 8 rfl Tryd.underlying106 info116 rfl (by decide) (by omega) u8 x8_2 (⟨rd x3_1 x9_2,rd x3_1 (ji15)⟩ : S116) [.int .i32 (rd x3_1 x9_2),.int .i32 (rd x3_1 (ji15))] (fun _ => True) (fun _ => False) rfl rfl ?aP (fun _ hk => hk.elim) ?aF ?aO ?aB ?aS ?aL ?_
           (case aP => exact k116_mkM _ _ _ (⟨rd x3_1 x9_2,rd x3_1 (ji15)⟩ : S116))
           (case aB => exact au0)
           (case aF => exact (fun _ _ => trivial))
           (case aO => exact (by (with_reducible repeat (first | apply Kd.R_alloc | apply Kd.R_drewN | apply Kd.R_drew));exact HO_8.out))
           (case aS => exact (below_size au0))
           (case aL => have := LMc17.out;omega)
           intro v461 w20 ho hb hg hat
           rw [← Ny460.out] at ho
           have n0_ := Aside0.mk (Kd.R_over' au8 (Kd.R_typed (by (with_reducible repeat (first | apply Kd.R_alloc | apply Kd.R_drewN | apply Kd.R_drew));exact HO_8.out)) (by decide) hg)
           have n1_ := Aside0.mk (hb)
           have n2_ := Aside0.mk (ho)
           clear HO_3
           clear HB
           clear HO_8
           have HO_3 := n0_
           have HB := n1_
           have HO462 := n2_
           clear n0_ n1_ n2_
           clear ho hb hg hat
           refine hK.out _ _ ?_
           clear hK K
           refine norm_ (a' := ?_) ?_ ?_
           rotate_left
           ·show Act.put _ (some 54) _ = _
            simp only [Act.put,List.setIfInBounds_toArray,List.set_cons_zero,List.set_cons_succ,i64_w,i32_w]
            rfl
           refine pure_ (i := 13) (N := some 8) (v := ?_) (a' := ?_) #[true,true,true,true,true,true,true,true,true,true,true,true,true,true] rfl rfl (any_of HT_.out (by kernel_rfl)) (fun _ _ _ h => h) (Or.inl ⟨by rfl,?_⟩) ?_ ?_
           rotate_left
           ·intro w'
            go_simp
            with_reducible rfl
           rotate_left
           ·simp only [Act.put,List.setIfInBounds_toArray,List.set_cons_zero,List.set_cons_succ,i64_w,i32_w]
            rfl
           refine done_ (done_of HT_.out (by kernel_rfl)) ?_
           try go_wp2
           go_roundg k2
           case measure => have := HK1.out;have := HK2.out;omega
           case rel => exact ⟨(y460),(wrap64 (x9_2 + 2)),au4,H',⟨by have := HK1.out;have := HK2.out;omega⟩,⟨by (with_reducible repeat (first | apply Kd.R_alloc | apply Kd.R_drewN | apply Kd.R_drew));exact HO_3.out⟩,⟨by (with_reducible repeat (first | apply Kd.R_alloc | apply Kd.R_drewN | apply Kd.R_drew));exact HO462.out⟩,⟨au0⟩⟩
          ·rw [if_neg c17] at H
           exact absurd H (by simp)
         ·rw [if_neg c16] at H
          exact absurd H (by simp)
        ·rw [if_neg c14] at H
         exact absurd H (by simp)
       ·rw [if_neg c13] at H
        exact absurd H (by simp)
      ·rw [if_neg c12] at H
       have c12b0 : decide ((wrap64 (x9_2 + 1)) < (x3_1.length : Int)) = false := decide_eq_false c12
       clear c12
       obtain rfl := Option.some.inj H
       obtain ⟨Ao21,co21,eo21⟩ := Kd.R_slice HO_3.out
       subst eo21
       go_wp2
       go_ret
       exact ⟨_,by first | rfl | (simp [errW_none,errW_some] <;> rfl) | (simp [*,errW_none,errW_some] <;> rfl),by (with_reducible repeat (first | apply Kd.R_alloc | apply Kd.R_drewN | apply Kd.R_drew));exact HO_8.out,au0⟩
mutual
def bodkinref02_Class.j0 : Nat → Int → Bool → Option (Int)
 | 0,_,_ => none
 | k + 1,x0,x3 => if x3 = true then (some 5) else (if x0 = 10 then (some 1) else (if x0 ≤ 31 then (bodkinref02_Class.j1 k x0 true) else (if x0 ≥ 127 then (bodkinref02_Class.j1 k x0 (decide (x0 ≤ 159))) else (bodkinref02_Class.j1 k x0 false))))
def bodkinref02_Class.j1 : Nat → Int → Bool → Option (Int)
 | 0,_,_ => none
 | k + 1,x0,x21 => if x21 = true then (some 2) else (if x0 < 768 then (some 0) else ((bodkinref02_Table.f k (⟨#[51,48,48,32,51,54,70,44,32,52,56,51,32,52,56,57,44,32,53,57,49,32,53,66,68,44,32,53,66,70,32,53,66,70,44,32,53,67,49,32,53,67,50,44,32,54,49,48,32,54,49,65,44,32,54,52,66,32,54,53,70,44,32,54,55,48,32,54,55,48,44,32,54,68,54,32,54,68,67,44,32,57,48,48,32,57,48,50,44,32,57,51,67,32,57,51,67,44,32,57,52,68,32,57,52,68,44,32,69,51,49,32,69,51,49,44,32,69,51,52,32,69,51,65,44,32,69,52,55,32,69,52,69,44,32,49,51,53,68,32,49,51,53,70,44,32,49,65,66,48,32,49,65,70,70,44,32,49,68,67,48,32,49,68,70,70,44,32,50,48,48,67,32,50,48,48,68,44,32,50,48,68,48,32,50,48,70,70,44,32,51,48,50,65,32,51,48,50,70,44,32,51,48,57,57,32,51,48,57,65,44,32,70,69,48,48,32,70,69,48,70,44,32,70,69,50,48,32,70,69,50,70,44,32,49,70,51,70,66,32,49,70,51,70,70,44,32,69,48,49,48,48,32,69,48,49,69,70]⟩ : ByteArray)).bind fun t463 => ((bodkinref02_Within.f k t463 x0).bind fun t466 => (if t466 = true then (some 3) else ((bodkinref02_Table.f k (⟨#[49,49,48,48,32,49,49,53,70,44,32,50,51,49,65,32,50,51,49,66,44,32,50,51,50,57,32,50,51,50,65,44,32,50,51,69,57,32,50,51,69,67,44,32,50,53,70,68,32,50,53,70,69,44,32,50,54,49,52,32,50,54,49,53,44,32,50,54,52,56,32,50,54,53,51,44,32,50,54,65,65,32,50,54,65,66,44,32,50,69,56,48,32,51,48,50,57,44,32,51,48,51,48,32,51,48,51,69,44,32,51,48,52,49,32,51,48,57,56,44,32,51,48,57,66,32,52,68,66,70,44,32,52,69,48,48,32,65,52,67,70,44,32,65,57,54,48,32,65,57,55,70,44,32,65,67,48,48,32,68,55,65,51,44,32,70,57,48,48,32,70,65,70,70,44,32,70,69,51,48,32,70,69,54,70,44,32,70,70,48,49,32,70,70,54,48,44,32,70,70,69,48,32,70,70,69,54,44,32,49,54,70,69,48,32,49,56,65,70,70,44,32,49,66,48,48,48,32,49,66,50,70,70,44,32,49,70,51,48,48,32,49,70,51,70,65,44,32,49,70,52,48,48,32,49,70,54,52,70,44,32,49,70,54,56,48,32,49,70,54,70,70,44,32,49,70,57,48,48,32,49,70,57,70,70,44,32,50,48,48,48,48,32,50,70,70,70,68,44,32,51,48,48,48,48,32,51,70,70,70,68]⟩ : ByteArray)).bind fun t467 => ((bodkinref02_Within.f k t467 x0).bind fun t470 => (if t470 = true then (some 4) else (some 0))))))))
end
def bodkinref02_Class.f (k : Nat) (a0 : Int) : Option (Int) := if a0 < 0 then (bodkinref02_Class.j0 k a0 true) else (if a0 > 1114111 then (bodkinref02_Class.j0 k a0 true) else (if a0 ≥ 55296 then (bodkinref02_Class.j0 k a0 (decide (a0 ≤ 57343))) else (bodkinref02_Class.j0 k a0 false)))
set_option maxHeartbeats 8000000 in
set_option maxRecDepth 100000 in
theorem bodkinref02_Class.calls (k : Nat) (a0 : Int) (r : Int) (w : World) (h : bodkinref02_Class.f k a0 = some r) :
  Calls Tryd.prog 48 #[.int .i32 a0] w fun e w' => e = .returned (.int .i64 r) ∧ Below w.heap.size w w' := by
 have HB := Aside0.mk (Below.refl w.heap.size w)
 have H : (if a0 < 0 then (bodkinref02_Class.j0 k a0 true) else (if a0 > 1114111 then (bodkinref02_Class.j0 k a0 true) else (if a0 ≥ 55296 then (bodkinref02_Class.j0 k a0 (decide (a0 ≤ 57343))) else (bodkinref02_Class.j0 k a0 false)))) = some r := h
 clear h
 have HC2 := Aside0.mk H
 clear H
 go_enter Tryd.func48,Tryd.ntmps48
 go_upto_region 1 with (fail)
 go_cut [3] (fun v3 wc => ∃ (kq : Nat) (x3_1 : Bool),v3 = .bool x3_1 ∧ Aside0 (bodkinref02_Class.j0 kq a0 x3_1 = some r) ∧ Aside0 (kq ≤ k) ∧ Aside0 (Below w.heap.size w wc))
 case first =>
  have H := HC2.out
  clear HC2
  by_cases c3 : a0 < 0
  ·rw [if_pos c3] at H
   have c3b0 : decide (a0 < 0) = true := decide_eq_true c3
   clear c3
   (first | rw [c3b0] | (simp only [i64_w,i32_w];rw [c3b0]) | skip)
   have H' := Aside0.mk H
   clear H
   go_wp2
   go_meet
   case rel => exact ⟨_,(true),au4,H',⟨by first | omega | exact Nat.le_refl _⟩,⟨au0⟩⟩
  ·rw [if_neg c3] at H
   have c3b0 : decide (a0 < 0) = false := decide_eq_false c3
   clear c3
   (first | rw [c3b0] | (simp only [i64_w,i32_w];rw [c3b0]) | skip)
   by_cases c4 : a0 > 1114111
   ·rw [if_pos c4] at H
    have c4b0 : decide (1114111 < a0) = true := decide_eq_true c4
    clear c4
    have H' := Aside0.mk H
    clear H
    go_wp2
    go_meet
    case rel => exact ⟨_,(true),au4,H',⟨by first | omega | exact Nat.le_refl _⟩,⟨au0⟩⟩
   ·rw [if_neg c4] at H
    have c4b0 : decide (1114111 < a0) = false := decide_eq_false c4
    clear c4
    by_cases c5 : a0 ≥ 55296
    ·rw [if_pos c5] at H
     have c5b0 : decide (55296 ≤ a0) = true := decide_eq_true c5
     clear c5
     have H' := Aside0.mk H
     clear H
     go_wp2
     go_meet
     case rel => exact ⟨_,(decide (a0 ≤ 57343)),au4,H',⟨by first | omega | exact Nat.le_refl _⟩,⟨au0⟩⟩
    ·rw [if_neg c5] at H
     have c5b0 : decide (55296 ≤ a0) = false := decide_eq_false c5
     clear c5
     have H' := Aside0.mk H
     clear H
     go_wp2
     go_meet
     case rel => exact ⟨_,(false),au4,H',⟨by first | omega | exact Nat.le_refl _⟩,⟨au0⟩⟩
 case rest =>
  clear HC2
  try clear p2
  try clear c3
  try clear c3b0
  try clear c4
  try clear c4b0
  try clear c5
  try clear c5b0
  obtain ⟨kq,x3_1,rfl,HA,HJ1,HB⟩ := hcut
  cases kq with
  | zero => exact absurd HA.out (by simp [bodkinref02_Class.j0])
  | succ kj1 =>
   have H := HA.out
   clear HA
   simp only [bodkinref02_Class.j0] at H
   by_cases c6 : x3_1 = true
   ·subst c6
    have H1 : (some 5) = some r := by rw [if_pos rfl] at H;exact H
    clear H
    have H := H1
    clear H1
    obtain rfl := Option.some.inj H
    go_wp2
    go_ret
    exact ⟨au2,au0⟩
   ·replace c6 := Bool.eq_false_iff.mpr c6
    subst c6
    have H1 : (if a0 = 10 then (some 1) else (if a0 ≤ 31 then (bodkinref02_Class.j1 kj1 a0 true) else (if a0 ≥ 127 then (bodkinref02_Class.j1 kj1 a0 (decide (a0 ≤ 159))) else (bodkinref02_Class.j1 kj1 a0 false)))) = some r := by rw [if_neg (show ¬ (false = true) by decide)] at H;exact H
    clear H
    have H := H1
    clear H1
    by_cases c7 : a0 = 10
    ·rw [if_pos c7] at H
     have c7b0 : (a0 == 10) = true := beq_iff_eq.mpr c7
     have c7b1 : (a0 != 10) = false := bne_eq_false_iff_eq.mpr c7
     clear c7
     obtain rfl := Option.some.inj H
     go_wp2
     go_ret
     exact ⟨au2,au0⟩
    ·rw [if_neg c7] at H
     have c7b0 : (a0 == 10) = false := beq_eq_false_iff_ne.mpr c7
     have c7b1 : (a0 != 10) = true := bne_iff_ne.mpr c7
     have HC8 := Aside0.mk H
     clear H
     go_upto_region 5 with (fail)
     go_cut [21] (fun v21 wc => ∃ (kq : Nat) (x21_7 : Bool),v21 = .bool x21_7 ∧ Aside0 (bodkinref02_Class.j1 kq a0 x21_7 = some r) ∧ Aside0 (kq ≤ kj1) ∧ Aside0 (Below w.heap.size w wc))
     case first =>
      have H := HC8.out
      clear HC8
      by_cases c9 : a0 ≤ 31
      ·rw [if_pos c9] at H
       have c9b0 : decide (a0 ≤ 31) = true := decide_eq_true c9
       clear c9
       (first | rw [c9b0] | (simp only [i64_w,i32_w];rw [c9b0]) | skip)
       have H' := Aside0.mk H
       clear H
       go_wp2
       go_meet
       case rel => exact ⟨_,(true),au4,H',⟨by have := HJ1.out;first | omega | exact Nat.le_refl _⟩,⟨au0⟩⟩
      ·rw [if_neg c9] at H
       have c9b0 : decide (a0 ≤ 31) = false := decide_eq_false c9
       clear c9
       (first | rw [c9b0] | (simp only [i64_w,i32_w];rw [c9b0]) | skip)
       by_cases c10 : a0 ≥ 127
       ·rw [if_pos c10] at H
        have c10b0 : decide (127 ≤ a0) = true := decide_eq_true c10
        clear c10
        have H' := Aside0.mk H
        clear H
        go_wp2
        go_meet
        case rel => exact ⟨_,(decide (a0 ≤ 159)),au4,H',⟨by have := HJ1.out;first | omega | exact Nat.le_refl _⟩,⟨au0⟩⟩
       ·rw [if_neg c10] at H
        have c10b0 : decide (127 ≤ a0) = false := decide_eq_false c10
        clear c10
        have H' := Aside0.mk H
        clear H
        go_wp2
        go_meet
        case rel => exact ⟨_,(false),au4,H',⟨by have := HJ1.out;first | omega | exact Nat.le_refl _⟩,⟨au0⟩⟩
     case rest =>
      clear HC8
      try clear c1
      try clear p2
      try clear c3
      try clear c3b0
      try clear c4
      try clear c4b0
      try clear c5
      try clear c5b0
      try clear c6
      try clear c7
      try clear c7b0
      try clear c7b1
      try clear c9
      try clear c9b0
      try clear c10
      try clear c10b0
      try clear p2
      obtain ⟨kq,x21_7,rfl,HA,HJ7,HB⟩ := hcut
      cases kq with
      | zero => exact absurd HA.out (by simp [bodkinref02_Class.j1])
      | succ kj7 =>
       have H := HA.out
       clear HA
       simp only [bodkinref02_Class.j1] at H
       by_cases c11 : x21_7 = true
       ·subst c11
        have H1 : (some 2) = some r := by rw [if_pos rfl] at H;exact H
        clear H
        have H := H1
        clear H1
        obtain rfl := Option.some.inj H
        go_wp2
        go_ret
        exact ⟨au2,au0⟩
       ·replace c11 := Bool.eq_false_iff.mpr c11
        subst c11
        have H1 : (if a0 < 768 then (some 0) else ((bodkinref02_Table.f kj7 (⟨#[51,48,48,32,51,54,70,44,32,52,56,51,32,52,56,57,44,32,53,57,49,32,53,66,68,44,32,53,66,70,32,53,66,70,44,32,53,67,49,32,53,67,50,44,32,54,49,48,32,54,49,65,44,32,54,52,66,32,54,53,70,44,32,54,55,48,32,54,55,48,44,32,54,68,54,32,54,68,67,44,32,57,48,48,32,57,48,50,44,32,57,51,67,32,57,51,67,44,32,57,52,68,32,57,52,68,44,32,69,51,49,32,69,51,49,44,32,69,51,52,32,69,51,65,44,32,69,52,55,32,69,52,69,44,32,49,51,53,68,32,49,51,53,70,44,32,49,65,66,48,32,49,65,70,70,44,32,49,68,67,48,32,49,68,70,70,44,32,50,48,48,67,32,50,48,48,68,44,32,50,48,68,48,32,50,48,70,70,44,32,51,48,50,65,32,51,48,50,70,44,32,51,48,57,57,32,51,48,57,65,44,32,70,69,48,48,32,70,69,48,70,44,32,70,69,50,48,32,70,69,50,70,44,32,49,70,51,70,66,32,49,70,51,70,70,44,32,69,48,49,48,48,32,69,48,49,69,70]⟩ : ByteArray)).bind fun t463 => ((bodkinref02_Within.f kj7 t463 a0).bind fun t466 => (if t466 = true then (some 3) else ((bodkinref02_Table.f kj7 (⟨#[49,49,48,48,32,49,49,53,70,44,32,50,51,49,65,32,50,51,49,66,44,32,50,51,50,57,32,50,51,50,65,44,32,50,51,69,57,32,50,51,69,67,44,32,50,53,70,68,32,50,53,70,69,44,32,50,54,49,52,32,50,54,49,53,44,32,50,54,52,56,32,50,54,53,51,44,32,50,54,65,65,32,50,54,65,66,44,32,50,69,56,48,32,51,48,50,57,44,32,51,48,51,48,32,51,48,51,69,44,32,51,48,52,49,32,51,48,57,56,44,32,51,48,57,66,32,52,68,66,70,44,32,52,69,48,48,32,65,52,67,70,44,32,65,57,54,48,32,65,57,55,70,44,32,65,67,48,48,32,68,55,65,51,44,32,70,57,48,48,32,70,65,70,70,44,32,70,69,51,48,32,70,69,54,70,44,32,70,70,48,49,32,70,70,54,48,44,32,70,70,69,48,32,70,70,69,54,44,32,49,54,70,69,48,32,49,56,65,70,70,44,32,49,66,48,48,48,32,49,66,50,70,70,44,32,49,70,51,48,48,32,49,70,51,70,65,44,32,49,70,52,48,48,32,49,70,54,52,70,44,32,49,70,54,56,48,32,49,70,54,70,70,44,32,49,70,57,48,48,32,49,70,57,70,70,44,32,50,48,48,48,48,32,50,70,70,70,68,44,32,51,48,48,48,48,32,51,70,70,70,68]⟩ : ByteArray)).bind fun t467 => ((bodkinref02_Within.f kj7 t467 a0).bind fun t470 => (if t470 = true then (some 4) else (some 0)))))))) = some r := by rw [if_neg (show ¬ (false = true) by decide)] at H;exact H
        clear H
        have H := H1
        clear H1
        by_cases c12 : a0 < 768
        ·rw [if_pos c12] at H
         have c12b0 : decide (a0 < 768) = true := decide_eq_true c12
         clear c12
         obtain rfl := Option.some.inj H
         go_wp2
         go_ret
         exact ⟨au2,au0⟩
        ·rw [if_neg c12] at H
         have c12b0 : decide (a0 < 768) = false := decide_eq_false c12
         clear c12
         replace H := Option.bind_eq_some_iff.mp H
         obtain ⟨t463,A130,H⟩ := H
         replace H : ((bodkinref02_Within.f kj7 t463 a0).bind fun t466 => (if t466 = true then (some 3) else ((bodkinref02_Table.f kj7 (⟨#[49,49,48,48,32,49,49,53,70,44,32,50,51,49,65,32,50,51,49,66,44,32,50,51,50,57,32,50,51,50,65,44,32,50,51,69,57,32,50,51,69,67,44,32,50,53,70,68,32,50,53,70,69,44,32,50,54,49,52,32,50,54,49,53,44,32,50,54,52,56,32,50,54,53,51,44,32,50,54,65,65,32,50,54,65,66,44,32,50,69,56,48,32,51,48,50,57,44,32,51,48,51,48,32,51,48,51,69,44,32,51,48,52,49,32,51,48,57,56,44,32,51,48,57,66,32,52,68,66,70,44,32,52,69,48,48,32,65,52,67,70,44,32,65,57,54,48,32,65,57,55,70,44,32,65,67,48,48,32,68,55,65,51,44,32,70,57,48,48,32,70,65,70,70,44,32,70,69,51,48,32,70,69,54,70,44,32,70,70,48,49,32,70,70,54,48,44,32,70,70,69,48,32,70,70,69,54,44,32,49,54,70,69,48,32,49,56,65,70,70,44,32,49,66,48,48,48,32,49,66,50,70,70,44,32,49,70,51,48,48,32,49,70,51,70,65,44,32,49,70,52,48,48,32,49,70,54,52,70,44,32,49,70,54,56,48,32,49,70,54,70,70,44,32,49,70,57,48,48,32,49,70,57,70,70,44,32,50,48,48,48,48,32,50,70,70,70,68,44,32,51,48,48,48,48,32,51,70,70,70,68]⟩ : ByteArray)).bind fun t467 => ((bodkinref02_Within.f kj7 t467 a0).bind fun t470 => (if t470 = true then (some 4) else (some 0)))))) = some r := H
         have A13 := Aside0.mk A130
         clear A130
         replace H := Option.bind_eq_some_iff.mp H
         obtain ⟨t466,A140,H⟩ := H
         replace H : (if t466 = true then (some 3) else ((bodkinref02_Table.f kj7 (⟨#[49,49,48,48,32,49,49,53,70,44,32,50,51,49,65,32,50,51,49,66,44,32,50,51,50,57,32,50,51,50,65,44,32,50,51,69,57,32,50,51,69,67,44,32,50,53,70,68,32,50,53,70,69,44,32,50,54,49,52,32,50,54,49,53,44,32,50,54,52,56,32,50,54,53,51,44,32,50,54,65,65,32,50,54,65,66,44,32,50,69,56,48,32,51,48,50,57,44,32,51,48,51,48,32,51,48,51,69,44,32,51,48,52,49,32,51,48,57,56,44,32,51,48,57,66,32,52,68,66,70,44,32,52,69,48,48,32,65,52,67,70,44,32,65,57,54,48,32,65,57,55,70,44,32,65,67,48,48,32,68,55,65,51,44,32,70,57,48,48,32,70,65,70,70,44,32,70,69,51,48,32,70,69,54,70,44,32,70,70,48,49,32,70,70,54,48,44,32,70,70,69,48,32,70,70,69,54,44,32,49,54,70,69,48,32,49,56,65,70,70,44,32,49,66,48,48,48,32,49,66,50,70,70,44,32,49,70,51,48,48,32,49,70,51,70,65,44,32,49,70,52,48,48,32,49,70,54,52,70,44,32,49,70,54,56,48,32,49,70,54,70,70,44,32,49,70,57,48,48,32,49,70,57,70,70,44,32,50,48,48,48,48,32,50,70,70,70,68,44,32,51,48,48,48,48,32,51,70,70,70,68]⟩ : ByteArray)).bind fun t467 => ((bodkinref02_Within.f kj7 t467 a0).bind fun t470 => (if t470 = true then (some 4) else (some 0))))) = some r := H
         have A14 := Aside0.mk A140
         clear A140
         by_cases c15 : t466 = true
         ·subst c15
          have H1 : (some 3) = some r := by rw [if_pos rfl] at H;exact H
          clear H
          have H := H1
          clear H1
          obtain rfl := Option.some.inj H
          go_wp2_with (first | ((with_reducible refine gate_callee (f := 70) rfl ?_);refine goesL_ (some 36) rfl rfl Tryd.func70 (by kernel_rfl) rfl #[.string (⟨#[51,48,48,32,51,54,70,44,32,52,56,51,32,52,56,57,44,32,53,57,49,32,53,66,68,44,32,53,66,70,32,53,66,70,44,32,53,67,49,32,53,67,50,44,32,54,49,48,32,54,49,65,44,32,54,52,66,32,54,53,70,44,32,54,55,48,32,54,55,48,44,32,54,68,54,32,54,68,67,44,32,57,48,48,32,57,48,50,44,32,57,51,67,32,57,51,67,44,32,57,52,68,32,57,52,68,44,32,69,51,49,32,69,51,49,44,32,69,51,52,32,69,51,65,44,32,69,52,55,32,69,52,69,44,32,49,51,53,68,32,49,51,53,70,44,32,49,65,66,48,32,49,65,70,70,44,32,49,68,67,48,32,49,68,70,70,44,32,50,48,48,67,32,50,48,48,68,44,32,50,48,68,48,32,50,48,70,70,44,32,51,48,50,65,32,51,48,50,70,44,32,51,48,57,57,32,51,48,57,65,44,32,70,69,48,48,32,70,69,48,70,44,32,70,69,50,48,32,70,69,50,70,44,32,49,70,51,70,66,32,49,70,51,70,70,44,32,69,48,49,48,48,32,69,48,49,69,70]⟩ : ByteArray)] rfl au1 ?_;(with_reducible refine (bodkinref02_Table.calls kj7 (⟨#[51,48,48,32,51,54,70,44,32,52,56,51,32,52,56,57,44,32,53,57,49,32,53,66,68,44,32,53,66,70,32,53,66,70,44,32,53,67,49,32,53,67,50,44,32,54,49,48,32,54,49,65,44,32,54,52,66,32,54,53,70,44,32,54,55,48,32,54,55,48,44,32,54,68,54,32,54,68,67,44,32,57,48,48,32,57,48,50,44,32,57,51,67,32,57,51,67,44,32,57,52,68,32,57,52,68,44,32,69,51,49,32,69,51,49,44,32,69,51,52,32,69,51,65,44,32,69,52,55,32,69,52,69,44,32,49,51,53,68,32,49,51,53,70,44,32,49,65,66,48,32,49,65,70,70,44,32,49,68,67,48,32,49,68,70,70,44,32,50,48,48,67,32,50,48,48,68,44,32,50,48,68,48,32,50,48,70,70,44,32,51,48,50,65,32,51,48,50,70,44,32,51,48,57,57,32,51,48,57,65,44,32,70,69,48,48,32,70,69,48,70,44,32,70,69,50,48,32,70,69,50,70,44,32,49,70,51,70,66,32,49,70,51,70,70,44,32,69,48,49,48,48,32,69,48,49,69,70]⟩ : ByteArray) t463 _ A13.out).mono ?_);rintro e w16 ⟨v464,rfl,ho0,hb⟩;refine ⟨_,rfl,?_⟩;have n0_ := Aside0.mk (Kd.R_lower ho0 (below_size au0));have n1_ := Aside0.mk (below_step au0 hb);clear HB;have HO465 := n0_;have HB := n1_;clear n0_ n1_;(try clear hb);(try clear hb2);(try clear hk);(try clear hi);(try clear ho0);obtain ⟨Ao17,co17,eo17⟩ := Kd.R_slice HO465.out;subst eo17) | ((with_reducible refine gate_callee (f := 69) rfl ?_);refine goesL_ (some 38) rfl rfl Tryd.func69 (by kernel_rfl) rfl #[.slice Ao17 t463.length co17,.int .i32 a0] rfl au1 ?_;(with_reducible refine (bodkinref02_Within.calls kj7 _ _ t463 a0 true _ ?side1 ?side2 A14.out).mono ?_);(case side1 => repeat (first | exact (Kd.R_reads' HO465.out).2.2 | (with_reducible refine Kd.C_alloc ?_ _) | (with_reducible refine Kd.C_drewN ?_ _) | (with_reducible refine Kd.C_drew ?_)));(case side2 => exact (Kd.R_reads' HO465.out).2.1);rintro e w' ⟨rfl,⟨nd,rfl⟩⟩;refine ⟨_,rfl,?_⟩))
          go_ret
          exact ⟨au2,au0⟩
         ·replace c15 := Bool.eq_false_iff.mpr c15
          subst c15
          have H1 : ((bodkinref02_Table.f kj7 (⟨#[49,49,48,48,32,49,49,53,70,44,32,50,51,49,65,32,50,51,49,66,44,32,50,51,50,57,32,50,51,50,65,44,32,50,51,69,57,32,50,51,69,67,44,32,50,53,70,68,32,50,53,70,69,44,32,50,54,49,52,32,50,54,49,53,44,32,50,54,52,56,32,50,54,53,51,44,32,50,54,65,65,32,50,54,65,66,44,32,50,69,56,48,32,51,48,50,57,44,32,51,48,51,48,32,51,48,51,69,44,32,51,48,52,49,32,51,48,57,56,44,32,51,48,57,66,32,52,68,66,70,44,32,52,69,48,48,32,65,52,67,70,44,32,65,57,54,48,32,65,57,55,70,44,32,65,67,48,48,32,68,55,65,51,44,32,70,57,48,48,32,70,65,70,70,44,32,70,69,51,48,32,70,69,54,70,44,32,70,70,48,49,32,70,70,54,48,44,32,70,70,69,48,32,70,70,69,54,44,32,49,54,70,69,48,32,49,56,65,70,70,44,32,49,66,48,48,48,32,49,66,50,70,70,44,32,49,70,51,48,48,32,49,70,51,70,65,44,32,49,70,52,48,48,32,49,70,54,52,70,44,32,49,70,54,56,48,32,49,70,54,70,70,44,32,49,70,57,48,48,32,49,70,57,70,70,44,32,50,48,48,48,48,32,50,70,70,70,68,44,32,51,48,48,48,48,32,51,70,70,70,68]⟩ : ByteArray)).bind fun t467 => ((bodkinref02_Within.f kj7 t467 a0).bind fun t470 => (if t470 = true then (some 4) else (some 0)))) = some r := by rw [if_neg (show ¬ (false = true) by decide)] at H;exact H
          clear H
          have H := H1
          clear H1
          replace H := Option.bind_eq_some_iff.mp H
          obtain ⟨t467,A180,H⟩ := H
          replace H : ((bodkinref02_Within.f kj7 t467 a0).bind fun t470 => (if t470 = true then (some 4) else (some 0))) = some r := H
          have A18 := Aside0.mk A180
          clear A180
          replace H := Option.bind_eq_some_iff.mp H
          obtain ⟨t470,A190,H⟩ := H
          replace H : (if t470 = true then (some 4) else (some 0)) = some r := H
          have A19 := Aside0.mk A190
          clear A190
          by_cases c20 : t470 = true
          ·subst c20
           have H1 : (some 4) = some r := by rw [if_pos rfl] at H;exact H
           clear H
           have H := H1
           clear H1
           obtain rfl := Option.some.inj H
           go_wp2_with (first | ((with_reducible refine gate_callee (f := 70) rfl ?_);refine goesL_ (some 36) rfl rfl Tryd.func70 (by kernel_rfl) rfl #[.string (⟨#[51,48,48,32,51,54,70,44,32,52,56,51,32,52,56,57,44,32,53,57,49,32,53,66,68,44,32,53,66,70,32,53,66,70,44,32,53,67,49,32,53,67,50,44,32,54,49,48,32,54,49,65,44,32,54,52,66,32,54,53,70,44,32,54,55,48,32,54,55,48,44,32,54,68,54,32,54,68,67,44,32,57,48,48,32,57,48,50,44,32,57,51,67,32,57,51,67,44,32,57,52,68,32,57,52,68,44,32,69,51,49,32,69,51,49,44,32,69,51,52,32,69,51,65,44,32,69,52,55,32,69,52,69,44,32,49,51,53,68,32,49,51,53,70,44,32,49,65,66,48,32,49,65,70,70,44,32,49,68,67,48,32,49,68,70,70,44,32,50,48,48,67,32,50,48,48,68,44,32,50,48,68,48,32,50,48,70,70,44,32,51,48,50,65,32,51,48,50,70,44,32,51,48,57,57,32,51,48,57,65,44,32,70,69,48,48,32,70,69,48,70,44,32,70,69,50,48,32,70,69,50,70,44,32,49,70,51,70,66,32,49,70,51,70,70,44,32,69,48,49,48,48,32,69,48,49,69,70]⟩ : ByteArray)] rfl au1 ?_;(with_reducible refine (bodkinref02_Table.calls kj7 (⟨#[51,48,48,32,51,54,70,44,32,52,56,51,32,52,56,57,44,32,53,57,49,32,53,66,68,44,32,53,66,70,32,53,66,70,44,32,53,67,49,32,53,67,50,44,32,54,49,48,32,54,49,65,44,32,54,52,66,32,54,53,70,44,32,54,55,48,32,54,55,48,44,32,54,68,54,32,54,68,67,44,32,57,48,48,32,57,48,50,44,32,57,51,67,32,57,51,67,44,32,57,52,68,32,57,52,68,44,32,69,51,49,32,69,51,49,44,32,69,51,52,32,69,51,65,44,32,69,52,55,32,69,52,69,44,32,49,51,53,68,32,49,51,53,70,44,32,49,65,66,48,32,49,65,70,70,44,32,49,68,67,48,32,49,68,70,70,44,32,50,48,48,67,32,50,48,48,68,44,32,50,48,68,48,32,50,48,70,70,44,32,51,48,50,65,32,51,48,50,70,44,32,51,48,57,57,32,51,48,57,65,44,32,70,69,48,48,32,70,69,48,70,44,32,70,69,50,48,32,70,69,50,70,44,32,49,70,51,70,66,32,49,70,51,70,70,44,32,69,48,49,48,48,32,69,48,49,69,70]⟩ : ByteArray) t463 _ A13.out).mono ?_);rintro e w21 ⟨v464,rfl,ho0,hb⟩;refine ⟨_,rfl,?_⟩;have n0_ := Aside0.mk (Kd.R_lower ho0 (below_size au0));have n1_ := Aside0.mk (below_step au0 hb);clear HB;have HO465 := n0_;have HB := n1_;clear n0_ n1_;(try clear hb);(try clear hb2);(try clear hk);(try clear hi);(try clear ho0);obtain ⟨Ao22,co22,eo22⟩ := Kd.R_slice HO465.out;subst eo22) | ((with_reducible refine gate_callee (f := 69) rfl ?_);refine goesL_ (some 38) rfl rfl Tryd.func69 (by kernel_rfl) rfl #[.slice Ao22 t463.length co22,.int .i32 a0] rfl au1 ?_;(with_reducible refine (bodkinref02_Within.calls kj7 _ _ t463 a0 false _ ?side1 ?side2 A14.out).mono ?_);(case side1 => repeat (first | exact (Kd.R_reads' HO465.out).2.2 | (with_reducible refine Kd.C_alloc ?_ _) | (with_reducible refine Kd.C_drewN ?_ _) | (with_reducible refine Kd.C_drew ?_)));(case side2 => exact (Kd.R_reads' HO465.out).2.1);rintro e w' ⟨rfl,⟨nd,rfl⟩⟩;refine ⟨_,rfl,?_⟩) | ((with_reducible refine gate_callee (f := 70) rfl ?_);refine goesL_ (some 40) rfl rfl Tryd.func70 (by kernel_rfl) rfl #[.string (⟨#[49,49,48,48,32,49,49,53,70,44,32,50,51,49,65,32,50,51,49,66,44,32,50,51,50,57,32,50,51,50,65,44,32,50,51,69,57,32,50,51,69,67,44,32,50,53,70,68,32,50,53,70,69,44,32,50,54,49,52,32,50,54,49,53,44,32,50,54,52,56,32,50,54,53,51,44,32,50,54,65,65,32,50,54,65,66,44,32,50,69,56,48,32,51,48,50,57,44,32,51,48,51,48,32,51,48,51,69,44,32,51,48,52,49,32,51,48,57,56,44,32,51,48,57,66,32,52,68,66,70,44,32,52,69,48,48,32,65,52,67,70,44,32,65,57,54,48,32,65,57,55,70,44,32,65,67,48,48,32,68,55,65,51,44,32,70,57,48,48,32,70,65,70,70,44,32,70,69,51,48,32,70,69,54,70,44,32,70,70,48,49,32,70,70,54,48,44,32,70,70,69,48,32,70,70,69,54,44,32,49,54,70,69,48,32,49,56,65,70,70,44,32,49,66,48,48,48,32,49,66,50,70,70,44,32,49,70,51,48,48,32,49,70,51,70,65,44,32,49,70,52,48,48,32,49,70,54,52,70,44,32,49,70,54,56,48,32,49,70,54,70,70,44,32,49,70,57,48,48,32,49,70,57,70,70,44,32,50,48,48,48,48,32,50,70,70,70,68,44,32,51,48,48,48,48,32,51,70,70,70,68]⟩ : ByteArray)] rfl au1 ?_;(with_reducible refine (bodkinref02_Table.calls kj7 (⟨#[49,49,48,48,32,49,49,53,70,44,32,50,51,49,65,32,50,51,49,66,44,32,50,51,50,57,32,50,51,50,65,44,32,50,51,69,57,32,50,51,69,67,44,32,50,53,70,68,32,50,53,70,69,44,32,50,54,49,52,32,50,54,49,53,44,32,50,54,52,56,32,50,54,53,51,44,32,50,54,65,65,32,50,54,65,66,44,32,50,69,56,48,32,51,48,50,57,44,32,51,48,51,48,32,51,48,51,69,44,32,51,48,52,49,32,51,48,57,56,44,32,51,48,57,66,32,52,68,66,70,44,32,52,69,48,48,32,65,52,67,70,44,32,65,57,54,48,32,65,57,55,70,44,32,65,67,48,48,32,68,55,65,51,44,32,70,57,48,48,32,70,65,70,70,44,32,70,69,51,48,32,70,69,54,70,44,32,70,70,48,49,32,70,70,54,48,44,32,70,70,69,48,32,70,70,69,54,44,32,49,54,70,69,48,32,49,56,65,70,70,44,32,49,66,48,48,48,32,49,66,50,70,70,44,32,49,70,51,48,48,32,49,70,51,70,65,44,32,49,70,52,48,48,32,49,70,54,52,70,44,32,49,70,54,56,48,32,49,70,54,70,70,44,32,49,70,57,48,48,32,49,70,57,70,70,44,32,50,48,48,48,48,32,50,70,70,70,68,44,32,51,48,48,48,48,32,51,70,70,70,68]⟩ : ByteArray) t467 _ A18.out).mono ?_);rintro e w23 ⟨v468,rfl,ho0,hb⟩;refine ⟨_,rfl,?_⟩;have n0_ := Aside0.mk (Kd.R_elder' (by (with_reducible repeat (first | apply Kd.R_alloc | apply Kd.R_drewN | apply Kd.R_drew));exact HO465.out) (Kd.R_base ho0) hb);have n1_ := Aside0.mk (Kd.R_lower (Kd.R_new' ho0 (Kd.R_lt (by (with_reducible repeat (first | apply Kd.R_alloc | apply Kd.R_drewN | apply Kd.R_drew));exact HO465.out))) (below_size au0));have n2_ := Aside0.mk (below_step au0 hb);clear HO465;clear HB;have HO465 := n0_;have HO469 := n1_;have HB := n2_;clear n0_ n1_ n2_;(try clear hb);(try clear hb2);(try clear hk);(try clear hi);(try clear ho0);obtain ⟨Ao24,co24,eo24⟩ := Kd.R_slice HO469.out;subst eo24) | ((with_reducible refine gate_callee (f := 69) rfl ?_);refine goesL_ (some 42) rfl rfl Tryd.func69 (by kernel_rfl) rfl #[.slice Ao24 t467.length co24,.int .i32 a0] rfl au1 ?_;(with_reducible refine (bodkinref02_Within.calls kj7 _ _ t467 a0 true _ ?side1 ?side2 A19.out).mono ?_);(case side1 => repeat (first | exact (Kd.R_reads' HO469.out).2.2 | (with_reducible refine Kd.C_alloc ?_ _) | (with_reducible refine Kd.C_drewN ?_ _) | (with_reducible refine Kd.C_drew ?_)));(case side2 => exact (Kd.R_reads' HO469.out).2.1);rintro e w' ⟨rfl,⟨nd,rfl⟩⟩;refine ⟨_,rfl,?_⟩))
           go_ret
           exact ⟨au2,au0⟩
          ·replace c20 := Bool.eq_false_iff.mpr c20
           subst c20
           have H1 : (some 0) = some r := by rw [if_neg (show ¬ (false = true) by decide)] at H;exact H
           clear H
           have H := H1
           clear H1
           obtain rfl := Option.some.inj H
           go_wp2_with (first | ((with_reducible refine gate_callee (f := 70) rfl ?_);refine goesL_ (some 36) rfl rfl Tryd.func70 (by kernel_rfl) rfl #[.string (⟨#[51,48,48,32,51,54,70,44,32,52,56,51,32,52,56,57,44,32,53,57,49,32,53,66,68,44,32,53,66,70,32,53,66,70,44,32,53,67,49,32,53,67,50,44,32,54,49,48,32,54,49,65,44,32,54,52,66,32,54,53,70,44,32,54,55,48,32,54,55,48,44,32,54,68,54,32,54,68,67,44,32,57,48,48,32,57,48,50,44,32,57,51,67,32,57,51,67,44,32,57,52,68,32,57,52,68,44,32,69,51,49,32,69,51,49,44,32,69,51,52,32,69,51,65,44,32,69,52,55,32,69,52,69,44,32,49,51,53,68,32,49,51,53,70,44,32,49,65,66,48,32,49,65,70,70,44,32,49,68,67,48,32,49,68,70,70,44,32,50,48,48,67,32,50,48,48,68,44,32,50,48,68,48,32,50,48,70,70,44,32,51,48,50,65,32,51,48,50,70,44,32,51,48,57,57,32,51,48,57,65,44,32,70,69,48,48,32,70,69,48,70,44,32,70,69,50,48,32,70,69,50,70,44,32,49,70,51,70,66,32,49,70,51,70,70,44,32,69,48,49,48,48,32,69,48,49,69,70]⟩ : ByteArray)] rfl au1 ?_;(with_reducible refine (bodkinref02_Table.calls kj7 (⟨#[51,48,48,32,51,54,70,44,32,52,56,51,32,52,56,57,44,32,53,57,49,32,53,66,68,44,32,53,66,70,32,53,66,70,44,32,53,67,49,32,53,67,50,44,32,54,49,48,32,54,49,65,44,32,54,52,66,32,54,53,70,44,32,54,55,48,32,54,55,48,44,32,54,68,54,32,54,68,67,44,32,57,48,48,32,57,48,50,44,32,57,51,67,32,57,51,67,44,32,57,52,68,32,57,52,68,44,32,69,51,49,32,69,51,49,44,32,69,51,52,32,69,51,65,44,32,69,52,55,32,69,52,69,44,32,49,51,53,68,32,49,51,53,70,44,32,49,65,66,48,32,49,65,70,70,44,32,49,68,67,48,32,49,68,70,70,44,32,50,48,48,67,32,50,48,48,68,44,32,50,48,68,48,32,50,48,70,70,44,32,51,48,50,65,32,51,48,50,70,44,32,51,48,57,57,32,51,48,57,65,44,32,70,69,48,48,32,70,69,48,70,44,32,70,69,50,48,32,70,69,50,70,44,32,49,70,51,70,66,32,49,70,51,70,70,44,32,69,48,49,48,48,32,69,48,49,69,70]⟩ : ByteArray) t463 _ A13.out).mono ?_);rintro e w25 ⟨v464,rfl,ho0,hb⟩;refine ⟨_,rfl,?_⟩;have n0_ := Aside0.mk (Kd.R_lower ho0 (below_size au0));have n1_ := Aside0.mk (below_step au0 hb);clear HB;have HO465 := n0_;have HB := n1_;clear n0_ n1_;(try clear hb);(try clear hb2);(try clear hk);(try clear hi);(try clear ho0);obtain ⟨Ao26,co26,eo26⟩ := Kd.R_slice HO465.out;subst eo26) | ((with_reducible refine gate_callee (f := 69) rfl ?_);refine goesL_ (some 38) rfl rfl Tryd.func69 (by kernel_rfl) rfl #[.slice Ao26 t463.length co26,.int .i32 a0] rfl au1 ?_;(with_reducible refine (bodkinref02_Within.calls kj7 _ _ t463 a0 false _ ?side1 ?side2 A14.out).mono ?_);(case side1 => repeat (first | exact (Kd.R_reads' HO465.out).2.2 | (with_reducible refine Kd.C_alloc ?_ _) | (with_reducible refine Kd.C_drewN ?_ _) | (with_reducible refine Kd.C_drew ?_)));(case side2 => exact (Kd.R_reads' HO465.out).2.1);rintro e w' ⟨rfl,⟨nd,rfl⟩⟩;refine ⟨_,rfl,?_⟩) | ((with_reducible refine gate_callee (f := 70) rfl ?_);refine goesL_ (some 40) rfl rfl Tryd.func70 (by kernel_rfl) rfl #[.string (⟨#[49,49,48,48,32,49,49,53,70,44,32,50,51,49,65,32,50,51,49,66,44,32,50,51,50,57,32,50,51,50,65,44,32,50,51,69,57,32,50,51,69,67,44,32,50,53,70,68,32,50,53,70,69,44,32,50,54,49,52,32,50,54,49,53,44,32,50,54,52,56,32,50,54,53,51,44,32,50,54,65,65,32,50,54,65,66,44,32,50,69,56,48,32,51,48,50,57,44,32,51,48,51,48,32,51,48,51,69,44,32,51,48,52,49,32,51,48,57,56,44,32,51,48,57,66,32,52,68,66,70,44,32,52,69,48,48,32,65,52,67,70,44,32,65,57,54,48,32,65,57,55,70,44,32,65,67,48,48,32,68,55,65,51,44,32,70,57,48,48,32,70,65,70,70,44,32,70,69,51,48,32,70,69,54,70,44,32,70,70,48,49,32,70,70,54,48,44,32,70,70,69,48,32,70,70,69,54,44,32,49,54,70,69,48,32,49,56,65,70,70,44,32,49,66,48,48,48,32,49,66,50,70,70,44,32,49,70,51,48,48,32,49,70,51,70,65,44,32,49,70,52,48,48,32,49,70,54,52,70,44,32,49,70,54,56,48,32,49,70,54,70,70,44,32,49,70,57,48,48,32,49,70,57,70,70,44,32,50,48,48,48,48,32,50,70,70,70,68,44,32,51,48,48,48,48,32,51,70,70,70,68]⟩ : ByteArray)] rfl au1 ?_;(with_reducible refine (bodkinref02_Table.calls kj7 (⟨#[49,49,48,48,32,49,49,53,70,44,32,50,51,49,65,32,50,51,49,66,44,32,50,51,50,57,32,50,51,50,65,44,32,50,51,69,57,32,50,51,69,67,44,32,50,53,70,68,32,50,53,70,69,44,32,50,54,49,52,32,50,54,49,53,44,32,50,54,52,56,32,50,54,53,51,44,32,50,54,65,65,32,50,54,65,66,44,32,50,69,56,48,32,51,48,50,57,44,32,51,48,51,48,32,51,48,51,69,44,32,51,48,52,49,32,51,48,57,56,44,32,51,48,57,66,32,52,68,66,70,44,32,52,69,48,48,32,65,52,67,70,44,32,65,57,54,48,32,65,57,55,70,44,32,65,67,48,48,32,68,55,65,51,44,32,70,57,48,48,32,70,65,70,70,44,32,70,69,51,48,32,70,69,54,70,44,32,70,70,48,49,32,70,70,54,48,44,32,70,70,69,48,32,70,70,69,54,44,32,49,54,70,69,48,32,49,56,65,70,70,44,32,49,66,48,48,48,32,49,66,50,70,70,44,32,49,70,51,48,48,32,49,70,51,70,65,44,32,49,70,52,48,48,32,49,70,54,52,70,44,32,49,70,54,56,48,32,49,70,54,70,70,44,32,49,70,57,48,48,32,49,70,57,70,70,44,32,50,48,48,48,48,32,50,70,70,70,68,44,32,51,48,48,48,48,32,51,70,70,70,68]⟩ : ByteArray) t467 _ A18.out).mono ?_);rintro e w27 ⟨v468,rfl,ho0,hb⟩;refine ⟨_,rfl,?_⟩;have n0_ := Aside0.mk (Kd.R_elder' (by (with_reducible repeat (first | apply Kd.R_alloc | apply Kd.R_drewN | apply Kd.R_drew));exact HO465.out) (Kd.R_base ho0) hb);have n1_ := Aside0.mk (Kd.R_lower (Kd.R_new' ho0 (Kd.R_lt (by (with_reducible repeat (first | apply Kd.R_alloc | apply Kd.R_drewN | apply Kd.R_drew));exact HO465.out))) (below_size au0));have n2_ := Aside0.mk (below_step au0 hb);clear HO465;clear HB;have HO465 := n0_;have HO469 := n1_;have HB := n2_;clear n0_ n1_ n2_;(try clear hb);(try clear hb2);(try clear hk);(try clear hi);(try clear ho0);obtain ⟨Ao28,co28,eo28⟩ := Kd.R_slice HO469.out;subst eo28) | ((with_reducible refine gate_callee (f := 69) rfl ?_);refine goesL_ (some 42) rfl rfl Tryd.func69 (by kernel_rfl) rfl #[.slice Ao28 t467.length co28,.int .i32 a0] rfl au1 ?_;(with_reducible refine (bodkinref02_Within.calls kj7 _ _ t467 a0 false _ ?side1 ?side2 A19.out).mono ?_);(case side1 => repeat (first | exact (Kd.R_reads' HO469.out).2.2 | (with_reducible refine Kd.C_alloc ?_ _) | (with_reducible refine Kd.C_drewN ?_ _) | (with_reducible refine Kd.C_drew ?_)));(case side2 => exact (Kd.R_reads' HO469.out).2.1);rintro e w' ⟨rfl,⟨nd,rfl⟩⟩;refine ⟨_,rfl,?_⟩))
           go_ret
           exact ⟨au2,au0⟩
end Go.Proofs.YtnpjaaldppemlaaDoor.U
end
section
namespace Go.Proofs.YtnpjaaldppemlaaDoor.Pu
open Go Go.RowKit Go.Proofs.YtnpjaaldppemlaaDoor.Mu Go.Proofs.YtnpjaaldppemlaaDoor.U Go.Proofs.YtnpjaaldppemlaaDoorW.PrintWords Go.Proofs.YtnpjaaldppemlaaDoorW.PrintLast Go.Proofs.YtnpjaaldppemlaaDoorW.PrintMore
theorem w64 {x : Int} (h : -9223372036854775808 ≤ x) (h2 : x < 9223372036854775808) : wrap64 x = x := by unfold wrap64;omega
theorem w32 {x : Int} (h : -2147483648 ≤ x) (h2 : x < 2147483648) : wrap32 x = x := by unfold wrap32;omega
theorem rd_at (xs : List Int) (j : Nat) (h : j < xs.length) : rd xs j ∈ xs := by
 unfold rd
 rw [Int.toNat_natCast,List.getD_eq_getElem?_getD,List.getElem?_eq_getElem h]
 exact List.getElem_mem h
theorem ev_pos {α : Type} {c : Prop} [Decidable c] {a b : Nat → Option α} {v : α} (hc : c) (h : Ev a v) : Ev (fun k => if c then a k else b k) v := Ev.congr (fun _ => if_pos hc) h
theorem ev_neg {α : Type} {c : Prop} [Decidable c] {a b : Nat → Option α} {v : α} (hc : ¬ c) (h : Ev b v) : Ev (fun k => if c then a k else b k) v := Ev.congr (fun _ => if_neg hc) h
theorem ev_some {α β : Type} {o : Option α} {f : Nat → α → Option β} {a : α} {v : β} (ho : o = some a) (h : Ev (fun n => f n a) v) : Ev (fun k => o.bind (f k)) v := Ev.congr (fun k => by rw [ho];rfl) h
theorem ev_now {α : Type} {v v' : α} (h : v = v') : Ev (fun _ => some v) v' := ⟨0,fun _ _ => by rw [h]⟩
theorem around_go (s : ByteArray) (hs : s.size ≤ 1099511627776) (i : Nat) (hi : i ≤ s.size) (hb : Bd s i) : ∀ n x : Nat,x + n = i → Ev (fun k => unit_around.l0 k s i x) ((i : Int),((if i = s.size then i else i + uN s i : Nat) : Int)) := by
 intro n
 induction n with
 | zero =>
  intro x hx
  obtain rfl : x = i := by omega
  refine Ev.step (fun k => unit_around.l0.eq_2 ..) (ev_neg (by omega) ?_)
  by_cases h : x = s.size
  ·rw [if_pos h];exact ev_pos (by omega) (Ev.now _)
  ·have := uN_le4 s x
   refine ev_neg (by omega) (ev_pos (by omega) (ev_pos (by omega) (ev_some (first_at s x (by omega)) (ev_now ?_))))
   show ((x : Int),wrap64 ((x : Int) + (uN s x : Int))) = _
   rw [w64 (by omega) (by omega),if_neg h,Int.natCast_add]
 | succ n ih =>
  intro x hx
  have h2 := hb.2 x (by omega)
  refine Ev.step (fun k => unit_around.l0.eq_2 ..) (ev_pos (by omega) (ev_pos (by omega) (ev_pos (by omega) (ev_some (first_at s x (by omega)) (ev_neg ?_ ?_)))))
  ·show ¬ wrap64 ((x : Int) + (uN s x : Int)) > i
   rw [w64 (by omega) (by omega)];omega
  ·rw [w64 (by omega) (by omega)]
   exact ih (x + 1) (by omega)
theorem around_in (s : ByteArray) (hs : s.size ≤ 1099511627776) (i j : Nat) (hi : i ≤ s.size) (hj : j < i) (h : i < j + uN s j) : ∀ n x : Nat,x + n = j → Ev (fun k => unit_around.l0 k s i x) ((j : Int),((j + uN s j : Nat) : Int)) := by
 intro n
 induction n with
 | zero =>
  intro x hx
  obtain rfl : x = j := by omega
  have := uN_le s x (by omega)
  have e : wrap64 ((x : Int) + (uN s x : Int)) = (x : Int) + (uN s x : Int) := w64 (by omega) (by omega)
  refine Ev.step (fun k => unit_around.l0.eq_2 ..) (ev_pos (by omega) (ev_pos (by omega) (ev_pos (by omega) (ev_some (first_at s x (by omega)) (ev_pos ?_ (ev_now ?_))))))
  ·show wrap64 ((x : Int) + (uN s x : Int)) > i
   rw [e];omega
  ·show ((x : Int),wrap64 ((x : Int) + (uN s x : Int))) = _
   rw [e,Int.natCast_add]
 | succ n ih =>
  intro x hx
  have h2 : x + uN s x ≤ j := by
   by_cases h3 : j < x + uN s x
   ·have := inner_one s x j (by omega) h3;omega
   ·omega
  refine Ev.step (fun k => unit_around.l0.eq_2 ..) (ev_pos (by omega) (ev_pos (by omega) (ev_pos (by omega) (ev_some (first_at s x (by omega)) (ev_neg ?_ ?_)))))
  ·show ¬ wrap64 ((x : Int) + (uN s x : Int)) > i
   rw [w64 (by omega) (by omega)];omega
  ·rw [w64 (by omega) (by omega)]
   exact ih (x + 1) (by omega)
/-- What around answers. -/
theorem around_ans (s : ByteArray) (hs : s.size ≤ 1099511627776) (i : Nat) (hi : i ≤ s.size) : ∃ lo hi : Nat,Ev (fun k => unit_around.f k s i) ((lo : Int),(hi : Int)) ∧ Bd s lo ∧ Bd s hi ∧ lo ≤ i ∧ i ≤ hi ∧ (lo = i ↔ Bd s i) ∧ (i < s.size → i < hi) ∧
  (∀ e,Bd s e → e ≤ i → e ≤ lo) ∧ (∀ e,Bd s e → i < e → hi ≤ e) ∧ (hi = i → i = s.size) := by
 have hm : ∃ x : Nat,mx 0 (wrap64 ((i : Int) - 3)) = x ∧ x = i - 3 := by
  rw [w64 (by omega) (by omega)]
  unfold mx
  split
  ·exact ⟨i - 3,by omega,rfl⟩
  ·exact ⟨0,rfl,by omega⟩
 obtain ⟨x,hx,hx2⟩ := hm
 have hf : ∀ k,unit_around.f k s i = unit_around.l0 k s i x := fun k => by unfold unit_around.f;rw [hx]
 by_cases hb : Bd s i
 ·refine ⟨i,if i = s.size then i else i + uN s i,Ev.congr hf (around_go s hs i hi hb (i - x) x (by omega)),hb,?_,Nat.le_refl _,?_,by simp [hb],?_,fun e _ h => h,?_,?_⟩
  ·split
   ·exact hb
   ·exact bd_next s i hb (by omega)
  ·split <;> omega
  ·intro h;rw [if_neg (by omega)];have := uN_pos s i;omega
  ·intro e he hie
   have h1 := he.1
   rw [if_neg (by omega)]
   exact he.2 i hie
  ·intro h;have := uN_pos s i;split at h <;> omega
 ·obtain ⟨j,hj,hj2,hjb,hj3⟩ := within s i hi hb
  refine ⟨j,j + uN s j,Ev.congr hf (around_in s hs i j hi hj hj2 (j - x) x (by omega)),hjb,bd_next s j hjb (by omega),by omega,by omega,?_,by omega,?_,?_,by omega⟩
  ·exact ⟨fun h => by omega,fun h => absurd h hb⟩
  ·intro e he hei
   rcases Nat.lt_trichotomy e i with h | h | h
   ·by_cases h5 : j < e
    ·exact absurd he (not_bd_inner s j e h5 (by omega))
    ·omega
   ·subst h;exact absurd he hb
   ·omega
  ·intro e he hie
   by_cases h5 : e < j + uN s j
   ·exact absurd he (not_bd_inner s j e (by omega) h5)
   ·omega
def BdI (s : ByteArray) (a : Int) : Prop := 0 ≤ a ∧ Bd s a.toNat
noncomputable def bdB (s : ByteArray) (a : Int) : Bool := @decide (BdI s a) (Classical.propDecidable _)
theorem bdB_iff (s : ByteArray) (a : Int) : bdB s a = true ↔ BdI s a := by unfold bdB;simp
theorem bdI_nat (s : ByteArray) (i : Nat) : BdI s i ↔ Bd s i := by unfold BdI;simp
theorem bdI_le {s : ByteArray} {a : Int} (h : BdI s a) : 0 ≤ a ∧ a ≤ s.size := ⟨h.1,by have := h.2.1;have := h.1;omega⟩
def DownS (s : ByteArray) (a d : Int) : Prop := BdI s d ∧ (d ≤ a ∨ d = 0) ∧ ∀ e,BdI s e → e ≤ a → e ≤ d
def UpS (s : ByteArray) (a d : Int) : Prop := BdI s d ∧ (a ≤ d ∨ d = s.size) ∧ ∀ e,BdI s e → a ≤ e → d ≤ e
def NextS (s : ByteArray) (a d : Int) : Prop := BdI s d ∧ (a < d ∨ d = s.size) ∧ ∀ e,BdI s e → a < e → d ≤ e
def PrevS (s : ByteArray) (a d : Int) : Prop := BdI s d ∧ (d < a ∨ d = 0) ∧ ∀ e,BdI s e → e < a → e ≤ d
theorem DownS.one {s : ByteArray} {a d d' : Int} (h : DownS s a d) (h' : DownS s a d') : d = d' := by
 have := bdI_le h.1;have := bdI_le h'.1
 rcases h.2.1 with h1 | h1 <;> rcases h'.2.1 with h2 | h2
 ·have := h.2.2 d' h'.1 h2;have := h'.2.2 d h.1 h1;omega
 ·have := h'.2.2 d h.1 h1;omega
 ·have := h.2.2 d' h'.1 h2;omega
 ·omega
theorem PrevS.one {s : ByteArray} {a d d' : Int} (h : PrevS s a d) (h' : PrevS s a d') : d = d' := by
 have := bdI_le h.1;have := bdI_le h'.1
 rcases h.2.1 with h1 | h1 <;> rcases h'.2.1 with h2 | h2
 ·have := h.2.2 d' h'.1 h2;have := h'.2.2 d h.1 h1;omega
 ·have := h'.2.2 d h.1 h1;omega
 ·have := h.2.2 d' h'.1 h2;omega
 ·omega
theorem UpS.one {s : ByteArray} {a d d' : Int} (h : UpS s a d) (h' : UpS s a d') : d = d' := by
 have := bdI_le h.1;have := bdI_le h'.1
 rcases h.2.1 with h1 | h1 <;> rcases h'.2.1 with h2 | h2
 ·have := h.2.2 d' h'.1 h2;have := h'.2.2 d h.1 h1;omega
 ·have := h'.2.2 d h.1 h1;omega
 ·have := h.2.2 d' h'.1 h2;omega
 ·omega
theorem NextS.one {s : ByteArray} {a d d' : Int} (h : NextS s a d) (h' : NextS s a d') : d = d' := by
 have := bdI_le h.1;have := bdI_le h'.1
 rcases h.2.1 with h1 | h1 <;> rcases h'.2.1 with h2 | h2
 ·have := h.2.2 d' h'.1 h2;have := h'.2.2 d h.1 h1;omega
 ·have := h'.2.2 d h.1 h1;omega
 ·have := h.2.2 d' h'.1 h2;omega
 ·omega
theorem boundary_ans (s : ByteArray) (hs : s.size ≤ 1099511627776) (a : Int) : Ev (fun k => unit_Boundary.f k s a) (bdB s a) := by
 have hd := bdB_iff s a
 unfold unit_Boundary.f
 by_cases h0 : a < 0
 ·simp only [h0,if_true]
  have : bdB s a = false := by by_cases h : bdB s a = true;(have := bdI_le (hd.1 h);omega);simpa using h
  rw [this];exact Ev.now _
 ·by_cases h1 : a > (s.size : Int)
  ·simp only [h0,h1,if_true,if_false]
   have : bdB s a = false := by by_cases h : bdB s a = true;(have := bdI_le (hd.1 h);omega);simpa using h
   rw [this];exact Ev.now _
  ·simp only [h0,h1,if_false]
   obtain ⟨i,rfl⟩ : ∃ i : Nat,a = i := ⟨a.toNat,by omega⟩
   obtain ⟨lo,hi,hE,_,_,_,_,hiff,_⟩ := around_ans s hs i (by omega)
   refine Ev.bind hE ?_
   have : bdB s i = ((lo : Int) == (i : Int)) := by
    rw [Bool.eq_iff_iff,hd,bdI_nat,← hiff,beq_iff_eq];omega
   rw [this];exact Ev.now _
theorem clamp (s : ByteArray) (a : Int) : ∃ c : Nat,mn (mx a 0) (s.size : Int) = c ∧ c ≤ s.size ∧ ((c : Int) = a ∨ (a < 0 ∧ c = 0) ∨ (a > s.size ∧ c = s.size)) := by
 unfold mn mx
 split <;> split
 ·exact ⟨s.size,by omega,by omega,by omega⟩
 ·exact ⟨0,by omega,by omega,by omega⟩
 ·exact ⟨s.size,by omega,by omega,by omega⟩
 ·exact ⟨a.toNat,by omega,by omega,by omega⟩
theorem down_ans (s : ByteArray) (hs : s.size ≤ 1099511627776) (a : Int) : ∃ d,Ev (fun k => unit_Down.f k s a) d ∧ DownS s a d := by
 obtain ⟨c,hc,hcs,hca⟩ := clamp s a
 obtain ⟨lo,hi,hE,hlo,hhi,h1,h2,h3,h4,h5,h6,h7⟩ := around_ans s hs c hcs
 refine ⟨lo,?_,(bdI_nat _ _).2 hlo,?_,fun e he hea => ?_⟩
 ·unfold unit_Down.f;rw [hc];exact Ev.bind hE (Ev.now _)
 ·omega
 ·have h8 := bdI_le he
  have := h5 e.toNat he.2 (by omega)
  omega
theorem next_ans (s : ByteArray) (hs : s.size ≤ 1099511627776) (a : Int) : ∃ d,Ev (fun k => unit_Next.f k s a) d ∧ NextS s a d := by
 by_cases h0 : a < 0
 ·refine ⟨0,?_,(bdI_nat s 0).2 (bd_zero s),.inl h0,fun e he _ => (bdI_le he).1⟩
  unfold unit_Next.f;simp only [h0,if_true];exact Ev.now _
 ·have hm : ∃ c : Nat,mn a (s.size : Int) = c ∧ c ≤ s.size ∧ ((c : Int) = a ∨ (a > s.size ∧ c = s.size)) := by
   unfold mn
   split
   ·exact ⟨s.size,rfl,by omega,by omega⟩
   ·exact ⟨a.toNat,by omega,by omega,by omega⟩
  obtain ⟨c,hc,hcs,hca⟩ := hm
  obtain ⟨lo,hi,hE,hlo,hhi,h1,h2,h3,h4,h5,h6,h7⟩ := around_ans s hs c hcs
  refine ⟨hi,?_,(bdI_nat _ _).2 hhi,?_,fun e he hea => ?_⟩
  ·unfold unit_Next.f;simp only [h0,if_false,hc];exact Ev.bind hE (Ev.now _)
  ·have := hhi.1;omega
  ·have h8 := bdI_le he
   have := h6 e.toNat he.2 (by omega)
   omega
theorem prev_ans (s : ByteArray) (hs : s.size ≤ 1099511627776) (a : Int) (ha : a ≤ 9223372036854775807) : ∃ d,Ev (fun k => unit_Prev.f k s a) d ∧ PrevS s a d := by
 by_cases h0 : a ≤ 0
 ·refine ⟨0,?_,(bdI_nat s 0).2 (bd_zero s),.inr rfl,fun e he h => by have := bdI_le he;omega⟩
  unfold unit_Prev.f;simp only [h0,if_true];exact Ev.now _
 ·obtain ⟨c,hc,hcs⟩ : ∃ c : Int,mn (wrap64 (a - 1)) (s.size : Int) = c ∧ (c = a - 1 ∨ (a - 1 > s.size ∧ c = s.size)) := by
   rw [w64 (by omega) (by omega)]
   unfold mn
   split
   ·exact ⟨s.size,rfl,by omega⟩
   ·exact ⟨a - 1,by omega,by omega⟩
  obtain ⟨d,hE,h1,h2,h3⟩ := down_ans s hs c
  refine ⟨d,?_,h1,?_,fun e he hea => ?_⟩
  ·unfold unit_Prev.f;simp only [h0,if_false,hc];exact Ev.bind hE (Ev.now _)
  ·omega
  ·have h8 := bdI_le he
   exact h3 e he (by omega)
noncomputable def atA (s : ByteArray) (a : Int) : Int × Int × Bool := if bdB s a = true ∧ a < s.size then (uC s a.toNat,(uN s a.toNat : Int),true) else (0,0,false)
theorem at_ans (s : ByteArray) (hs : s.size ≤ 1099511627776) (a : Int) : Ev (fun k => unit_At.f k s a) (atA s a) := by
 have hd := bdB_iff s a
 unfold unit_At.f atA
 by_cases h0 : a < 0
 ·simp only [h0,if_true]
  rw [if_neg (by rw [hd];intro h;have := bdI_le h.1;omega)];exact Ev.now _
 ·by_cases h1 : a ≥ (s.size : Int)
  ·simp only [h0,h1,if_true,if_false]
   rw [if_neg (by omega)];exact Ev.now _
  ·simp only [h0,h1,if_false]
   refine Ev.bind (boundary_ans s hs a) ?_
   by_cases hb : bdB s a = true
   ·simp only [hb,if_true,show 0 ≤ a by omega,show a ≤ (s.size : Int) by omega,first_at s a.toNat (by omega),Option.bind_some]
    rw [if_pos ⟨trivial,by omega⟩];exact Ev.now _
   ·simp only [hb]
    simpa using Ev.now _
end Go.Proofs.YtnpjaaldppemlaaDoor.Pu
end
section
namespace Go.Proofs.YtnpjaaldppemlaaDoor.Pu
open Go Go.RowKit Go.Proofs.YtnpjaaldppemlaaDoor.U Go.Proofs.YtnpjaaldppemlaaDoorW.PrintWords Go.Proofs.YtnpjaaldppemlaaDoorW.PrintLast Go.Proofs.YtnpjaaldppemlaaDoorW.PrintMore
set_option linter.unusedVariables false
def marksL : List Int := (width_marks.f).getD []
def widesL : List Int := (width_wides.f).getD []
theorem marks_eq : width_marks.f = some marksL := rfl
theorem wides_eq : width_wides.f = some widesL := rfl
theorem marks_ok : okTab marksL = true := by kernel_rfl
theorem wides_ok : okTab widesL = true := by kernel_rfl
theorem within_marks (c : Int) : width_within_rune.f marksL c = some (withinB marksL c) := by
 unfold width_within_rune.f;rw [if_pos ⟨by decide,by decide,marks_ok⟩]
theorem within_wides (c : Int) : width_within_rune.f widesL c = some (withinB widesL c) := by
 unfold width_within_rune.f;rw [if_pos ⟨by decide,by decide,wides_ok⟩]
attribute [local irreducible] marksL widesL
def cls (c : Int) : Int := if c < 0 ∨ c > 1114111 ∨ (55296 ≤ c ∧ c ≤ 57343) then 5 else if c = 10 then 1 else if c < 32 ∨ (127 ≤ c ∧ c ≤ 159) then 2 else if withinB marksL c = true then 3 else if withinB widesL c = true then 4 else 0
theorem ev_val {α : Type} {c : Prop} [Decidable c] {g : Nat → Option α} {v v' : α} (h : c → Ev g v) (h' : ¬ c → Ev g v') : Ev g (if c then v else v') := by
 split
 ·rename_i hc;exact h hc
 ·rename_i hc;exact h' hc
theorem class_j1 (c : Int) (b : Bool) : Ev (fun k => width_Class.j1 k c b) (if b = true then 2 else if withinB marksL c = true then 3 else if withinB widesL c = true then 4 else 0) :=
 Ev.step (fun k => width_Class.j1.eq_2 ..) (ev_val (fun hb => ev_pos hb (Ev.now _)) (fun hb => ev_neg hb (ev_some (a := marksL) marks_eq (ev_some (a := withinB marksL c) (within_marks c) (ev_val (fun h => ev_pos h (Ev.now _)) (fun h => ev_neg h
  (ev_some (a := widesL) wides_eq (ev_some (a := withinB widesL c) (within_wides c) (ev_val (fun h2 => ev_pos h2 (Ev.now _)) (fun h2 => ev_neg h2 (Ev.now _)))))))))))
theorem class_j0 (c : Int) (b : Bool) : Ev (fun k => width_Class.j0 k c b) (if b = true then 5 else if c = 10 then 1 else if c < 32 ∨ (127 ≤ c ∧ c ≤ 159) then 2 else if withinB marksL c = true then 3 else if withinB widesL c = true then 4 else 0) := by
 have hy : ∀ d : Bool,d = true → Ev (fun k => width_Class.j1 k c d) 2 := fun d hd => by have := class_j1 c d;rwa [if_pos hd] at this
 have hn : ∀ d : Bool,¬ d = true → Ev (fun k => width_Class.j1 k c d) (if withinB marksL c = true then 3 else if withinB widesL c = true then 4 else 0) := fun d hd => by have := class_j1 c d;rwa [if_neg hd] at this
 refine Ev.step (fun k => width_Class.j0.eq_2 ..) (ev_val (fun hb => ev_pos hb (Ev.now _)) (fun hb => ev_neg hb (ev_val (fun h => ev_pos h (Ev.now _)) (fun h => ev_neg h (ev_val (fun h2 => ?_) (fun h2 => ?_))))))
 ·by_cases h3 : c < 32
  ·exact ev_pos h3 (hy _ rfl)
  ·exact ev_neg h3 (ev_pos (by omega) (hy _ (by rw [decide_eq_true_eq];omega)))
 ·refine ev_neg (by omega) ?_
  by_cases h3 : c ≥ 127
  ·exact ev_pos h3 (hn _ (by rw [decide_eq_true_eq];omega))
  ·exact ev_neg h3 (hn _ (by simp))
theorem class_ans (c : Int) : Ev (fun k => width_Class.f k c) (cls c) := by
 have hy : ∀ d : Bool,d = true → Ev (fun k => width_Class.j0 k c d) 5 := fun d hd => by have := class_j0 c d;rwa [if_pos hd] at this
 have hn : ∀ d : Bool,¬ d = true → Ev (fun k => width_Class.j0 k c d) (if c = 10 then 1 else if c < 32 ∨ (127 ≤ c ∧ c ≤ 159) then 2 else if withinB marksL c = true then 3 else if withinB widesL c = true then 4 else 0) := fun d hd => by have := class_j0 c d;rwa [if_neg hd] at this
 unfold width_Class.f cls
 refine ev_val (fun h => ?_) (fun h => ?_)
 ·by_cases h1 : c < 0
  ·exact ev_pos h1 (hy _ rfl)
  ·refine ev_neg h1 ?_
   by_cases h2 : c > 1114111
   ·exact ev_pos h2 (hy _ rfl)
   ·exact ev_neg h2 (ev_pos (by omega) (hy _ (by rw [decide_eq_true_eq];omega)))
 ·refine ev_neg (by omega) (ev_neg (by omega) ?_)
  by_cases h3 : c ≥ 55296
  ·exact ev_pos h3 (hn _ (by rw [decide_eq_true_eq];omega))
  ·exact ev_neg h3 (hn _ (by simp))
def pairsL (l : List Int) : List S116 := (List.range (l.length / 2)).map fun (k : Nat) => ⟨rd l (2 * (k : Int)),rd l (2 * (k : Int) + 1)⟩
theorem pairs_any (l : List Int) (c : Int) : withinB l c = (pairsL l).any (fun p => decide (p.f0 ≤ c) && decide (c ≤ p.f1)) := by
 unfold withinB pairsL;rw [List.any_map];rfl
theorem drop_cons' {α : Type} {l t : List α} {b d : α} {i : Nat} (h : l.drop i = b :: t) : i < l.length ∧ l.getD i d = b ∧ l.drop (i + 1) = t := by
 have h1 : i < l.length := by
  rcases Nat.lt_or_ge i l.length with h2 | h2
  ·exact h2
  ·rw [List.drop_eq_nil_of_le h2] at h;cases h
 rw [List.drop_eq_getElem_cons h1] at h
 injection h with h2 h3
 exact ⟨h1,by rw [List.getD_eq_getElem?_getD,List.getElem?_eq_getElem h1];exact h2,h3⟩
theorem ref_within (L : List S116) (hL : L.length ≤ 1000000) (c : Int) : ∀ (l : List S116) (i : Nat),L.drop i = l → Ev (fun k => bodkinref02_Within.l0 k L c i) (l.any (fun p => decide (p.f0 ≤ c) && decide (c ≤ p.f1))) := by
 intro l
 induction l with
 | nil => intro i h;have := List.drop_eq_nil_iff.1 h;exact Ev.step (fun k => bodkinref02_Within.l0.eq_2 ..) (ev_neg (by omega) (ev_now rfl))
 | cons p l ih =>
  intro i h
  obtain ⟨hi,hg,hd⟩ := drop_cons' (d := z116) h
  have hr : rd_T116 L i = p := by unfold rd_T116;rw [Int.toNat_natCast];exact hg
  refine Ev.step (fun k => bodkinref02_Within.l0.eq_2 ..) (ev_pos (by omega) (ev_pos (by omega) ?_))
  rw [hr,w64 (by omega) (by omega),List.any_cons]
  by_cases h1 : p.f0 ≤ c
  ·refine ev_pos h1 ?_
   by_cases h2 : c ≤ p.f1
   ·refine ev_pos h2 (ev_now ?_);rw [decide_eq_true h1,decide_eq_true h2];rfl
   ·refine ev_neg h2 ?_;rw [decide_eq_false h2,Bool.and_false,Bool.false_or];exact ih (i + 1) hd
  ·refine ev_neg h1 ?_;rw [decide_eq_false h1,Bool.false_and,Bool.false_or];exact ih (i + 1) hd
theorem pm_len : (pairsL marksL).length ≤ 1000000 := of_decide_eq_true (by kernel_rfl)
theorem pw_len : (pairsL widesL).length ≤ 1000000 := of_decide_eq_true (by kernel_rfl)
theorem ref_class_j1 (c : Int) (b : Bool) : Ev (fun k => bodkinref02_Class.j1 k c b) (if b = true then 2 else if c < 768 then 0 else if withinB marksL c = true then 3 else if withinB widesL c = true then 4 else 0) := by
 refine Ev.step (fun k => bodkinref02_Class.j1.eq_2 ..) (ev_val (fun hb => ev_pos hb (Ev.now _)) (fun hb => ev_neg hb (ev_val (fun h => ev_pos h (Ev.now _)) (fun h => ev_neg h ?_))))
 rw [pairs_any,pairs_any]
 refine Ev.bind (a := pairsL marksL) (Ev.of (fun k => bodkinref02_Table.mono _ k) (k := 1000) (by kernel_rfl)) (Ev.bind (ref_within _ pm_len c _ 0 rfl) (ev_val (fun h => ev_pos h (Ev.now _)) (fun h => ev_neg h ?_)))
 exact Ev.bind (a := pairsL widesL) (Ev.of (fun k => bodkinref02_Table.mono _ k) (k := 1000) (by kernel_rfl)) (Ev.bind (ref_within _ pw_len c _ 0 rfl) (ev_val (fun h => ev_pos h (Ev.now _)) (fun h => ev_neg h (Ev.now _))))
theorem cls_low (c : Int) (h : c < 768) : withinB marksL c = false ∧ withinB widesL c = false := by
 have hm : ∀ l : List Int,(∀ x ∈ l,768 ≤ x) → l.length % 2 = 0 → withinB l c = false := by
  intro l hl _
  unfold withinB
  rw [List.any_eq_false]
  intro k hk
  have hk := List.mem_range.1 hk
  have := hl _ (rd_at l (2 * k) (by omega))
  have e : ((2 * k : Nat) : Int) = 2 * (k : Int) := by omega
  rw [e] at this
  rw [decide_eq_false (by omega),Bool.false_and]
  simp
 exact ⟨hm marksL (of_decide_eq_true (by kernel_rfl)) (of_decide_eq_true (by kernel_rfl)),hm widesL (of_decide_eq_true (by kernel_rfl)) (of_decide_eq_true (by kernel_rfl))⟩
theorem ref_class_j1' (c : Int) (b : Bool) : Ev (fun k => bodkinref02_Class.j1 k c b) (if b = true then 2 else if withinB marksL c = true then 3 else if withinB widesL c = true then 4 else 0) := by
 have := ref_class_j1 c b
 by_cases hb : b = true
 ·rw [if_pos hb] at this ⊢;exact this
 ·rw [if_neg hb] at this ⊢
  by_cases h : c < 768
  ·rw [if_pos h] at this
   rw [(cls_low c h).1,(cls_low c h).2]
   exact this
  ·rwa [if_neg h] at this
theorem ref_class_j0 (c : Int) (b : Bool) (hc : b = true ∨ 0 ≤ c) : Ev (fun k => bodkinref02_Class.j0 k c b) (if b = true then 5 else if c = 10 then 1 else if c < 32 ∨ (127 ≤ c ∧ c ≤ 159) then 2 else if withinB marksL c = true then 3 else if withinB widesL c = true then 4 else 0) := by
 have hy : ∀ d : Bool,d = true → Ev (fun k => bodkinref02_Class.j1 k c d) 2 := fun d hd => by have := ref_class_j1' c d;rwa [if_pos hd] at this
 have hn : ∀ d : Bool,¬ d = true → Ev (fun k => bodkinref02_Class.j1 k c d) (if withinB marksL c = true then 3 else if withinB widesL c = true then 4 else 0) := fun d hd => by have := ref_class_j1' c d;rwa [if_neg hd] at this
 refine Ev.step (fun k => bodkinref02_Class.j0.eq_2 ..) (ev_val (fun hb => ev_pos hb (Ev.now _)) (fun hb => ev_neg hb (ev_val (fun h => ev_pos h (Ev.now _)) (fun h => ev_neg h (ev_val (fun h2 => ?_) (fun h2 => ?_))))))
 ·by_cases h3 : c ≤ 31
  ·exact ev_pos h3 (hy _ rfl)
  ·exact ev_neg h3 (ev_pos (by omega) (hy _ (by rw [decide_eq_true_eq];omega)))
 ·refine ev_neg (by omega) ?_
  by_cases h3 : c ≥ 127
  ·exact ev_pos h3 (hn _ (by rw [decide_eq_true_eq];omega))
  ·exact ev_neg h3 (hn _ (by simp))
theorem ref_class_ans (c : Int) : Ev (fun k => bodkinref02_Class.f k c) (cls c) := by
 have hy : ∀ d : Bool,d = true → Ev (fun k => bodkinref02_Class.j0 k c d) 5 := fun d hd => by have := ref_class_j0 c d (.inl hd);rwa [if_pos hd] at this
 have hn : 0 ≤ c → ∀ d : Bool,¬ d = true → Ev (fun k => bodkinref02_Class.j0 k c d) (if c = 10 then 1 else if c < 32 ∨ (127 ≤ c ∧ c ≤ 159) then 2 else if withinB marksL c = true then 3 else if withinB widesL c = true then 4 else 0) := fun h d hd => by have := ref_class_j0 c d (.inr h);rwa [if_neg hd] at this
 unfold bodkinref02_Class.f cls
 refine ev_val (fun h => ?_) (fun h => ?_)
 ·by_cases h1 : c < 0
  ·exact ev_pos h1 (hy _ rfl)
  ·refine ev_neg h1 ?_
   by_cases h2 : c > 1114111
   ·exact ev_pos h2 (hy _ rfl)
   ·exact ev_neg h2 (ev_pos (by omega) (hy _ (by rw [decide_eq_true_eq];omega)))
 ·refine ev_neg (by omega) (ev_neg (by omega) ?_)
  by_cases h3 : c ≥ 55296
  ·exact ev_pos h3 (hn (by omega) _ (by rw [decide_eq_true_eq];omega))
  ·exact ev_neg h3 (hn (by omega) _ (by simp))
end Go.Proofs.YtnpjaaldppemlaaDoor.Pu
end
section
namespace Go.Proofs.YtnpjaaldppemlaaDoor.Pu
open Go Go.RowKit Go.Proofs.YtnpjaaldppemlaaDoor.Mu Go.Proofs.YtnpjaaldppemlaaDoor.U Go.Proofs.YtnpjaaldppemlaaDoorW.PrintWords Go.Proofs.YtnpjaaldppemlaaDoorW.PrintLast Go.Proofs.YtnpjaaldppemlaaDoorW.PrintMore
theorem prev_ev {s : ByteArray} (hs : s.size ≤ 1099511627776) {a d : Int} (ha : a ≤ 9223372036854775807) (h : PrevS s a d) : Ev (fun k => unit_Prev.f k s a) d := by
 obtain ⟨d',hE,h'⟩ := prev_ans s hs a ha;exact h.one h' ▸ hE
/-- A boundary lies at or before a unit,or behind it. -/
theorem apart {s : ByteArray} {x : Nat} {e : Int} (he : BdI s e) : e ≤ x ∨ (x : Int) + uN s x ≤ e := by
 have := bdI_le he
 by_cases h : (x : Int) < e
 ·have := he.2.2 x (by omega);omega
 ·omega
theorem prevS_in {s : ByteArray} {x : Nat} (hb : Bd s x) {k : Int} (h : x < k) (h2 : k ≤ x + uN s x) : PrevS s k x :=
 ⟨by rw [bdI_nat];exact hb,.inl h,fun e he hk => by have := apart (x := x) he;omega⟩
end Go.Proofs.YtnpjaaldppemlaaDoor.Pu
end
section
namespace Go.Proofs.YtnpjaaldppemlaaDoor.Pu
open Go Go.RowKit Go.Proofs.YtnpjaaldppemlaaDoor.Mu
theorem uC_extract (s : ByteArray) (i : Nat) (h : i < s.size) : uC (s.extract i s.size) 0 = uC s i := by
 have hsz : (s.extract i s.size).size = s.size - i := size_extract _ _ _ (Nat.le_refl _)
 have hx : ∀ x : ByteArray,x.extract 0 x.size = x := fun x => by simp
 have h1 := decodeGo_extract (s.extract i s.size) 0 (by omega)
 rw [hx] at h1
 have e : Utf8.decode (s.extract i s.size) 0 = Utf8.decode s i := h1.symm.trans (decodeGo_extract s i h)
 unfold uC;rw [e]
theorem uC_of (s : ByteArray) (i c n : Nat) (h : Utf8.decode s i = (c,n)) (hg : c = 65533 → n ≠ 1) : uC s i = c ∧ uN s i = n := by
 unfold uC uN;rw [h]
 exact ⟨if_neg (fun h => hg h.1 h.2),rfl⟩
/-- What a unit can be. -/
theorem uC_cases (s : ByteArray) (i : Nat) :
  (byt s i < 128 ∧ uC s i = byt s i ∧ uN s i = 1) ∨ (128 ≤ byt s i ∧ uC s i = -1 ∧ uN s i = 1) ∨
  (192 ≤ byt s i ∧ byt s i < 224 ∧ 1 < s.size - i ∧ byt s (i + 1) / 64 = 2 ∧ 128 ≤ byt s i % 32 * 64 + byt s (i + 1) % 64 ∧ uC s i = (byt s i % 32 * 64 + byt s (i + 1) % 64 : Nat) ∧ uN s i = 2) ∨
  (224 ≤ byt s i ∧ byt s i < 240 ∧ 2 < s.size - i ∧ byt s (i + 1) / 64 = 2 ∧ byt s (i + 2) / 64 = 2 ∧ 2048 ≤ byt s i % 16 * 4096 + byt s (i + 1) % 64 * 64 + byt s (i + 2) % 64 ∧
   (byt s i % 16 * 4096 + byt s (i + 1) % 64 * 64 + byt s (i + 2) % 64 < 55296 ∨ 57344 ≤ byt s i % 16 * 4096 + byt s (i + 1) % 64 * 64 + byt s (i + 2) % 64) ∧
   uC s i = (byt s i % 16 * 4096 + byt s (i + 1) % 64 * 64 + byt s (i + 2) % 64 : Nat) ∧ uN s i = 3) ∨
  (240 ≤ byt s i ∧ byt s i < 248 ∧ 3 < s.size - i ∧ byt s (i + 1) / 64 = 2 ∧ byt s (i + 2) / 64 = 2 ∧ byt s (i + 3) / 64 = 2 ∧ 65536 ≤ byt s i % 8 * 262144 + byt s (i + 1) % 64 * 4096 + byt s (i + 2) % 64 * 64 + byt s (i + 3) % 64 ∧
   byt s i % 8 * 262144 + byt s (i + 1) % 64 * 4096 + byt s (i + 2) % 64 * 64 + byt s (i + 3) % 64 ≤ 1114111 ∧ uC s i = (byt s i % 8 * 262144 + byt s (i + 1) % 64 * 4096 + byt s (i + 2) % 64 * 64 + byt s (i + 3) % 64 : Nat) ∧ uN s i = 4) := by
 have hd := dec_eq s i
 rcases dec_cases (s.size - i) (byt s i) (byt s (i + 1)) (byt s (i + 2)) (byt s (i + 3)) (byt_lt s i) with h | h | h | h | h
 ·have := uC_of s i _ _ (hd.trans h.2) (by omega)
  exact .inl ⟨h.1,this⟩
 ·refine .inr (.inl ⟨h.1,?_,?_⟩)
  ·unfold uC;rw [hd,h.2];simp
  ·unfold uN;rw [hd,h.2]
 ·obtain ⟨h0,h1,h2,h3,h4,e⟩ := h
  have := uC_of s i _ _ (hd.trans e) (by omega)
  exact .inr (.inr (.inl ⟨h0,h1,h2,h3,h4,this⟩))
 ·obtain ⟨h0,h1,h2,h3,h4,h5,h6,e⟩ := h
  have := uC_of s i _ _ (hd.trans e) (by omega)
  exact .inr (.inr (.inr (.inl ⟨h0,h1,h2,h3,h4,h5,h6,this⟩)))
 ·obtain ⟨h0,h1,h2,h3,h4,h5,h6,h7,e⟩ := h
  have := uC_of s i _ _ (hd.trans e) (by omega)
  exact .inr (.inr (.inr (.inr ⟨h0,h1,h2,h3,h4,h5,h6,h7,this⟩)))
theorem uC_range (s : ByteArray) (i : Nat) : uC s i = -1 ∧ uN s i = 1 ∨ 0 ≤ uC s i ∧ uC s i ≤ 1114111 := by
 have := byt_lt s i
 rcases uC_cases s i with h | h | h | h | h <;> omega
end Go.Proofs.YtnpjaaldppemlaaDoor.Pu
end
section
namespace Go.Proofs.YtnpjaaldppemlaaDoor.Pu
open Go Go.RowKit Go.Proofs.YtnpjaaldppemlaaDoor.Mu Go.Proofs.YtnpjaaldppemlaaDoor.U Go.Proofs.YtnpjaaldppemlaaDoorW.PrintWords Go.Proofs.YtnpjaaldppemlaaDoorW.PrintLast Go.Proofs.YtnpjaaldppemlaaDoorW.PrintMore
theorem walk_fuel (s : ByteArray) : ∀ f g x : Nat,s.size - x ≤ f → s.size - x ≤ g → walkL s f x = walkL s g x
 | 0,0,_,_,_ => rfl
 | 0,g + 1,x,h,_ => by rw [walkL,walkL,if_neg (by omega)]
 | f + 1,0,x,_,h => by rw [walkL,walkL,if_neg (by omega)]
 | f + 1,g + 1,x,h,h' => by
  have := uN_pos s x
  rw [walkL,walkL]
  split
  ·rw [walk_fuel s f g (x + uN s x) (by omega) (by omega)]
  ·rfl
/-- The units from x on. -/
def tl (s : ByteArray) (x : Nat) : List S87 := (walkL s s.size x).map (·.2)
theorem unitsL_tl (s : ByteArray) : unitsL s = tl s 0 := rfl
theorem tl_end (s : ByteArray) (x : Nat) (h : s.size ≤ x) : tl s x = [] := by
 unfold tl;rw [walk_fuel s s.size 0 x (by omega) (by omega)];rfl
theorem tl_go (s : ByteArray) (x : Nat) (h : x < s.size) : tl s x = uAt s x :: tl s (x + uN s x) := by
 have := uN_pos s x
 unfold tl
 obtain ⟨n,hn⟩ : ∃ n,s.size = n + 1 := ⟨s.size - 1,by omega⟩
 rw [walk_fuel s s.size (n + 1) x (by omega) (by omega),walkL,if_pos h,walk_fuel s n s.size (x + uN s x) (by omega) (by omega)]
 rfl
section
variable (a b : ByteArray)
theorem size_two : (a ++ b).size = a.size + b.size := ByteArray.size_append
theorem right_dec (y : Nat) : Utf8.decode (a ++ b) (a.size + y) = Utf8.decode b y := by
 rw [dec_eq,dec_eq,size_two,show a.size + b.size - (a.size + y) = b.size - y by omega,byt_append_right,show a.size + y + 1 = a.size + (y + 1) by omega,show a.size + y + 2 = a.size + (y + 2) by omega,show a.size + y + 3 = a.size + (y + 3) by omega,byt_append_right,byt_append_right,byt_append_right]
theorem right_uN (y : Nat) : uN (a ++ b) (a.size + y) = uN b y := by unfold uN;rw [right_dec]
theorem bad_or (s : ByteArray) (x : Nat) : (2 ≤ uN s x ∧ 0 ≤ uC s x ∧ 192 ≤ byt s x) ∨ (uN s x = 1 ∧ uC s x = byt s x ∧ byt s x < 128) ∨ (uN s x = 1 ∧ uC s x = -1 ∧ 128 ≤ byt s x) := by
 rcases uC_cases s x with h | h | h | h | h <;> omega
theorem left_unit (x : Nat) (hx : x < a.size) (h : x + uN (a ++ b) x ≤ a.size) : uC a x = uC (a ++ b) x ∧ uN a x = uN (a ++ b) x := by
 have hs := size_two a b
 have hb : ∀ i,i < a.size → byt (a ++ b) i = byt a i := fun i hi => byt_append_left a b i hi
 by_cases h2 : 2 ≤ uN (a ++ b) x
 ·have e := dec_prefix (a ++ b) a x x h2 (fun k hk => (hb (x + k) (by omega)).symm) (by omega)
  unfold uC uN;rw [e];exact ⟨rfl,rfl⟩
 ·by_cases h3 : 2 ≤ uN a x
  ·have hle := uN_le a x hx
   have e := dec_prefix a (a ++ b) x x h3 (fun k hk => hb (x + k) (by omega)) (by omega)
   unfold uC uN;rw [e];exact ⟨rfl,rfl⟩
  ·have e0 := hb x hx
   have h4 := bad_or a x
   have h5 := bad_or (a ++ b) x
   rw [e0] at h5
   generalize uN a x = p at *
   generalize uC a x = q at *
   generalize uN (a ++ b) x = p' at *
   generalize uC (a ++ b) x = q' at *
   omega
theorem left_over (x : Nat) (hx : x < a.size) (h : a.size < x + uN (a ++ b) x) : uN a x = 1 := by
 have hs := size_two a b
 rcases bad_or a x with h1 | h1 | h1
 ·exfalso
  have hle := uN_le a x hx
  have e := dec_prefix a (a ++ b) x x h1.1 (fun k hk => byt_append_left a b (x + k) (by omega)) (by omega)
  have : uN (a ++ b) x = uN a x := by unfold uN;rw [e]
  omega
 ·exact h1.1
 ·exact h1.1
end
end Go.Proofs.YtnpjaaldppemlaaDoor.Pu
end
section
namespace Go.Proofs.YtnpjaaldppemlaaDoor.Pu
open Go Go.RowKit Go.Proofs.YtnpjaaldppemlaaDoor.Mu Go.Proofs.YtnpjaaldppemlaaDoor.U Go.Proofs.YtnpjaaldppemlaaDoorW.PrintWords Go.Proofs.YtnpjaaldppemlaaDoorW.PrintLast Go.Proofs.YtnpjaaldppemlaaDoorW.PrintMore
set_option linter.unusedVariables false
def glueB (u v : Int) : Bool := decide (u = 13 ∧ v = 10) || (decide (cls v = 3) && (!decide (cls u = 1) && !decide (cls u = 2)))
theorem cls_nl : cls 10 = 1 := by unfold cls;rw [if_neg (by omega),if_pos rfl]
theorem cls_cr : cls 13 = 2 := by unfold cls;rw [if_neg (by omega),if_neg (by omega),if_pos (by omega)]
theorem glue_iff (u v : Int) : glueB u v = true ↔ (u = 13 ∧ v = 10) ∨ (cls v = 3 ∧ cls u ≠ 1 ∧ cls u ≠ 2) := by
 unfold glueB;simp
theorem glue_nl (u : Int) : glueB u 10 = true ↔ u = 13 := by
 rw [glue_iff,cls_nl];omega
theorem glue_cr (u : Int) : glueB u 13 = false := by
 rw [← Bool.not_eq_true,glue_iff,cls_cr];omega
def CB (s : ByteArray) (x : Nat) : Prop := Bd s x ∧ ∀ y,Bd s y → x = y + uN s y → x < s.size → glueB (uC s y) (uC s x) = false
theorem cb_zero (s : ByteArray) : CB s 0 := ⟨bd_zero s,fun y _ h _ => by have := uN_pos s y;omega⟩
theorem cb_size (s : ByteArray) : CB s s.size := ⟨bd_size s,fun y _ _ h => by omega⟩
theorem bd_prev (s : ByteArray) (x : Nat) (h : Bd s x) (hx : 0 < x) : ∃ y,Bd s y ∧ y + uN s y = x := by
 have h1 := h.1
 by_cases hb : Bd s (x - 1)
 ·refine ⟨x - 1,hb,?_⟩
  have := uN_pos s (x - 1)
  have := h.2 (x - 1) (by omega)
  omega
 ·obtain ⟨j,hj,hj2,hjb,_⟩ := within s (x - 1) (by omega) hb
  refine ⟨j,hjb,?_⟩
  have := h.2 j (by omega)
  omega
theorem bd_prev_one (s : ByteArray) (x y z : Nat) (hy : Bd s y) (hz : Bd s z) (h : y + uN s y = x) (h' : z + uN s z = x) : y = z := by
 have := uN_pos s y;have := uN_pos s z
 rcases Nat.lt_trichotomy y z with h1 | h1 | h1
 ·have := hz.2 y h1;omega
 ·exact h1
 ·have := hy.2 z h1;omega
theorem cb_iff (s : ByteArray) (x y : Nat) (hy : Bd s y) (hx : y + uN s y = x) (h : x < s.size) : CB s x ↔ glueB (uC s y) (uC s x) = false := by
 constructor
 ·intro hc;exact hc.2 y hy hx.symm h
 ·intro hg
  refine ⟨hx ▸ bd_next s y hy (by have := uN_pos s y;omega),fun z hz hzx _ => ?_⟩
  rw [← bd_prev_one s x y z hy hz hx hzx.symm];exact hg
def CBI (s : ByteArray) (a : Int) : Prop := 0 ≤ a ∧ CB s a.toNat
noncomputable def cbB (s : ByteArray) (a : Int) : Bool := @decide (CBI s a) (Classical.propDecidable _)
theorem cbB_iff (s : ByteArray) (a : Int) : cbB s a = true ↔ CBI s a := by unfold cbB;simp
theorem cbI_nat (s : ByteArray) (i : Nat) : CBI s i ↔ CB s i := by unfold CBI;simp
theorem CBI.bd {s : ByteArray} {a : Int} (h : CBI s a) : BdI s a := ⟨h.1,h.2.1⟩
theorem cbI_le {s : ByteArray} {a : Int} (h : CBI s a) : 0 ≤ a ∧ a ≤ s.size := bdI_le h.bd
theorem cbI_zero (s : ByteArray) : CBI s 0 := (cbI_nat s 0).2 (cb_zero s)
theorem cbI_size (s : ByteArray) : CBI s s.size := (cbI_nat s s.size).2 (cb_size s)
def CNextS (s : ByteArray) (a d : Int) : Prop := CBI s d ∧ (a < d ∨ d = s.size) ∧ ∀ e,CBI s e → a < e → d ≤ e
def CPrevS (s : ByteArray) (a d : Int) : Prop := CBI s d ∧ (d < a ∨ d = 0) ∧ ∀ e,CBI s e → e < a → e ≤ d
def CSnapS (s : ByteArray) (a d : Int) : Prop := CBI s d ∧ (a ≤ d ∨ d = s.size) ∧ ∀ e,CBI s e → a ≤ e → d ≤ e
theorem CPrevS.one {s : ByteArray} {a d d' : Int} (h : CPrevS s a d) (h' : CPrevS s a d') : d = d' := by
 have := cbI_le h.1;have := cbI_le h'.1
 rcases h.2.1 with h1 | h1 <;> rcases h'.2.1 with h2 | h2
 ·have := h.2.2 d' h'.1 h2;have := h'.2.2 d h.1 h1;omega
 ·have := h'.2.2 d h.1 h1;omega
 ·have := h.2.2 d' h'.1 h2;omega
 ·omega
theorem CSnapS.one {s : ByteArray} {a d d' : Int} (h : CSnapS s a d) (h' : CSnapS s a d') : d = d' := by
 have := cbI_le h.1;have := cbI_le h'.1
 rcases h.2.1 with h1 | h1 <;> rcases h'.2.1 with h2 | h2
 ·have := h.2.2 d' h'.1 h2;have := h'.2.2 d h.1 h1;omega
 ·have := h'.2.2 d h.1 h1;omega
 ·have := h.2.2 d' h'.1 h2;omega
 ·omega
theorem CNextS.one {s : ByteArray} {a d d' : Int} (h : CNextS s a d) (h' : CNextS s a d') : d = d' := by
 have := cbI_le h.1;have := cbI_le h'.1
 rcases h.2.1 with h1 | h1 <;> rcases h'.2.1 with h2 | h2
 ·have := h.2.2 d' h'.1 h2;have := h'.2.2 d h.1 h1;omega
 ·have := h'.2.2 d h.1 h1;omega
 ·have := h.2.2 d' h'.1 h2;omega
 ·omega
def nxtN (s : ByteArray) : Nat → Nat → Nat
 | 0,x => x
 | k + 1,x => if x + uN s x < s.size ∧ glueB (uC s x) (uC s (x + uN s x)) = true then nxtN s k (x + uN s x) else x + uN s x
theorem nxtN_fuel (s : ByteArray) : ∀ f g x : Nat,x < s.size → s.size - x ≤ f → s.size - x ≤ g → nxtN s f x = nxtN s g x
 | 0,_,_,hx,h,_ => by omega
 | _ + 1,0,_,hx,_,h => by omega
 | f + 1,g + 1,x,hx,h,h' => by
  have := uN_pos s x
  rw [nxtN,nxtN]
  split
  ·rename_i hc
   exact nxtN_fuel s f g _ hc.1 (by omega) (by omega)
  ·rfl
def nxt (s : ByteArray) (x : Nat) : Nat := nxtN s s.size x
theorem nxt_eq (s : ByteArray) (x : Nat) (hx : x < s.size) : nxt s x = if x + uN s x < s.size ∧ glueB (uC s x) (uC s (x + uN s x)) = true then nxt s (x + uN s x) else x + uN s x := by
 have := uN_pos s x
 unfold nxt
 obtain ⟨n,hn⟩ : ∃ n,s.size = n + 1 := ⟨s.size - 1,by omega⟩
 rw [nxtN_fuel s s.size (n + 1) x hx (by omega) (by omega),nxtN]
 split
 ·rename_i hc;exact nxtN_fuel s n s.size _ hc.1 (by omega) (by omega)
 ·rfl
theorem nxt_glue (s : ByteArray) (x : Nat) (hx : x + uN s x < s.size) (h : glueB (uC s x) (uC s (x + uN s x)) = true) : nxt s x = nxt s (x + uN s x) := by
 rw [nxt_eq s x (by omega),if_pos ⟨hx,h⟩]
theorem nxt_cut (s : ByteArray) (x : Nat) (hx : x < s.size) (h : x + uN s x < s.size → glueB (uC s x) (uC s (x + uN s x)) = false) : nxt s x = x + uN s x := by
 rw [nxt_eq s x hx,if_neg]
 rintro ⟨h1,h2⟩
 rw [h h1] at h2;cases h2
/-- The end of a cluster is the next boundary. -/
theorem nxt_spec (s : ByteArray) : ∀ n x : Nat,s.size - x ≤ n → Bd s x → x < s.size → CB s (nxt s x) ∧ x + uN s x ≤ nxt s x ∧ ∀ e,CB s e → x < e → nxt s x ≤ e := by
 intro n
 induction n with
 | zero => intro x h _ hx;omega
 | succ n ih =>
  intro x hn hb hx
  have h1 := uN_pos s x
  have hb' := bd_next s x hb hx
  have hle := hb'.1
  have hno : ∀ e,CB s e → x < e → x + uN s x ≤ e := fun e he hxe => he.1.2 x hxe
  by_cases hc : x + uN s x < s.size ∧ glueB (uC s x) (uC s (x + uN s x)) = true
  ·rw [nxt_glue s x hc.1 hc.2]
   obtain ⟨g1,g2,g3⟩ := ih (x + uN s x) (by omega) hb' hc.1
   refine ⟨g1,by omega,fun e he hxe => ?_⟩
   have h3 := hno e he hxe
   rcases Nat.lt_or_ge (x + uN s x) e with h4 | h4
   ·exact g3 e he h4
   ·obtain rfl : e = x + uN s x := by omega
    rw [(cb_iff s _ x hb rfl hc.1).1 he] at hc
    exact absurd hc.2 (by simp)
  ·have hg : x + uN s x < s.size → glueB (uC s x) (uC s (x + uN s x)) = false := fun h => by
    cases h2 : glueB (uC s x) (uC s (x + uN s x)) with
    | false => rfl
    | true => exact absurd ⟨h,h2⟩ hc
   rw [nxt_cut s x hx hg]
   refine ⟨?_,Nat.le_refl _,hno⟩
   rcases Nat.lt_or_ge (x + uN s x) s.size with h4 | h4
   ·exact (cb_iff s _ x hb rfl h4).2 (hg h4)
   ·rw [show x + uN s x = s.size by omega];exact cb_size s
theorem nxt_cb (s : ByteArray) (x : Nat) (hb : Bd s x) (hx : x < s.size) : CB s (nxt s x) := (nxt_spec s _ x (Nat.le_refl _) hb hx).1
theorem nxt_least (s : ByteArray) (x : Nat) (hb : Bd s x) (hx : x < s.size) (e : Nat) (he : CB s e) (h : x < e) : nxt s x ≤ e := (nxt_spec s _ x (Nat.le_refl _) hb hx).2.2 e he h
theorem nxt_le (s : ByteArray) (x : Nat) (hb : Bd s x) (hx : x < s.size) : nxt s x ≤ s.size := (nxt_cb s x hb hx).1.1
theorem nxtS (s : ByteArray) (x : Nat) (hb : Bd s x) (hx : x < s.size) (a : Int) (h1 : (x : Int) ≤ a) (h2 : a < nxt s x) : CNextS s a (nxt s x) := by
 refine ⟨(cbI_nat _ _).2 (nxt_cb s x hb hx),.inl h2,fun e he hae => ?_⟩
 have := cbI_le he
 have := nxt_least s x hb hx e.toNat he.2 (by omega)
 omega
def celB (c : Int) : Int := if cls c = 1 then 0 else if cls c = 4 ∨ (cls c = 2 ∧ c ≤ 127) then 2 else 1
/-- Is it a carriage return with a newline behind it? -/
def crlf (s : ByteArray) (x : Nat) : Prop := uC s x = 13 ∧ x + uN s x < s.size ∧ uC s (x + uN s x) = 10
instance (s : ByteArray) (x : Nat) : Decidable (crlf s x) := by unfold crlf;exact inferInstance
def clsAt (s : ByteArray) (x : Nat) : Int := if crlf s x then 1 else cls (uC s x)
def celAt (s : ByteArray) (x : Nat) : Int := if crlf s x then 0 else celB (uC s x)
def clAt (s : ByteArray) (x : Nat) : S60 := ⟨(x : Int),(nxt s x : Int),clsAt s x,celAt s x⟩
def cluL (s : ByteArray) : Nat → Nat → List S60
 | 0,_ => []
 | k + 1,x => if x < s.size then clAt s x :: cluL s k (nxt s x) else []
def clusL (s : ByteArray) : List S60 := cluL s s.size 0
theorem nxt_up (s : ByteArray) : ∀ n x : Nat,s.size - x ≤ n → x < s.size → x + 1 ≤ nxt s x := by
 intro n
 induction n with
 | zero => intro x h hx;omega
 | succ n ih =>
  intro x hn hx
  have h1 := uN_pos s x
  rw [nxt_eq s x hx]
  split
  ·rename_i hc;have := ih (x + uN s x) (by omega) hc.1;omega
  ·omega
theorem nxt_pos (s : ByteArray) (x : Nat) (hx : x < s.size) : x + 1 ≤ nxt s x := nxt_up s _ x (Nat.le_refl _) hx
theorem cluL_fuel (s : ByteArray) : ∀ f g x : Nat,s.size - x ≤ f → s.size - x ≤ g → cluL s f x = cluL s g x
 | 0,0,_,_,_ => rfl
 | 0,g + 1,x,h,_ => by rw [cluL,cluL,if_neg (by omega)]
 | f + 1,0,x,_,h => by rw [cluL,cluL,if_neg (by omega)]
 | f + 1,g + 1,x,h,h' => by
  rw [cluL,cluL]
  split
  ·rename_i hx
   have := nxt_pos s x hx
   rw [cluL_fuel s f g (nxt s x) (by omega) (by omega)]
  ·rfl
def ctl (s : ByteArray) (x : Nat) : List S60 := cluL s s.size x
theorem clusL_ctl (s : ByteArray) : clusL s = ctl s 0 := rfl
theorem ctl_end (s : ByteArray) (x : Nat) (h : s.size ≤ x) : ctl s x = [] := by
 unfold ctl;rw [cluL_fuel s s.size 0 x (by omega) (by omega)];rfl
theorem ctl_go (s : ByteArray) (x : Nat) (h : x < s.size) : ctl s x = clAt s x :: ctl s (nxt s x) := by
 have := nxt_pos s x h
 unfold ctl
 obtain ⟨n,hn⟩ : ∃ n,s.size = n + 1 := ⟨s.size - 1,by omega⟩
 rw [cluL_fuel s s.size (n + 1) x (by omega) (by omega),cluL,if_pos h,cluL_fuel s n s.size (nxt s x) (by omega) (by omega)]
theorem cluL_length (s : ByteArray) : ∀ k i,(cluL s k i).length ≤ k
 | 0,_ => by simp [cluL]
 | k + 1,i => by
  unfold cluL
  split
  ·have := cluL_length s k (nxt s i);simp;omega
  ·simp
theorem clusL_length (s : ByteArray) : (clusL s).length ≤ s.size := cluL_length s s.size 0
def passL (s : ByteArray) : Nat → Int → S60 → Nat → List S60
  | 0, _, cur, _ => [cur]
  | k + 1, p, cur, x => if x < s.size then
      (if glueB p (uC s x) = true then passL s k (uC s x) ⟨cur.f0, ((x + uN s x : Nat) : Int), if uC s x = 10 then 1 else cur.f2, if uC s x = 10 then 0 else cur.f3⟩ (x + uN s x)
       else cur :: passL s k (uC s x) ⟨(x : Int), ((x + uN s x : Nat) : Int), cls (uC s x), celB (uC s x)⟩ (x + uN s x))
      else [cur]
theorem pass_eq (s : ByteArray) : ∀ k x (p : Nat) (cur : S60),s.size - x ≤ k → Bd s p → p < s.size → p + uN s p = x → cur.f1 = (x : Int) →
  passL s k (uC s p) cur x = ⟨cur.f0,(nxt s p : Int),if crlf s p then 1 else cur.f2,if crlf s p then 0 else cur.f3⟩ :: ctl s (nxt s p) := by
 intro k
 induction k with
 | zero =>
  intro x p cur hk hb hp hx hc
  have hle := uN_le s p hp
  rw [passL,nxt_cut s p hp (by omega),ctl_end _ _ (by omega),hx]
  have : ¬ crlf s p := fun h => by have := h.2.1;omega
  rw [if_neg this,if_neg this,← hc]
 | succ k ih =>
  intro x p cur hk hb hp hx hc
  have hle := uN_le s p hp
  have h1 := uN_pos s p
  have h2 := uN_pos s x
  have hbx : Bd s x := hx ▸ bd_next s p hb hp
  rw [passL]
  by_cases hlt : x < s.size
  ·rw [if_pos hlt]
   by_cases hg : glueB (uC s p) (uC s x) = true
   ·rw [if_pos hg,ih (x + uN s x) x _ (by omega) hbx hlt rfl rfl]
    have e1 : nxt s p = nxt s x := by rw [nxt_glue s p (by omega) (by rw [hx];exact hg),hx]
    rw [e1]
    have h13 : ¬ crlf s x := fun h => by rw [h.1,glue_cr] at hg;cases hg
    rw [if_neg h13,if_neg h13]
    have hq : crlf s p ↔ uC s x = 10 := by
     unfold crlf
     rw [hx]
     constructor
     ·exact fun h => h.2.2
     ·intro h;rw [h,glue_nl] at hg;exact ⟨hg,hlt,h⟩
    simp only [hq]
   ·rw [if_neg hg,ih (x + uN s x) x _ (by omega) hbx hlt rfl rfl]
    have hg' : glueB (uC s p) (uC s x) = false := by simpa using hg
    have e1 : nxt s p = x := by rw [nxt_cut s p hp (by rw [hx];intro _;exact hg'),hx]
    rw [e1]
    have hq : ¬ crlf s p := fun h => by rw [crlf,hx] at h;rw [h.1,h.2.2,glue_nl] at hg;exact hg rfl
    rw [if_neg hq,if_neg hq,ctl_go s x hlt]
    have ec : cur = ⟨cur.f0,(x : Int),cur.f2,cur.f3⟩ := by rw [← hc]
    exact congr (congrArg List.cons ec) rfl
  ·rw [if_neg hlt]
   rw [nxt_cut s p hp (by omega),ctl_end _ _ (by omega),hx]
   have : ¬ crlf s p := fun h => by have := h.2.1;omega
   rw [if_neg this,if_neg this,← hc]
theorem pass_all (s : ByteArray) (h : 0 < s.size) (k : Nat) (hk : s.size - uN s 0 ≤ k) : passL s k (uC s 0) ⟨0,((uN s 0 : Nat) : Int),cls (uC s 0),celB (uC s 0)⟩ (uN s 0) = clusL s := by
 rw [pass_eq s k (uN s 0) 0 _ hk (bd_zero s) h (by omega) rfl,clusL_ctl,ctl_go s 0 h]
 rfl
end Go.Proofs.YtnpjaaldppemlaaDoor.Pu
end
