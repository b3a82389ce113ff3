/- What the law WordCases reaches of this seat's own texts, merged; what nothing uses is left out. -/
import Derived.Test.YtkficbgnjpekaaaDoorZWordCases0
import Derived.Test.YtkficbgnjpekaaaDoorZWordCases1
import Derived.Test.YtkficbgnjpekaaaDoorZWordCases3
import Derived.Test.YtkficbgnjpekaaaDoorZWordCases4
import Derived.Test.YtkficbgnjpekaaaDoorZWordCases7
section
namespace Go.Proofs.YtkficbgnjpekaaaDoor.U
open Go.RowKit Go.Proofs.YtkficbgnjpekaaaDoorW.PrintWords Go.Proofs.YtkficbgnjpekaaaDoorW.PrintLast Go.Proofs.YtkficbgnjpekaaaDoorW.PrintMore
attribute [local go_sem] max2_int min2_int max_two min_two max_three min_three max_four min_four   -- for this text's walks alone
set_option linter.unusedVariables false
set_option linter.unusedSimpArgs false
mutual
def width_Class.j0 : Nat → Int → Bool → Option (Int)
 | 0,_,_ => none
 | k + 1,x0,x3 => if x3 = true then (some 5) else (if x0 = 10 then (some 1) else (if x0 < 32 then (width_Class.j1 k x0 true) else (if x0 ≥ 127 then (width_Class.j1 k x0 (decide (x0 ≤ 159))) else (width_Class.j1 k x0 false))))
def width_Class.j1 : Nat → Int → Bool → Option (Int)
 | 0,_,_ => none
 | k + 1,x0,x21 => if x21 = true then (some 2) else ((width_marks.f).bind fun t134 => ((width_within_rune.f t134 x0).bind fun t137 => (if t137 = true then (some 3) else ((width_wides.f).bind fun t138 => ((width_within_rune.f t138 x0).bind fun t141 => (if t141 = true then (some 4) else (some 0)))))))
end
def width_Class.f (k : Nat) (a0 : Int) : Option (Int) := if a0 < 0 then (width_Class.j0 k a0 true) else (if a0 > 1114111 then (width_Class.j0 k a0 true) else (if a0 ≥ 55296 then (width_Class.j0 k a0 (decide (a0 ≤ 57343))) else (width_Class.j0 k a0 false)))
theorem width_Class.mono_l : ∀ k,(∀ y0 y1,LeO (width_Class.j0 k y0 y1) (width_Class.j0 (k + 1) y0 y1)) ∧ (∀ y0 y1,LeO (width_Class.j1 k y0 y1) (width_Class.j1 (k + 1) y0 y1))
 | 0 => ⟨fun _ _ r h => by simp [width_Class.j0] at h,fun _ _ r h => by simp [width_Class.j1] at h⟩
 | k + 1 => by
  obtain ⟨ih0,ih1⟩ := width_Class.mono_l k
  refine ⟨?_,?_⟩
  ·intro y0 y1
   unfold width_Class.j0
   repeat' first
   | (with_reducible exact ih0 _ _)
   | (with_reducible exact ih1 _ _)
   | (with_reducible exact LeO.refl _)
   | (with_reducible exact LeO.none _)
   | (with_reducible refine LeO.ite ?_ ?_)
   | (with_reducible refine LeO.bind ?_ (fun _ => ?_))
   | exact ih0 _ _
   | exact ih1 _ _
   | exact LeO.none _
   | refine LeO.ite ?_ ?_
   | refine LeO.bind ?_ (fun _ => ?_)
  ·intro y0 y1
   unfold width_Class.j1
   repeat' first
   | (with_reducible exact ih0 _ _)
   | (with_reducible exact ih1 _ _)
   | (with_reducible exact LeO.refl _)
   | (with_reducible exact LeO.none _)
   | (with_reducible refine LeO.ite ?_ ?_)
   | (with_reducible refine LeO.bind ?_ (fun _ => ?_))
   | exact ih0 _ _
   | exact ih1 _ _
   | exact LeO.none _
   | refine LeO.ite ?_ ?_
   | refine LeO.bind ?_ (fun _ => ?_)
theorem width_Class.mono : ∀ a0 k,LeO (width_Class.f k a0) (width_Class.f (k + 1) a0) := by
 intro a0 k
 obtain ⟨ih0,ih1⟩ := width_Class.mono_l k
 unfold width_Class.f
 repeat' first
   | (with_reducible exact ih0 _ _)
   | (with_reducible exact ih1 _ _)
   | (with_reducible exact LeO.refl _)
   | (with_reducible exact LeO.none _)
   | (with_reducible refine LeO.ite ?_ ?_)
   | (with_reducible refine LeO.bind ?_ (fun _ => ?_))
   | exact ih0 _ _
   | exact ih1 _ _
   | exact LeO.none _
   | refine LeO.ite ?_ ?_
   | refine LeO.bind ?_ (fun _ => ?_)
set_option maxHeartbeats 8000000 in
set_option maxRecDepth 100000 in
theorem width_Class.calls (k : Nat) (a0 : Int) (r : Int) (w : World) (h : width_Class.f k a0 = some r) :
  Calls Tryd.prog 37 #[.int .i32 a0] w fun e w' => e = .returned (.int .i64 r) ∧ Below w.heap.size w w' := by
 have HB := Aside0.mk (Below.refl w.heap.size w)
 have H : (if a0 < 0 then (width_Class.j0 k a0 true) else (if a0 > 1114111 then (width_Class.j0 k a0 true) else (if a0 ≥ 55296 then (width_Class.j0 k a0 (decide (a0 ≤ 57343))) else (width_Class.j0 k a0 false)))) = some r := h
 clear h
 have HC2 := Aside0.mk H
 clear H
 go_enter Tryd.func37,Tryd.ntmps37
 go_upto_region 1 with (fail)
 go_cut [3] (fun v3 wc => ∃ (kq : Nat) (x3_1 : Bool),v3 = .bool x3_1 ∧ Aside0 (width_Class.j0 kq a0 x3_1 = some r) ∧ Aside0 (kq ≤ k) ∧ Aside0 (Below w.heap.size w wc))
 case first =>
  have H := HC2.out
  clear HC2
  by_cases c3 : a0 < 0
  ·rw [if_pos c3] at H
   have c3b0 : decide (a0 < 0) = true := decide_eq_true c3
   clear c3
   (first | rw [c3b0] | (simp only [i64_w,i32_w];rw [c3b0]) | skip)
   have H' := Aside0.mk H
   clear H
   go_wp2
   go_meet
   case rel => exact ⟨_,(true),au3,H',⟨by first | omega | exact Nat.le_refl _⟩,⟨au0⟩⟩
  ·rw [if_neg c3] at H
   have c3b0 : decide (a0 < 0) = false := decide_eq_false c3
   clear c3
   (first | rw [c3b0] | (simp only [i64_w,i32_w];rw [c3b0]) | skip)
   by_cases c4 : a0 > 1114111
   ·rw [if_pos c4] at H
    have c4b0 : decide (1114111 < a0) = true := decide_eq_true c4
    clear c4
    have H' := Aside0.mk H
    clear H
    go_wp2
    go_meet
    case rel => exact ⟨_,(true),au3,H',⟨by first | omega | exact Nat.le_refl _⟩,⟨au0⟩⟩
   ·rw [if_neg c4] at H
    have c4b0 : decide (1114111 < a0) = false := decide_eq_false c4
    clear c4
    by_cases c5 : a0 ≥ 55296
    ·rw [if_pos c5] at H
     have c5b0 : decide (55296 ≤ a0) = true := decide_eq_true c5
     clear c5
     have H' := Aside0.mk H
     clear H
     go_wp2
     go_meet
     case rel => exact ⟨_,(decide (a0 ≤ 57343)),au3,H',⟨by first | omega | exact Nat.le_refl _⟩,⟨au0⟩⟩
    ·rw [if_neg c5] at H
     have c5b0 : decide (55296 ≤ a0) = false := decide_eq_false c5
     clear c5
     have H' := Aside0.mk H
     clear H
     go_wp2
     go_meet
     case rel => exact ⟨_,(false),au3,H',⟨by first | omega | exact Nat.le_refl _⟩,⟨au0⟩⟩
 case rest =>
  clear HC2
  try clear p2
  try clear c3
  try clear c3b0
  try clear c4
  try clear c4b0
  try clear c5
  try clear c5b0
  obtain ⟨kq,x3_1,rfl,HA,HJ1,HB⟩ := hcut
  cases kq with
  | zero => exact absurd HA.out (by simp [width_Class.j0])
  | succ kj1 =>
   have H := HA.out
   clear HA
   simp only [width_Class.j0] at H
   by_cases c6 : x3_1 = true
   ·subst c6
    have H1 : (some 5) = some r := by rw [if_pos rfl] at H;exact H
    clear H
    have H := H1
    clear H1
    obtain rfl := Option.some.inj H
    go_wp2
    go_ret
    exact ⟨au2,au0⟩
   ·replace c6 := Bool.eq_false_iff.mpr c6
    subst c6
    have H1 : (if a0 = 10 then (some 1) else (if a0 < 32 then (width_Class.j1 kj1 a0 true) else (if a0 ≥ 127 then (width_Class.j1 kj1 a0 (decide (a0 ≤ 159))) else (width_Class.j1 kj1 a0 false)))) = some r := by rw [if_neg (show ¬ (false = true) by decide)] at H;exact H
    clear H
    have H := H1
    clear H1
    by_cases c7 : a0 = 10
    ·rw [if_pos c7] at H
     have c7b0 : (a0 == 10) = true := beq_iff_eq.mpr c7
     have c7b1 : (a0 != 10) = false := bne_eq_false_iff_eq.mpr c7
     clear c7
     obtain rfl := Option.some.inj H
     go_wp2
     go_ret
     exact ⟨au2,au0⟩
    ·rw [if_neg c7] at H
     have c7b0 : (a0 == 10) = false := beq_eq_false_iff_ne.mpr c7
     have c7b1 : (a0 != 10) = true := bne_iff_ne.mpr c7
     have HC8 := Aside0.mk H
     clear H
     go_upto_region 5 with (fail)
     go_cut [21] (fun v21 wc => ∃ (kq : Nat) (x21_7 : Bool),v21 = .bool x21_7 ∧ Aside0 (width_Class.j1 kq a0 x21_7 = some r) ∧ Aside0 (kq ≤ kj1) ∧ Aside0 (Below w.heap.size w wc))
     case first =>
      have H := HC8.out
      clear HC8
      by_cases c9 : a0 < 32
      ·rw [if_pos c9] at H
       have c9b0 : decide (a0 < 32) = true := decide_eq_true c9
       clear c9
       (first | rw [c9b0] | (simp only [i64_w,i32_w];rw [c9b0]) | skip)
       have H' := Aside0.mk H
       clear H
       go_wp2
       go_meet
       case rel => exact ⟨_,(true),au3,H',⟨by have := HJ1.out;first | omega | exact Nat.le_refl _⟩,⟨au0⟩⟩
      ·rw [if_neg c9] at H
       have c9b0 : decide (a0 < 32) = false := decide_eq_false c9
       clear c9
       (first | rw [c9b0] | (simp only [i64_w,i32_w];rw [c9b0]) | skip)
       by_cases c10 : a0 ≥ 127
       ·rw [if_pos c10] at H
        have c10b0 : decide (127 ≤ a0) = true := decide_eq_true c10
        clear c10
        have H' := Aside0.mk H
        clear H
        go_wp2
        go_meet
        case rel => exact ⟨_,(decide (a0 ≤ 159)),au3,H',⟨by have := HJ1.out;first | omega | exact Nat.le_refl _⟩,⟨au0⟩⟩
       ·rw [if_neg c10] at H
        have c10b0 : decide (127 ≤ a0) = false := decide_eq_false c10
        clear c10
        have H' := Aside0.mk H
        clear H
        go_wp2
        go_meet
        case rel => exact ⟨_,(false),au3,H',⟨by have := HJ1.out;first | omega | exact Nat.le_refl _⟩,⟨au0⟩⟩
     case rest =>
      clear HC8
      try clear c1
      try clear p2
      try clear c3
      try clear c3b0
      try clear c4
      try clear c4b0
      try clear c5
      try clear c5b0
      try clear c6
      try clear c7
      try clear c7b0
      try clear c7b1
      try clear c9
      try clear c9b0
      try clear c10
      try clear c10b0
      try clear p2
      obtain ⟨kq,x21_7,rfl,HA,HJ7,HB⟩ := hcut
      cases kq with
      | zero => exact absurd HA.out (by simp [width_Class.j1])
      | succ kj7 =>
       have H := HA.out
       clear HA
       simp only [width_Class.j1] at H
       by_cases c11 : x21_7 = true
       ·subst c11
        have H1 : (some 2) = some r := by rw [if_pos rfl] at H;exact H
        clear H
        have H := H1
        clear H1
        obtain rfl := Option.some.inj H
        go_wp2
        go_ret
        exact ⟨au2,au0⟩
       ·replace c11 := Bool.eq_false_iff.mpr c11
        subst c11
        have H1 : ((width_marks.f).bind fun t134 => ((width_within_rune.f t134 a0).bind fun t137 => (if t137 = true then (some 3) else ((width_wides.f).bind fun t138 => ((width_within_rune.f t138 a0).bind fun t141 => (if t141 = true then (some 4) else (some 0))))))) = some r := by rw [if_neg (show ¬ (false = true) by decide)] at H;exact H
        clear H
        have H := H1
        clear H1
        replace H := Option.bind_eq_some_iff.mp H
        obtain ⟨t134,A120,H⟩ := H
        replace H : ((width_within_rune.f t134 a0).bind fun t137 => (if t137 = true then (some 3) else ((width_wides.f).bind fun t138 => ((width_within_rune.f t138 a0).bind fun t141 => (if t141 = true then (some 4) else (some 0)))))) = some r := H
        have A12 := Aside0.mk A120
        clear A120
        replace H := Option.bind_eq_some_iff.mp H
        obtain ⟨t137,A130,H⟩ := H
        replace H : (if t137 = true then (some 3) else ((width_wides.f).bind fun t138 => ((width_within_rune.f t138 a0).bind fun t141 => (if t141 = true then (some 4) else (some 0))))) = some r := H
        have A13 := Aside0.mk A130
        clear A130
        by_cases c14 : t137 = true
        ·subst c14
         have H1 : (some 3) = some r := by rw [if_pos rfl] at H;exact H
         clear H
         have H := H1
         clear H1
         obtain rfl := Option.some.inj H
         go_wp2_with (first | ((with_reducible refine gate_callee (f := 62) rfl ?_);refine goesL_ (some 33) rfl rfl Tryd.func62 (by kernel_rfl) rfl #[] rfl au1 ?_;(with_reducible refine (width_marks.calls  t134 _ A12.out).mono ?_);rintro e w15 ⟨v135,rfl,ho0,hb⟩;refine ⟨_,rfl,?_⟩;have n0_ := Aside0.mk (Kd.R_lower ho0 (below_size au0));have n1_ := Aside0.mk (below_step au0 hb);clear HB;have HO136 := n0_;have HB := n1_;clear n0_ n1_;(try clear hb);(try clear hb2);(try clear hk);(try clear hi);(try clear ho0);obtain ⟨Ao16,co16,eo16⟩ := Kd.R_slice HO136.out;subst eo16) | ((with_reducible refine gate_callee (f := 61) rfl ?_);refine goesL_ (some 35) rfl rfl Tryd.func61 (by kernel_rfl) rfl #[.slice Ao16 t134.length co16,.int .i32 a0] rfl au1 ?_;(with_reducible refine (width_within_rune.calls _ _ t134 a0 true _ ?side1 ?side2 A13.out).mono ?_);(case side1 => repeat (first | exact (Kd.R_reads' HO136.out).2.2 | (with_reducible refine Kd.C_alloc ?_ _) | (with_reducible refine Kd.C_drewN ?_ _) | (with_reducible refine Kd.C_drew ?_)));(case side2 => exact (Kd.R_reads' HO136.out).2.1);rintro e w17 ⟨rfl,hb⟩;refine ⟨_,rfl,?_⟩;have n0_ := Aside0.mk (Kd.R_below au21 hb);have n1_ := Aside0.mk (below_step au0 hb);clear HO136;clear HB;have HO136 := n0_;have HB := n1_;clear n0_ n1_;(try clear hb);(try clear hb2);(try clear hk);(try clear hi)))
         go_ret
         exact ⟨au2,au0⟩
        ·replace c14 := Bool.eq_false_iff.mpr c14
         subst c14
         have H1 : ((width_wides.f).bind fun t138 => ((width_within_rune.f t138 a0).bind fun t141 => (if t141 = true then (some 4) else (some 0)))) = some r := by rw [if_neg (show ¬ (false = true) by decide)] at H;exact H
         clear H
         have H := H1
         clear H1
         replace H := Option.bind_eq_some_iff.mp H
         obtain ⟨t138,A180,H⟩ := H
         replace H : ((width_within_rune.f t138 a0).bind fun t141 => (if t141 = true then (some 4) else (some 0))) = some r := H
         have A18 := Aside0.mk A180
         clear A180
         replace H := Option.bind_eq_some_iff.mp H
         obtain ⟨t141,A190,H⟩ := H
         replace H : (if t141 = true then (some 4) else (some 0)) = some r := H
         have A19 := Aside0.mk A190
         clear A190
         by_cases c20 : t141 = true
         ·subst c20
          have H1 : (some 4) = some r := by rw [if_pos rfl] at H;exact H
          clear H
          have H := H1
          clear H1
          obtain rfl := Option.some.inj H
          go_wp2_with (first | ((with_reducible refine gate_callee (f := 62) rfl ?_);refine goesL_ (some 33) rfl rfl Tryd.func62 (by kernel_rfl) rfl #[] rfl au1 ?_;(with_reducible refine (width_marks.calls  t134 _ A12.out).mono ?_);rintro e w21 ⟨v135,rfl,ho0,hb⟩;refine ⟨_,rfl,?_⟩;have n0_ := Aside0.mk (Kd.R_lower ho0 (below_size au0));have n1_ := Aside0.mk (below_step au0 hb);clear HB;have HO136 := n0_;have HB := n1_;clear n0_ n1_;(try clear hb);(try clear hb2);(try clear hk);(try clear hi);(try clear ho0);obtain ⟨Ao22,co22,eo22⟩ := Kd.R_slice HO136.out;subst eo22) | ((with_reducible refine gate_callee (f := 61) rfl ?_);refine goesL_ (some 35) rfl rfl Tryd.func61 (by kernel_rfl) rfl #[.slice Ao22 t134.length co22,.int .i32 a0] rfl au1 ?_;(with_reducible refine (width_within_rune.calls _ _ t134 a0 false _ ?side1 ?side2 A13.out).mono ?_);(case side1 => repeat (first | exact (Kd.R_reads' HO136.out).2.2 | (with_reducible refine Kd.C_alloc ?_ _) | (with_reducible refine Kd.C_drewN ?_ _) | (with_reducible refine Kd.C_drew ?_)));(case side2 => exact (Kd.R_reads' HO136.out).2.1);rintro e w23 ⟨rfl,hb⟩;refine ⟨_,rfl,?_⟩;have n0_ := Aside0.mk (Kd.R_below au21 hb);have n1_ := Aside0.mk (below_step au0 hb);clear HO136;clear HB;have HO136 := n0_;have HB := n1_;clear n0_ n1_;(try clear hb);(try clear hb2);(try clear hk);(try clear hi)) | ((with_reducible refine gate_callee (f := 63) rfl ?_);refine goesL_ (some 37) rfl rfl Tryd.func63 (by kernel_rfl) rfl #[] rfl au1 ?_;(with_reducible refine (width_wides.calls  t138 _ A18.out).mono ?_);rintro e w24 ⟨v139,rfl,ho0,hb⟩;refine ⟨_,rfl,?_⟩;have n0_ := Aside0.mk (Kd.R_elder' au21 (Kd.R_base ho0) hb);have n1_ := Aside0.mk (Kd.R_lower (Kd.R_new' ho0 (Kd.R_lt au21)) (below_size au0));have n2_ := Aside0.mk (below_step au0 hb);clear HO136;clear HB;have HO136 := n0_;have HO140 := n1_;have HB := n2_;clear n0_ n1_ n2_;(try clear hb);(try clear hb2);(try clear hk);(try clear hi);(try clear ho0);obtain ⟨Ao25,co25,eo25⟩ := Kd.R_slice HO140.out;subst eo25) | ((with_reducible refine gate_callee (f := 61) rfl ?_);refine goesL_ (some 39) rfl rfl Tryd.func61 (by kernel_rfl) rfl #[.slice Ao25 t138.length co25,.int .i32 a0] rfl au1 ?_;(with_reducible refine (width_within_rune.calls _ _ t138 a0 true _ ?side1 ?side2 A19.out).mono ?_);(case side1 => repeat (first | exact (Kd.R_reads' HO140.out).2.2 | (with_reducible refine Kd.C_alloc ?_ _) | (with_reducible refine Kd.C_drewN ?_ _) | (with_reducible refine Kd.C_drew ?_)));(case side2 => exact (Kd.R_reads' HO140.out).2.1);rintro e w26 ⟨rfl,hb⟩;refine ⟨_,rfl,?_⟩;have n0_ := Aside0.mk (Kd.R_below au21 hb);have n1_ := Aside0.mk (Kd.R_below (by (with_reducible repeat (first | apply Kd.R_alloc | apply Kd.R_drewN | apply Kd.R_drew));exact HO140.out) hb);have n2_ := Aside0.mk (below_step au0 hb);clear HO136;clear HO140;clear HB;have HO136 := n0_;have HO140 := n1_;have HB := n2_;clear n0_ n1_ n2_;(try clear hb);(try clear hb2);(try clear hk);(try clear hi)))
          go_ret
          exact ⟨au2,au0⟩
         ·replace c20 := Bool.eq_false_iff.mpr c20
          subst c20
          have H1 : (some 0) = some r := by rw [if_neg (show ¬ (false = true) by decide)] at H;exact H
          clear H
          have H := H1
          clear H1
          obtain rfl := Option.some.inj H
          go_wp2_with (first | ((with_reducible refine gate_callee (f := 62) rfl ?_);refine goesL_ (some 33) rfl rfl Tryd.func62 (by kernel_rfl) rfl #[] rfl au1 ?_;(with_reducible refine (width_marks.calls  t134 _ A12.out).mono ?_);rintro e w27 ⟨v135,rfl,ho0,hb⟩;refine ⟨_,rfl,?_⟩;have n0_ := Aside0.mk (Kd.R_lower ho0 (below_size au0));have n1_ := Aside0.mk (below_step au0 hb);clear HB;have HO136 := n0_;have HB := n1_;clear n0_ n1_;(try clear hb);(try clear hb2);(try clear hk);(try clear hi);(try clear ho0);obtain ⟨Ao28,co28,eo28⟩ := Kd.R_slice HO136.out;subst eo28) | ((with_reducible refine gate_callee (f := 61) rfl ?_);refine goesL_ (some 35) rfl rfl Tryd.func61 (by kernel_rfl) rfl #[.slice Ao28 t134.length co28,.int .i32 a0] rfl au1 ?_;(with_reducible refine (width_within_rune.calls _ _ t134 a0 false _ ?side1 ?side2 A13.out).mono ?_);(case side1 => repeat (first | exact (Kd.R_reads' HO136.out).2.2 | (with_reducible refine Kd.C_alloc ?_ _) | (with_reducible refine Kd.C_drewN ?_ _) | (with_reducible refine Kd.C_drew ?_)));(case side2 => exact (Kd.R_reads' HO136.out).2.1);rintro e w29 ⟨rfl,hb⟩;refine ⟨_,rfl,?_⟩;have n0_ := Aside0.mk (Kd.R_below au21 hb);have n1_ := Aside0.mk (below_step au0 hb);clear HO136;clear HB;have HO136 := n0_;have HB := n1_;clear n0_ n1_;(try clear hb);(try clear hb2);(try clear hk);(try clear hi)) | ((with_reducible refine gate_callee (f := 63) rfl ?_);refine goesL_ (some 37) rfl rfl Tryd.func63 (by kernel_rfl) rfl #[] rfl au1 ?_;(with_reducible refine (width_wides.calls  t138 _ A18.out).mono ?_);rintro e w30 ⟨v139,rfl,ho0,hb⟩;refine ⟨_,rfl,?_⟩;have n0_ := Aside0.mk (Kd.R_elder' au21 (Kd.R_base ho0) hb);have n1_ := Aside0.mk (Kd.R_lower (Kd.R_new' ho0 (Kd.R_lt au21)) (below_size au0));have n2_ := Aside0.mk (below_step au0 hb);clear HO136;clear HB;have HO136 := n0_;have HO140 := n1_;have HB := n2_;clear n0_ n1_ n2_;(try clear hb);(try clear hb2);(try clear hk);(try clear hi);(try clear ho0);obtain ⟨Ao31,co31,eo31⟩ := Kd.R_slice HO140.out;subst eo31) | ((with_reducible refine gate_callee (f := 61) rfl ?_);refine goesL_ (some 39) rfl rfl Tryd.func61 (by kernel_rfl) rfl #[.slice Ao31 t138.length co31,.int .i32 a0] rfl au1 ?_;(with_reducible refine (width_within_rune.calls _ _ t138 a0 false _ ?side1 ?side2 A19.out).mono ?_);(case side1 => repeat (first | exact (Kd.R_reads' HO140.out).2.2 | (with_reducible refine Kd.C_alloc ?_ _) | (with_reducible refine Kd.C_drewN ?_ _) | (with_reducible refine Kd.C_drew ?_)));(case side2 => exact (Kd.R_reads' HO140.out).2.1);rintro e w32 ⟨rfl,hb⟩;refine ⟨_,rfl,?_⟩;have n0_ := Aside0.mk (Kd.R_below au21 hb);have n1_ := Aside0.mk (Kd.R_below (by (with_reducible repeat (first | apply Kd.R_alloc | apply Kd.R_drewN | apply Kd.R_drew));exact HO140.out) hb);have n2_ := Aside0.mk (below_step au0 hb);clear HO136;clear HO140;clear HB;have HO136 := n0_;have HO140 := n1_;have HB := n2_;clear n0_ n1_ n2_;(try clear hb);(try clear hb2);(try clear hk);(try clear hi)))
          go_ret
          exact ⟨au2,au0⟩
def cluster_glued.j0 : Nat → Int → Int → Bool → Option (Bool)
 | 0,_,_,_ => none
 | k + 1,x0,x1,x11 => if x11 = true then (some true) else ((width_Class.f k x0).bind fun t142 => ((width_Class.f k x1).bind fun t143 => (if t143 = 3 then (if t142 = 1 then (some false) else (some (t142 != 2))) else (some false))))
def cluster_glued.f (k : Nat) (a0 : Int) (a1 : Int) : Option (Bool) := if a0 = 13 then (cluster_glued.j0 k a0 a1 (a1 == 10)) else (cluster_glued.j0 k a0 a1 false)
theorem cluster_glued.mono_l : ∀ k,(∀ y0 y1 y2,LeO (cluster_glued.j0 k y0 y1 y2) (cluster_glued.j0 (k + 1) y0 y1 y2))
 | 0 => fun _ _ _ r h => by simp [cluster_glued.j0] at h
 | k + 1 => by
  have ih0 := cluster_glued.mono_l k
  ·intro y0 y1 y2
   unfold cluster_glued.j0
   repeat' first
   | (with_reducible exact ih0 _ _ _)
   | (with_reducible exact width_Class.mono _ _)
   | (with_reducible exact LeO.refl _)
   | (with_reducible exact LeO.none _)
   | (with_reducible refine LeO.ite ?_ ?_)
   | (with_reducible refine LeO.bind ?_ (fun _ => ?_))
   | exact ih0 _ _ _
   | exact width_Class.mono _ _
   | exact LeO.none _
   | refine LeO.ite ?_ ?_
   | refine LeO.bind ?_ (fun _ => ?_)
theorem cluster_glued.mono : ∀ a0 a1 k,LeO (cluster_glued.f k a0 a1) (cluster_glued.f (k + 1) a0 a1) := by
 intro a0 a1 k
 have ih0 := cluster_glued.mono_l k
 unfold cluster_glued.f
 repeat' first
   | (with_reducible exact ih0 _ _ _)
   | (with_reducible exact width_Class.mono _ _)
   | (with_reducible exact LeO.refl _)
   | (with_reducible exact LeO.none _)
   | (with_reducible refine LeO.ite ?_ ?_)
   | (with_reducible refine LeO.bind ?_ (fun _ => ?_))
   | exact ih0 _ _ _
   | exact width_Class.mono _ _
   | exact LeO.none _
   | refine LeO.ite ?_ ?_
   | refine LeO.bind ?_ (fun _ => ?_)
set_option maxHeartbeats 8000000 in
set_option maxRecDepth 100000 in
theorem cluster_glued.calls (k : Nat) (a0 : Int) (a1 : Int) (r : Bool) (w : World) (h : cluster_glued.f k a0 a1 = some r) :
  Calls Tryd.prog 51 #[.int .i32 a0,.int .i32 a1] w fun e w' => e = .returned (.bool r) ∧ Below w.heap.size w w' := by
 have HB := Aside0.mk (Below.refl w.heap.size w)
 have H : (if a0 = 13 then (cluster_glued.j0 k a0 a1 (a1 == 10)) else (cluster_glued.j0 k a0 a1 false)) = some r := h
 clear h
 have HC3 := Aside0.mk H
 clear H
 go_enter Tryd.func51,Tryd.ntmps51
 go_upto_region 1 with (fail)
 go_cut [11] (fun v11 wc => ∃ (kq : Nat) (x11_2 : Bool),v11 = .bool x11_2 ∧ Aside0 (cluster_glued.j0 kq a0 a1 x11_2 = some r) ∧ Aside0 (kq ≤ k) ∧ Aside0 (Below w.heap.size w wc))
 case first =>
  have H := HC3.out
  clear HC3
  by_cases c4 : a0 = 13
  ·rw [if_pos c4] at H
   have c4b0 : (a0 == 13) = true := beq_iff_eq.mpr c4
   have c4b1 : (a0 != 13) = false := bne_eq_false_iff_eq.mpr c4
   clear c4
   (first | rw [c4b0] | (simp only [i64_w,i32_w];rw [c4b0]) | skip)
   have H' := Aside0.mk H
   clear H
   go_wp2
   go_meet
   case rel => exact ⟨_,((a1 == 10)),au3,H',⟨by first | omega | exact Nat.le_refl _⟩,⟨au0⟩⟩
  ·rw [if_neg c4] at H
   have c4b0 : (a0 == 13) = false := beq_eq_false_iff_ne.mpr c4
   have c4b1 : (a0 != 13) = true := bne_iff_ne.mpr c4
   (first | rw [c4b0] | (simp only [i64_w,i32_w];rw [c4b0]) | skip)
   have H' := Aside0.mk H
   clear H
   go_wp2
   go_meet
   case rel => exact ⟨_,(false),au3,H',⟨by first | omega | exact Nat.le_refl _⟩,⟨au0⟩⟩
 case rest =>
  clear HC3
  try clear p2
  try clear c4
  try clear c4b0
  try clear c4b1
  obtain ⟨kq,x11_2,rfl,HA,HJ2,HB⟩ := hcut
  cases kq with
  | zero => exact absurd HA.out (by simp [cluster_glued.j0])
  | succ kj2 =>
   have H := HA.out
   clear HA
   simp only [cluster_glued.j0] at H
   by_cases c5 : x11_2 = true
   ·subst c5
    have H1 : (some true) = some r := by rw [if_pos rfl] at H;exact H
    clear H
    have H := H1
    clear H1
    obtain rfl := Option.some.inj H
    go_wp2
    go_ret
    exact ⟨au2,au0⟩
   ·replace c5 := Bool.eq_false_iff.mpr c5
    subst c5
    have H1 : ((width_Class.f kj2 a0).bind fun t142 => ((width_Class.f kj2 a1).bind fun t143 => (if t143 = 3 then (if t142 = 1 then (some false) else (some (t142 != 2))) else (some false)))) = some r := by rw [if_neg (show ¬ (false = true) by decide)] at H;exact H
    clear H
    have H := H1
    clear H1
    replace H := Option.bind_eq_some_iff.mp H
    obtain ⟨t142,A60,H⟩ := H
    replace H : ((width_Class.f kj2 a1).bind fun t143 => (if t143 = 3 then (if t142 = 1 then (some false) else (some (t142 != 2))) else (some false))) = some r := H
    have A6 := Aside0.mk A60
    clear A60
    replace H := Option.bind_eq_some_iff.mp H
    obtain ⟨t143,A70,H⟩ := H
    replace H : (if t143 = 3 then (if t142 = 1 then (some false) else (some (t142 != 2))) else (some false)) = some r := H
    have A7 := Aside0.mk A70
    clear A70
    by_cases c8 : t143 = 3
    ·rw [if_pos c8] at H
     have c8b0 : (t143 == 3) = true := beq_iff_eq.mpr c8
     have c8b1 : (t143 != 3) = false := bne_eq_false_iff_eq.mpr c8
     clear c8
     by_cases c9 : t142 = 1
     ·rw [if_pos c9] at H
      have c9b0 : (t142 == 1) = true := beq_iff_eq.mpr c9
      have c9b1 : (t142 != 1) = false := bne_eq_false_iff_eq.mpr c9
      clear c9
      obtain rfl := Option.some.inj H
      go_wp2_with (first | ((with_reducible refine gate_callee (f := 37) rfl ?_);refine goesL_ (some 13) rfl rfl Tryd.func37 (by kernel_rfl) rfl #[.int .i32 a0] rfl au1 ?_;(with_reducible refine (width_Class.calls kj2 a0 t142 _ A6.out).mono ?_);rintro e w10 ⟨rfl,hb⟩;refine ⟨_,rfl,?_⟩;have n0_ := Aside0.mk (below_step au0 hb);clear HB;have HB := n0_;clear n0_;(try clear hb);(try clear hb2);(try clear hk);(try clear hi)) | ((with_reducible refine gate_callee (f := 37) rfl ?_);refine goesL_ (some 15) rfl rfl Tryd.func37 (by kernel_rfl) rfl #[.int .i32 a1] rfl au1 ?_;(with_reducible refine (width_Class.calls kj2 a1 t143 _ A7.out).mono ?_);rintro e w11 ⟨rfl,hb⟩;refine ⟨_,rfl,?_⟩;have n0_ := Aside0.mk (below_step au0 hb);clear HB;have HB := n0_;clear n0_;(try clear hb);(try clear hb2);(try clear hk);(try clear hi)))
      go_ret
      exact ⟨au2,au0⟩
     ·rw [if_neg c9] at H
      have c9b0 : (t142 == 1) = false := beq_eq_false_iff_ne.mpr c9
      have c9b1 : (t142 != 1) = true := bne_iff_ne.mpr c9
      obtain rfl := Option.some.inj H
      go_wp2_with (first | ((with_reducible refine gate_callee (f := 37) rfl ?_);refine goesL_ (some 13) rfl rfl Tryd.func37 (by kernel_rfl) rfl #[.int .i32 a0] rfl au1 ?_;(with_reducible refine (width_Class.calls kj2 a0 t142 _ A6.out).mono ?_);rintro e w12 ⟨rfl,hb⟩;refine ⟨_,rfl,?_⟩;have n0_ := Aside0.mk (below_step au0 hb);clear HB;have HB := n0_;clear n0_;(try clear hb);(try clear hb2);(try clear hk);(try clear hi)) | ((with_reducible refine gate_callee (f := 37) rfl ?_);refine goesL_ (some 15) rfl rfl Tryd.func37 (by kernel_rfl) rfl #[.int .i32 a1] rfl au1 ?_;(with_reducible refine (width_Class.calls kj2 a1 t143 _ A7.out).mono ?_);rintro e w13 ⟨rfl,hb⟩;refine ⟨_,rfl,?_⟩;have n0_ := Aside0.mk (below_step au0 hb);clear HB;have HB := n0_;clear n0_;(try clear hb);(try clear hb2);(try clear hk);(try clear hi)))
      go_ret
      exact ⟨au2,au0⟩
    ·rw [if_neg c8] at H
     have c8b0 : (t143 == 3) = false := beq_eq_false_iff_ne.mpr c8
     have c8b1 : (t143 != 3) = true := bne_iff_ne.mpr c8
     obtain rfl := Option.some.inj H
     go_wp2_with (first | ((with_reducible refine gate_callee (f := 37) rfl ?_);refine goesL_ (some 13) rfl rfl Tryd.func37 (by kernel_rfl) rfl #[.int .i32 a0] rfl au1 ?_;(with_reducible refine (width_Class.calls kj2 a0 t142 _ A6.out).mono ?_);rintro e w14 ⟨rfl,hb⟩;refine ⟨_,rfl,?_⟩;have n0_ := Aside0.mk (below_step au0 hb);clear HB;have HB := n0_;clear n0_;(try clear hb);(try clear hb2);(try clear hk);(try clear hi)) | ((with_reducible refine gate_callee (f := 37) rfl ?_);refine goesL_ (some 15) rfl rfl Tryd.func37 (by kernel_rfl) rfl #[.int .i32 a1] rfl au1 ?_;(with_reducible refine (width_Class.calls kj2 a1 t143 _ A7.out).mono ?_);rintro e w15 ⟨rfl,hb⟩;refine ⟨_,rfl,?_⟩;have n0_ := Aside0.mk (below_step au0 hb);clear HB;have HB := n0_;clear n0_;(try clear hb);(try clear hb2);(try clear hk);(try clear hi)))
     go_ret
     exact ⟨au2,au0⟩
def cluster_Boundary.j0 : Nat → ByteArray → Int → Bool → Option (Bool)
 | 0,_,_,_ => none
 | k + 1,x0,x1,x16 => if x16 = true then (if x1 = 0 then (some true) else (some (x1 == (x0.size : Int)))) else ((unit_Boundary.f k x0 x1).bind fun t144 => (if t144 = true then ((unit_Prev.f k x0 x1).bind fun t145 => ((unit_At.f k x0 t145).bind fun bt146 => ((unit_At.f k x0 x1).bind fun bt150 => ((cluster_glued.f k bt146.1 bt150.1).bind fun t154 => (some (!t154)))))) else (some false)))
def cluster_Boundary.f (k : Nat) (a0 : ByteArray) (a1 : Int) : Option (Bool) := if a1 ≤ 0 then (cluster_Boundary.j0 k a0 a1 true) else (cluster_Boundary.j0 k a0 a1 (decide (a1 ≥ (a0.size : Int))))
theorem cluster_Boundary.mono_l : ∀ k,(∀ y0 y1 y2,LeO (cluster_Boundary.j0 k y0 y1 y2) (cluster_Boundary.j0 (k + 1) y0 y1 y2))
 | 0 => fun _ _ _ r h => by simp [cluster_Boundary.j0] at h
 | k + 1 => by
  have ih0 := cluster_Boundary.mono_l k
  ·intro y0 y1 y2
   unfold cluster_Boundary.j0
   repeat' first
   | (with_reducible exact ih0 _ _ _)
   | (with_reducible exact cluster_glued.mono _ _ _)
   | (with_reducible exact unit_At.mono _ _ _)
   | (with_reducible exact unit_Boundary.mono _ _ _)
   | (with_reducible exact unit_Prev.mono _ _ _)
   | (with_reducible exact LeO.refl _)
   | (with_reducible exact LeO.none _)
   | (with_reducible refine LeO.ite ?_ ?_)
   | (with_reducible refine LeO.bind ?_ (fun _ => ?_))
   | exact ih0 _ _ _
   | exact cluster_glued.mono _ _ _
   | exact unit_At.mono _ _ _
   | exact unit_Boundary.mono _ _ _
   | exact unit_Prev.mono _ _ _
   | exact LeO.none _
   | refine LeO.ite ?_ ?_
   | refine LeO.bind ?_ (fun _ => ?_)
theorem cluster_Boundary.mono : ∀ a0 a1 k,LeO (cluster_Boundary.f k a0 a1) (cluster_Boundary.f (k + 1) a0 a1) := by
 intro a0 a1 k
 have ih0 := cluster_Boundary.mono_l k
 unfold cluster_Boundary.f
 repeat' first
   | (with_reducible exact ih0 _ _ _)
   | (with_reducible exact cluster_glued.mono _ _ _)
   | (with_reducible exact unit_At.mono _ _ _)
   | (with_reducible exact unit_Boundary.mono _ _ _)
   | (with_reducible exact unit_Prev.mono _ _ _)
   | (with_reducible exact LeO.refl _)
   | (with_reducible exact LeO.none _)
   | (with_reducible refine LeO.ite ?_ ?_)
   | (with_reducible refine LeO.bind ?_ (fun _ => ?_))
   | exact ih0 _ _ _
   | exact cluster_glued.mono _ _ _
   | exact unit_At.mono _ _ _
   | exact unit_Boundary.mono _ _ _
   | exact unit_Prev.mono _ _ _
   | exact LeO.none _
   | refine LeO.ite ?_ ?_
   | refine LeO.bind ?_ (fun _ => ?_)
set_option maxHeartbeats 8000000 in
set_option maxRecDepth 100000 in
theorem cluster_Boundary.calls (k : Nat) (a0 : ByteArray) (a1 : Int) (r : Bool) (w : World) (hT : Lib.Utf8Tabs 0 1 w) (h : cluster_Boundary.f k a0 a1 = some r) :
  Calls Tryd.prog 28 #[.string a0,.int .i64 a1] w fun e w' => e = .returned (.bool r) ∧ Below w.heap.size w w' := by
 have hu42 := Tryd.underlying42
 have HT := Aside0.mk hT
 clear hT
 have HB := Aside0.mk (Below.refl w.heap.size w)
 have H : (if a1 ≤ 0 then (cluster_Boundary.j0 k a0 a1 true) else (cluster_Boundary.j0 k a0 a1 (decide (a1 ≥ (a0.size : Int))))) = some r := h
 clear h
 have HC3 := Aside0.mk H
 clear H
 go_enter Tryd.func28,Tryd.ntmps28
 go_upto_region 1 with (fail)
 go_cut [16] (fun v16 wc => ∃ (kq : Nat) (x16_2 : Bool),v16 = .bool x16_2 ∧ Aside0 (cluster_Boundary.j0 kq a0 a1 x16_2 = some r) ∧ Aside0 (kq ≤ k) ∧ Aside0 (Below w.heap.size w wc))
 case first =>
  have H := HC3.out
  clear HC3
  by_cases c4 : a1 ≤ 0
  ·rw [if_pos c4] at H
   have c4b0 : decide (a1 ≤ 0) = true := decide_eq_true c4
   clear c4
   (first | rw [c4b0] | (simp only [i64_w,i32_w];rw [c4b0]) | skip)
   have H' := Aside0.mk H
   clear H
   go_wp2
   go_meet
   case rel => exact ⟨_,(true),au3,H',⟨by first | omega | exact Nat.le_refl _⟩,⟨au0⟩⟩
  ·rw [if_neg c4] at H
   have c4b0 : decide (a1 ≤ 0) = false := decide_eq_false c4
   clear c4
   (first | rw [c4b0] | (simp only [i64_w,i32_w];rw [c4b0]) | skip)
   have H' := Aside0.mk H
   clear H
   go_wp2
   go_meet
   case rel => exact ⟨_,(decide (a1 ≥ (a0.size : Int))),au3,H',⟨by first | omega | exact Nat.le_refl _⟩,⟨au0⟩⟩
 case rest =>
  clear HC3
  try clear c2
  try clear p2
  try clear c4
  try clear c4b0
  obtain ⟨kq,x16_2,rfl,HA,HJ2,HB⟩ := hcut
  cases kq with
  | zero => exact absurd HA.out (by simp [cluster_Boundary.j0])
  | succ kj2 =>
   have H := HA.out
   clear HA
   simp only [cluster_Boundary.j0] at H
   by_cases c5 : x16_2 = true
   ·subst c5
    have H1 : (if a1 = 0 then (some true) else (some (a1 == (a0.size : Int)))) = some r := by rw [if_pos rfl] at H;exact H
    clear H
    have H := H1
    clear H1
    by_cases c6 : a1 = 0
    ·rw [if_pos c6] at H
     have c6b0 : (a1 == 0) = true := beq_iff_eq.mpr c6
     have c6b1 : (a1 != 0) = false := bne_eq_false_iff_eq.mpr c6
     clear c6
     obtain rfl := Option.some.inj H
     go_wp2
     go_ret
     exact ⟨au2,au0⟩
    ·rw [if_neg c6] at H
     have c6b0 : (a1 == 0) = false := beq_eq_false_iff_ne.mpr c6
     have c6b1 : (a1 != 0) = true := bne_iff_ne.mpr c6
     obtain rfl := Option.some.inj H
     go_wp2
     go_ret
     exact ⟨au2,au0⟩
   ·replace c5 := Bool.eq_false_iff.mpr c5
    subst c5
    have H1 : ((unit_Boundary.f kj2 a0 a1).bind fun t144 => (if t144 = true then ((unit_Prev.f kj2 a0 a1).bind fun t145 => ((unit_At.f kj2 a0 t145).bind fun bt146 => ((unit_At.f kj2 a0 a1).bind fun bt150 => ((cluster_glued.f kj2 bt146.1 bt150.1).bind fun t154 => (some (!t154)))))) else (some false))) = some r := by rw [if_neg (show ¬ (false = true) by decide)] at H;exact H
    clear H
    have H := H1
    clear H1
    replace H := Option.bind_eq_some_iff.mp H
    obtain ⟨t144,A70,H⟩ := H
    replace H : (if t144 = true then ((unit_Prev.f kj2 a0 a1).bind fun t145 => ((unit_At.f kj2 a0 t145).bind fun bt146 => ((unit_At.f kj2 a0 a1).bind fun bt150 => ((cluster_glued.f kj2 bt146.1 bt150.1).bind fun t154 => (some (!t154)))))) else (some false)) = some r := H
    have A7 := Aside0.mk A70
    clear A70
    by_cases c8 : t144 = true
    ·subst c8
     have H1 : ((unit_Prev.f kj2 a0 a1).bind fun t145 => ((unit_At.f kj2 a0 t145).bind fun bt146 => ((unit_At.f kj2 a0 a1).bind fun bt150 => ((cluster_glued.f kj2 bt146.1 bt150.1).bind fun t154 => (some (!t154)))))) = some r := by rw [if_pos rfl] at H;exact H
     clear H
     have H := H1
     clear H1
     replace H := Option.bind_eq_some_iff.mp H
     obtain ⟨t145,A90,H⟩ := H
     replace H : ((unit_At.f kj2 a0 t145).bind fun bt146 => ((unit_At.f kj2 a0 a1).bind fun bt150 => ((cluster_glued.f kj2 bt146.1 bt150.1).bind fun t154 => (some (!t154))))) = some r := H
     have A9 := Aside0.mk A90
     clear A90
     replace H := Option.bind_eq_some_iff.mp H
     obtain ⟨⟨t146,t147,t148⟩,A100,H⟩ := H
     replace H : ((unit_At.f kj2 a0 a1).bind fun bt150 => ((cluster_glued.f kj2 t146 bt150.1).bind fun t154 => (some (!t154)))) = some r := H
     have A10 := Aside0.mk A100
     clear A100
     replace H := Option.bind_eq_some_iff.mp H
     obtain ⟨⟨t150,t151,t152⟩,A110,H⟩ := H
     replace H : ((cluster_glued.f kj2 t146 t150).bind fun t154 => (some (!t154))) = some r := H
     have A11 := Aside0.mk A110
     clear A110
     replace H := Option.bind_eq_some_iff.mp H
     obtain ⟨t154,A120,H⟩ := H
     replace H : (some (!t154)) = some r := H
     have A12 := Aside0.mk A120
     clear A120
     obtain rfl := Option.some.inj H
     go_wp2_with (first | ((with_reducible refine gate_callee (f := 49) rfl ?_);refine goesL_ (some 27) rfl rfl Tryd.func49 (by kernel_rfl) rfl #[.string a0,.int .i64 a1] rfl au1 ?_;(with_reducible refine (unit_Boundary.calls kj2 a0 a1 true _ ?side1 A7.out).mono ?_);(case side1 => exact tabs_below HT.out au0);rintro e w13 ⟨rfl,hb⟩;refine ⟨_,rfl,?_⟩;have n0_ := Aside0.mk (below_step au0 hb);clear HB;have HB := n0_;clear n0_;(try clear hb);(try clear hb2);(try clear hk);(try clear hi)) | ((with_reducible refine gate_callee (f := 50) rfl ?_);refine goesL_ (some 33) rfl rfl Tryd.func50 (by kernel_rfl) rfl #[.string a0,.int .i64 a1] rfl au1 ?_;(with_reducible refine (unit_Prev.calls kj2 a0 a1 t145 _ ?side1 A9.out).mono ?_);(case side1 => exact tabs_below HT.out au0);rintro e w14 ⟨rfl,hb⟩;refine ⟨_,rfl,?_⟩;have n0_ := Aside0.mk (below_step au0 hb);clear HB;have HB := n0_;clear n0_;(try clear hb);(try clear hb2);(try clear hk);(try clear hi)) | ((with_reducible refine gate_callee (f := 36) rfl ?_);refine goesL_ (some 34) rfl rfl Tryd.func36 (by kernel_rfl) rfl #[.string a0,.int .i64 t145] rfl au1 ?_;(with_reducible refine (unit_At.calls kj2 a0 t145 t146 t147 t148 _ ?side1 A10.out).mono ?_);(case side1 => exact tabs_below HT.out au0);rintro e w15 ⟨rfl,hb⟩;refine ⟨_,rfl,?_⟩;have n0_ := Aside0.mk (below_step au0 hb);clear HB;have HB := n0_;clear n0_;(try clear hb);(try clear hb2);(try clear hk);(try clear hi)) | ((with_reducible refine gate_dst (N := 5) rfl ?_);(try (refine gate_guard (by rfl) ?_;dsimp only));refine box_event ?hg (N := 5) ?hd (cs := #[.int .i32 0,.int .i64 0]) (t := 42) ?hr ?_;(case hd => rfl);(case hg => rfl);(case hr => first | (go_simp;done) | (go_simp;rfl));intro gb149 hg w16 hbox hb;have n0_ := Aside0.mk (below_step au0 hb);have n1_ := Aside0.mk (hbox);have n2_ := Aside0.mk ((by rw [hg];exact (below_size au0) : w.heap.size ≤ gb149));have n3_ := Aside0.mk ((by rw [hg];exact (below_size au0) : w.heap.size ≤ gb149));clear HB;have HB := n0_;have BK149 := n1_;have GW149 := n2_;have GE149 := n3_;clear n0_ n1_ n2_ n3_;clear hb hbox hg;have hcz17_0 : w16.cell? ⟨gb149,0,none⟩ = some (.int .i32 0) := (blk_cell BK149.out 0).trans rfl;have hcz17_1 : w16.cell? ⟨gb149,1,none⟩ = some (.int .i64 0) := (blk_cell BK149.out 1).trans rfl;have hfz17_0 := blk_frozen BK149.out 0;have hfz17_1 := blk_frozen BK149.out 1) | ((with_reducible refine gate_callee (f := 36) rfl ?_);refine goesL_ (some 40) rfl rfl Tryd.func36 (by kernel_rfl) rfl #[.string a0,.int .i64 a1] rfl au1 ?_;(with_reducible refine (unit_At.calls kj2 a0 a1 t150 t151 t152 _ ?side1 A11.out).mono ?_);(case side1 => exact tabs_below HT.out au26);rintro e w18 ⟨rfl,hb⟩;refine ⟨_,rfl,?_⟩;have n0_ := Aside0.mk (blk_below (g := gb149) (o := .cells #[.int .i32 t146,.int .i64 t147] 42 (0,0)) (by (with_reducible repeat (first | refine blk_drewN ?_ _ | refine blk_drew ?_ | refine blk_alloc ?_ _));refine blk_put (cs := #[.int .i32 t146,.int .i64 0]) ?_ 1 _ rfl;(with_reducible repeat (first | refine blk_drewN ?_ _ | refine blk_drew ?_ | refine blk_alloc ?_ _));refine blk_put (cs := #[.int .i32 0,.int .i64 0]) ?_ 0 _ rfl;(with_reducible repeat (first | refine blk_drewN ?_ _ | refine blk_drew ?_ | refine blk_alloc ?_ _));exact BK149.out) hb);have n1_ := Aside0.mk (below_step au26 hb);clear BK149;clear HB;have BK149 := n0_;have HB := n1_;clear n0_ n1_;(try clear hb);(try clear hb2);(try clear hk);(try clear hi)) | ((with_reducible refine gate_dst (N := 7) rfl ?_);(try (refine gate_guard (by rfl) ?_;dsimp only));refine box_event ?hg (N := 7) ?hd (cs := #[.int .i32 0,.int .i64 0]) (t := 42) ?hr ?_;(case hd => rfl);(case hg => rfl);(case hr => first | (go_simp;done) | (go_simp;rfl));intro gb153 hg w19 hbox hb;have n0_ := Aside0.mk (blk_below (g := gb149) (o := .cells #[.int .i32 t146,.int .i64 t147] 42 (0,0)) (by (with_reducible repeat (first | refine blk_drewN ?_ _ | refine blk_drew ?_ | refine blk_alloc ?_ _));exact BK149.out) hb);have n1_ := Aside0.mk (below_step au26 hb);have n2_ := Aside0.mk (hbox);have n3_ := Aside0.mk ((by rw [hg];exact (below_size au26) : w.heap.size ≤ gb153));have n4_ := Aside0.mk ((by rw [hg];exact (below_size au26) : w.heap.size ≤ gb153));have n5_ := Aside0.mk ((by rw [hg];exact Nat.ne_of_lt (blk_lt (g := gb149) (o := .cells #[.int .i32 t146,.int .i64 t147] 42 (0,0)) (by (with_reducible repeat (first | refine blk_drewN ?_ _ | refine blk_drew ?_ | refine blk_alloc ?_ _));exact BK149.out)) : gb149 ≠ gb153));have n6_ := Aside0.mk ((by rw [hg];exact Nat.ne_of_gt (blk_lt (g := gb149) (o := .cells #[.int .i32 t146,.int .i64 t147] 42 (0,0)) (by (with_reducible repeat (first | refine blk_drewN ?_ _ | refine blk_drew ?_ | refine blk_alloc ?_ _));exact BK149.out)) : gb153 ≠ gb149));clear BK149;clear HB;have BK149 := n0_;have HB := n1_;have BK153 := n2_;have GW153 := n3_;have GE153 := n4_;have NB149_153 := n5_;have NB153_149 := n6_;clear n0_ n1_ n2_ n3_ n4_ n5_ n6_;clear hb hbox hg;have hnb20 := NB153_149.out;have hnc20 := NB149_153.out;have hcz21_0 : w19.cell? ⟨gb153,0,none⟩ = some (.int .i32 0) := (blk_cell BK153.out 0).trans rfl;have hcz21_1 : w19.cell? ⟨gb153,1,none⟩ = some (.int .i64 0) := (blk_cell BK153.out 1).trans rfl;have hfz21_0 := blk_frozen BK153.out 0;have hfz21_1 := blk_frozen BK153.out 1;have hcz22_0 : w19.cell? ⟨gb149,0,none⟩ = some (.int .i32 t146) := (blk_cell BK149.out 0).trans rfl;have hcz22_1 : w19.cell? ⟨gb149,1,none⟩ = some (.int .i64 t147) := (blk_cell BK149.out 1).trans rfl;have hfz22_0 := blk_frozen BK149.out 0;have hfz22_1 := blk_frozen BK149.out 1) | ((with_reducible refine gate_callee (f := 51) rfl ?_);refine goesL_ (some 47) rfl rfl Tryd.func51 (by kernel_rfl) rfl #[.int .i32 t146,.int .i32 t150] rfl au1 ?_;(with_reducible refine (cluster_glued.calls kj2 t146 t150 t154 _ A12.out).mono ?_);rintro e w23 ⟨rfl,hb⟩;refine ⟨_,rfl,?_⟩;have n0_ := Aside0.mk (blk_below (g := gb149) (o := .cells #[.int .i32 t146,.int .i64 t147] 42 (0,0)) (by (with_reducible repeat (first | refine blk_drewN ?_ _ | refine blk_drew ?_ | refine blk_alloc ?_ _));refine blk_far ?_ NB149_153.out _;(with_reducible repeat (first | refine blk_drewN ?_ _ | refine blk_drew ?_ | refine blk_alloc ?_ _));refine blk_far ?_ NB149_153.out _;(with_reducible repeat (first | refine blk_drewN ?_ _ | refine blk_drew ?_ | refine blk_alloc ?_ _));exact BK149.out) hb);have n1_ := Aside0.mk (blk_below (g := gb153) (o := .cells #[.int .i32 t150,.int .i64 t151] 42 (0,0)) (by (with_reducible repeat (first | refine blk_drewN ?_ _ | refine blk_drew ?_ | refine blk_alloc ?_ _));refine blk_put (cs := #[.int .i32 t150,.int .i64 0]) ?_ 1 _ rfl;(with_reducible repeat (first | refine blk_drewN ?_ _ | refine blk_drew ?_ | refine blk_alloc ?_ _));refine blk_put (cs := #[.int .i32 0,.int .i64 0]) ?_ 0 _ rfl;(with_reducible repeat (first | refine blk_drewN ?_ _ | refine blk_drew ?_ | refine blk_alloc ?_ _));exact BK153.out) hb);have n2_ := Aside0.mk (below_step (by repeat (first | (with_reducible first | exact HB.out | apply below_alloc | apply pw_below_drewN | apply below_drew1 | refine below_set ?_ GE149.out | refine below_set ?_ GE153.out) | exact HB.out)) hb);clear BK149;clear BK153;clear HB;have BK149 := n0_;have BK153 := n1_;have HB := n2_;clear n0_ n1_ n2_;(try clear hb);(try clear hb2);(try clear hk);(try clear hi)))
     go_ret
     exact ⟨au2,by repeat (first | (with_reducible first | exact HB.out | apply below_alloc | apply pw_below_drewN | apply below_drew1 | refine below_set ?_ GE149.out | refine below_set ?_ GE153.out) | exact HB.out)⟩
    ·replace c8 := Bool.eq_false_iff.mpr c8
     subst c8
     have H1 : (some false) = some r := by rw [if_neg (show ¬ (false = true) by decide)] at H;exact H
     clear H
     have H := H1
     clear H1
     obtain rfl := Option.some.inj H
     go_wp2_with (first | ((with_reducible refine gate_callee (f := 49) rfl ?_);refine goesL_ (some 27) rfl rfl Tryd.func49 (by kernel_rfl) rfl #[.string a0,.int .i64 a1] rfl au1 ?_;(with_reducible refine (unit_Boundary.calls kj2 a0 a1 false _ ?side1 A7.out).mono ?_);(case side1 => exact tabs_below HT.out au0);rintro e w24 ⟨rfl,hb⟩;refine ⟨_,rfl,?_⟩;have n0_ := Aside0.mk (below_step au0 hb);clear HB;have HB := n0_;clear n0_;(try clear hb);(try clear hb2);(try clear hk);(try clear hi)))
     go_ret
     exact ⟨au2,au0⟩
def cluster_Next.l0 : Nat → ByteArray → Int → Option (Int)
 | 0,_,_ => none
 | k + 1,x0,x1 => if x1 < (x0.size : Int) then ((unit_Next.f k x0 x1).bind fun t157 => ((cluster_Boundary.f k x0 t157).bind fun t158 => (if t158 = true then (some t157) else (cluster_Next.l0 k x0 t157)))) else (some (x0.size : Int))
def cluster_Next.f (k : Nat) (a0 : ByteArray) (a1 : Int) : Option (Int) := if a1 < 0 then (some 0) else (cluster_Next.l0 k a0 a1)
theorem cluster_Next.mono_l : ∀ k,(∀ y0 y1,LeO (cluster_Next.l0 k y0 y1) (cluster_Next.l0 (k + 1) y0 y1))
 | 0 => fun _ _ r h => by simp [cluster_Next.l0] at h
 | k + 1 => by
  have ih0 := cluster_Next.mono_l k
  ·intro y0 y1
   unfold cluster_Next.l0
   repeat' first
   | (with_reducible exact ih0 _ _)
   | (with_reducible exact cluster_Boundary.mono _ _ _)
   | (with_reducible exact unit_Next.mono _ _ _)
   | (with_reducible exact LeO.refl _)
   | (with_reducible exact LeO.none _)
   | (with_reducible refine LeO.ite ?_ ?_)
   | (with_reducible refine LeO.bind ?_ (fun _ => ?_))
   | exact ih0 _ _
   | exact cluster_Boundary.mono _ _ _
   | exact unit_Next.mono _ _ _
   | exact LeO.none _
   | refine LeO.ite ?_ ?_
   | refine LeO.bind ?_ (fun _ => ?_)
theorem cluster_Next.mono : ∀ a0 a1 k,LeO (cluster_Next.f k a0 a1) (cluster_Next.f (k + 1) a0 a1) := by
 intro a0 a1 k
 have ih0 := cluster_Next.mono_l k
 unfold cluster_Next.f
 repeat' first
   | (with_reducible exact ih0 _ _)
   | (with_reducible exact cluster_Boundary.mono _ _ _)
   | (with_reducible exact unit_Next.mono _ _ _)
   | (with_reducible exact LeO.refl _)
   | (with_reducible exact LeO.none _)
   | (with_reducible refine LeO.ite ?_ ?_)
   | (with_reducible refine LeO.bind ?_ (fun _ => ?_))
   | exact ih0 _ _
   | exact cluster_Boundary.mono _ _ _
   | exact unit_Next.mono _ _ _
   | exact LeO.none _
   | refine LeO.ite ?_ ?_
   | refine LeO.bind ?_ (fun _ => ?_)
set_option maxHeartbeats 8000000 in
set_option maxRecDepth 100000 in
theorem cluster_Next.calls (k : Nat) (a0 : ByteArray) (a1 : Int) (r : Int) (w : World) (hT : Lib.Utf8Tabs 0 1 w) (h : cluster_Next.f k a0 a1 = some r) :
  Calls Tryd.prog 27 #[.string a0,.int .i64 a1] w fun e w' => e = .returned (.int .i64 r) ∧ Below w.heap.size w w' := by
 have HT := Aside0.mk hT
 clear hT
 have HB := Aside0.mk (Below.refl w.heap.size w)
 have H : (if a1 < 0 then (some 0) else (cluster_Next.l0 k a0 a1)) = some r := h
 clear h
 by_cases c3 : a1 < 0
 ·rw [if_pos c3] at H
  have c3b0 : decide (a1 < 0) = true := decide_eq_true c3
  clear c3
  obtain rfl := Option.some.inj H
  go_enter Tryd.func27,Tryd.ntmps27
  go_wp2
  go_ret
  exact ⟨au2,au0⟩
 ·rw [if_neg c3] at H
  have c3b0 : decide (a1 < 0) = false := decide_eq_false c3
  clear c3
  have H' := Aside0.mk H
  clear H
  go_enter Tryd.func27,Tryd.ntmps27
  go_wp2
  go_loopg [1] k (fun kq v1 w' => ∃ (x1_1 : Int),v1 = .int .i64 x1_1 ∧ Aside0 (cluster_Next.l0 kq a0 x1_1 = some r) ∧ Aside0 (kq ≤ k) ∧ Aside0 (Below w.heap.size w w'))
  case atStart => exact ⟨(a1),au3,H',⟨Nat.le_refl _⟩,⟨au0⟩⟩
  case round =>
   clear H'
   try clear c2
   try clear p2
   try clear c3
   try clear c3b0
   obtain ⟨x1_1,rfl,HA,HK1,HB⟩ := hrel
   cases gk with
   | zero => exact absurd HA.out (by simp [cluster_Next.l0])
   | succ k1 =>
    have H := HA.out
    clear HA
    simp only [cluster_Next.l0] at H
    by_cases c4 : x1_1 < (a0.size : Int)
    ·rw [if_pos c4] at H
     have c4b0 : decide (x1_1 < (a0.size : Int)) = true := decide_eq_true c4
     clear c4
     replace H := Option.bind_eq_some_iff.mp H
     obtain ⟨t157,A50,H⟩ := H
     replace H : ((cluster_Boundary.f k1 a0 t157).bind fun t158 => (if t158 = true then (some t157) else (cluster_Next.l0 k1 a0 t157))) = some r := H
     have A5 := Aside0.mk A50
     clear A50
     replace H := Option.bind_eq_some_iff.mp H
     obtain ⟨t158,A60,H⟩ := H
     replace H : (if t158 = true then (some t157) else (cluster_Next.l0 k1 a0 t157)) = some r := H
     have A6 := Aside0.mk A60
     clear A60
     by_cases c7 : t158 = true
     ·subst c7
      have H1 : (some t157) = some r := by rw [if_pos rfl] at H;exact H
      clear H
      have H := H1
      clear H1
      obtain rfl := Option.some.inj H
      go_wp2_with (first | ((with_reducible refine gate_callee (f := 48) rfl ?_);refine goesL_ (some 13) rfl rfl Tryd.func48 (by kernel_rfl) rfl #[.string a0,.int .i64 x1_1] rfl au1 ?_;(with_reducible refine (unit_Next.calls k1 a0 x1_1 t157 _ ?side1 A5.out).mono ?_);(case side1 => exact tabs_below HT.out au0);rintro e w8 ⟨rfl,hb⟩;refine ⟨_,rfl,?_⟩;have n0_ := Aside0.mk (below_step au0 hb);clear HB;have HB := n0_;clear n0_;(try clear hb);(try clear hb2);(try clear hk);(try clear hi)) | ((with_reducible refine gate_callee (f := 28) rfl ?_);refine goesL_ (some 16) rfl rfl Tryd.func28 (by kernel_rfl) rfl #[.string a0,.int .i64 t157] rfl au1 ?_;(with_reducible refine (cluster_Boundary.calls k1 a0 t157 true _ ?side1 A6.out).mono ?_);(case side1 => exact tabs_below HT.out au0);rintro e w9 ⟨rfl,hb⟩;refine ⟨_,rfl,?_⟩;have n0_ := Aside0.mk (below_step au0 hb);clear HB;have HB := n0_;clear n0_;(try clear hb);(try clear hb2);(try clear hk);(try clear hi)))
      go_ret
      exact ⟨au2,au0⟩
     ·replace c7 := Bool.eq_false_iff.mpr c7
      subst c7
      have H1 : (cluster_Next.l0 k1 a0 t157) = some r := by rw [if_neg (show ¬ (false = true) by decide)] at H;exact H
      clear H
      have H := H1
      clear H1
      have H' := Aside0.mk H
      clear H
      go_wp2_with (first | ((with_reducible refine gate_callee (f := 48) rfl ?_);refine goesL_ (some 13) rfl rfl Tryd.func48 (by kernel_rfl) rfl #[.string a0,.int .i64 x1_1] rfl au1 ?_;(with_reducible refine (unit_Next.calls k1 a0 x1_1 t157 _ ?side1 A5.out).mono ?_);(case side1 => exact tabs_below HT.out au0);rintro e w10 ⟨rfl,hb⟩;refine ⟨_,rfl,?_⟩;have n0_ := Aside0.mk (below_step au0 hb);clear HB;have HB := n0_;clear n0_;(try clear hb);(try clear hb2);(try clear hk);(try clear hi)) | ((with_reducible refine gate_callee (f := 28) rfl ?_);refine goesL_ (some 16) rfl rfl Tryd.func28 (by kernel_rfl) rfl #[.string a0,.int .i64 t157] rfl au1 ?_;(with_reducible refine (cluster_Boundary.calls k1 a0 t157 false _ ?side1 A6.out).mono ?_);(case side1 => exact tabs_below HT.out au0);rintro e w11 ⟨rfl,hb⟩;refine ⟨_,rfl,?_⟩;have n0_ := Aside0.mk (below_step au0 hb);clear HB;have HB := n0_;clear n0_;(try clear hb);(try clear hb2);(try clear hk);(try clear hi)))
      go_roundg k1
      case measure => have := HK1.out;omega
      case rel => exact ⟨(t157),au3,H',⟨by have := HK1.out;omega⟩,⟨au0⟩⟩
    ·rw [if_neg c4] at H
     have c4b0 : decide (x1_1 < (a0.size : Int)) = false := decide_eq_false c4
     clear c4
     obtain rfl := Option.some.inj H
     go_wp2
     go_ret
     exact ⟨au2,au0⟩
end Go.Proofs.YtkficbgnjpekaaaDoor.U
end
section
namespace Go.Proofs.YtkficbgnjpekaaaDoor.U
open Go.RowKit Go.Shelf Go.Proofs.YtkficbgnjpekaaaDoorW.PrintWords Go.Proofs.YtkficbgnjpekaaaDoorW.PrintLast Go.Proofs.YtkficbgnjpekaaaDoorW.PrintMore
set_option linter.unusedVariables false
set_option linter.unusedSimpArgs false
def outTab : List Int := [171,180,182,185,187,191,215,215,247,247,8192,8203,8206,8303,11776,11903,12288,12292,12296,12320,12336,12336,65072,65135,65281,65295,65306,65312]
def outIn (c : Int) : List Int → Bool
 | a :: b :: l => (decide (a ≤ c) && decide (c ≤ b)) || outIn c l
 | _ => false
def outB (c : Int) : Bool := outIn c outTab
def word_outside.f (a0 : Int) : Option Bool := some (outB a0)
def outCells : Array Value := (outTab.map (Value.int .i32)).toArray
def outZero : Array Value := Array.replicate 28 (.int .i32 0)
theorem outCells_at (j : Nat) (x : Int) (h : outTab[j]? = some x) : outCells[j]? = some (.int .i32 x) := by
 unfold outCells;simp [h]
theorem outIn_step (c : Int) (j : Nat) (a b : Int) (ha : outTab[2 * j]? = some a) (hb : outTab[2 * j + 1]? = some b) : outIn c (outTab.drop (2 * j)) = ((decide (a ≤ c) && decide (c ≤ b)) || outIn c (outTab.drop (2 * (j + 1)))) := by
 obtain ⟨h1,e1⟩ := List.getElem?_eq_some_iff.1 ha
 obtain ⟨h2,e2⟩ := List.getElem?_eq_some_iff.1 hb
 rw [List.drop_eq_getElem_cons h1,List.drop_eq_getElem_cons h2,e1,e2,outIn,show 2 * j + 1 + 1 = 2 * (j + 1) by omega]
theorem outTab_len : outTab.length = 28 := rfl
set_option maxRecDepth 100000 in
set_option maxHeartbeats 4000000 in
theorem word_outside.calls (a0 : Int) (r : Bool) (w : World) (h : word_outside.f a0 = some r) :
  Calls Tryd.prog 38 #[.int .i32 a0] w fun e w' => e = .returned (.bool r) ∧ Below w.heap.size w w' := by
 obtain rfl := Option.some.inj h
 obtain ⟨G,hG⟩ : ∃ G,outB a0 = G := ⟨_,rfl⟩
 rw [hG]
 clear h
 have hG2 : Hid (outIn a0 (outTab.drop (2 * 0)) = G) := Lib.hid hG
 clear hG
 have hu := Tryd.underlying75
 have hz := Tryd.sizeOf21
 go_enter Tryd.func38,Tryd.ntmps38
 go_upto_region 1 with (fail)
 rename_i K0 hK0
 apply wp_region_lit
 refine wpList_buildFlatArrTo rfl 75 21 28 _ rfl .i32 outTab (some 5) rfl (by kernel_rfl) (by kernel_rfl) (by kernel_rfl) (by kernel_rfl) ?_
 refine Go.Great.wpList_allocTo rfl (some 3) rfl (.pointer (some ⟨w.heap.size,0,none⟩)) (.cells outZero 75) (by kernel_rfl) ?_
 refine wpList_store_rowTo rfl 75 _ _ rfl rfl w.heap.size outCells rfl rfl 75 outZero (heap_alloc_new w _) (by kernel_rfl) (by kernel_rfl) (by kernel_rfl) ?_
 rw [show (w.alloc (.cells outZero 75)).setRow w.heap.size outCells = w.alloc (.cells outCells 75) from World.setRow_alloc_new _ _ _ _]
 apply wpList_nil
 refine hK0 _ _ ?_
 clear hK0 K0
 have hcell : ∀ (j : Nat) (x : Int),outTab[j]? = some x → (w.alloc (.cells outCells 75)).cell? ⟨w.heap.size,j,none⟩ = some (.int .i32 x) := fun j x hx => by rw [World.cell?_alloc_at _ _ _ _ rfl];exact outCells_at j x hx
 have hB : Below w.heap.size w (w.alloc (.cells outCells 75)) := (Below.refl _ w).alloc (Nat.le_refl _) _
 obtain ⟨W0,hW0⟩ : ∃ W0,w.alloc (.cells outCells 75) = W0 := ⟨_,rfl⟩
 rw [hW0] at hcell hB
 rw [hW0]
 clear hW0
 obtain ⟨AG,hAG⟩ : ∃ AG : Value,.agg (outTab.map (Value.int .i32)).toArray = AG := ⟨_,rfl⟩
 rw [hAG]
 clear hAG
 go_wp2
 go_loopw [4] (fun v wr => ∃ j : Nat,v = .int .i64 ((2 * j : Nat) : Int) ∧ j ≤ 14 ∧ Hid (outIn a0 (outTab.drop (2 * j)) = G) ∧ wr = W0)
  (fun v _ => (28 - intOf v).toNat)
 case atStart => exact ⟨0,rfl,by omega,hG2,rfl⟩
 case round =>
  obtain ⟨j,rfl,hj,hI,rfl⟩ := hrel
  by_cases hlt : j < 14
  ·obtain ⟨a,ha⟩ : ∃ a,outTab[2 * j]? = some a := ⟨_,List.getElem?_eq_getElem (by rw [outTab_len];omega)⟩
   obtain ⟨b,hb⟩ : ∃ b,outTab[2 * j + 1]? = some b := ⟨_,List.getElem?_eq_getElem (by rw [outTab_len];omega)⟩
   have hs := outIn_step a0 j a b ha hb
   have hca := hcell _ _ ha
   have hcb := hcell _ _ hb
   have hl1 : ((2 * j : Nat) : Int) < 28 := by omega
   have hn1 : ((2 * j : Nat) : Int).toNat = 2 * j := Int.toNat_natCast _
   have hw1 : IntKind.i64.wrap (((2 * j : Nat) : Int) + 1) = ((2 * j + 1 : Nat) : Int) := (i64_w _).trans (by unfold wrap64;omega)
   have hn2 : ((2 * j + 1 : Nat) : Int).toNat = 2 * j + 1 := Int.toNat_natCast _
   have hw2 : IntKind.i64.wrap (((2 * j : Nat) : Int) + 2) = ((2 * (j + 1) : Nat) : Int) := (i64_w _).trans (by unfold wrap64;omega)
   by_cases c1 : a ≤ a0
   ·by_cases c2 : a0 ≤ b
    ·have hG : Hid (true = G) := Lib.hid (by rw [← hI.out,hs,decide_eq_true c1,decide_eq_true c2];rfl)
     clear hI hs hcell hj hlt ha hb hu hz hG2 hw2
     go_wp2
     go_ret
     exact ⟨by obtain rfl := hG.out;rfl,hB⟩
    ·have hG : Hid (outIn a0 (outTab.drop (2 * (j + 1))) = G) := Lib.hid (by rw [← hI.out,hs,decide_eq_false c2,Bool.and_false,Bool.false_or])
     have hj2 : j + 1 ≤ 14 := by omega
     clear hI hs hcell hj hlt ha hb hu hz hG2
     go_wp2
     go_roundw
     case rel => exact ⟨j + 1,by go_num,hj2,hG,trivial⟩
     case measure => (try clear hw1);(try clear hw2);clear hn1 hn2;simp [intOf];omega
   ·have hG : Hid (outIn a0 (outTab.drop (2 * (j + 1))) = G) := Lib.hid (by rw [← hI.out,hs,decide_eq_false c1,Bool.false_and,Bool.false_or])
    have hj2 : j + 1 ≤ 14 := by omega
    clear hI hs hcell hj hlt ha hb hu hz hG2 hcb
    go_wp2
    go_roundw
    case rel => exact ⟨j + 1,by go_num,hj2,hG,trivial⟩
    case measure => (try clear hw1);(try clear hw2);clear hn1 hn2;simp [intOf];omega
  ·obtain rfl : j = 14 := by omega
   have e : outIn a0 (outTab.drop (2 * 14)) = false := rfl
   rw [e] at hI
   obtain rfl := hI.out
   go_wp2
   go_ret
   exact ⟨rfl,hB⟩
end Go.Proofs.YtkficbgnjpekaaaDoor.U
end
section
namespace Go.Proofs.YtkficbgnjpekaaaDoor.U
open Go.RowKit Go.Proofs.YtkficbgnjpekaaaDoorW.PrintWords Go.Proofs.YtkficbgnjpekaaaDoorW.PrintLast Go.Proofs.YtkficbgnjpekaaaDoorW.PrintMore
attribute [local go_sem] max2_int min2_int max_two min_two max_three min_three max_four min_four   -- for this text's walks alone
set_option linter.unusedVariables false
set_option linter.unusedSimpArgs false
mutual
def word_IsWord.j0 : Nat → Int → Bool → Option (Bool)
 | 0,_,_ => none
 | k + 1,x0,x3 => if x3 = true then (word_IsWord.j2 k x0 x3) else (if x0 ≥ 65 then (word_IsWord.j1 k x0 (decide (x0 ≤ 90))) else (word_IsWord.j1 k x0 false))
def word_IsWord.j2 : Nat → Int → Bool → Option (Bool)
 | 0,_,_ => none
 | k + 1,x0,x3 => if x3 = true then (some true) else (if x0 < 170 then (some false) else ((width_Class.f k x0).bind fun t167 => (if t167 = 3 then ((word_outside.f x0).bind fun t168 => (some (!t168))) else (if t167 = 4 then ((word_outside.f x0).bind fun t169 => (some (!t169))) else (if t167 = 0 then ((word_outside.f x0).bind fun t170 => (some (!t170))) else (some false))))))
def word_IsWord.j1 : Nat → Int → Bool → Option (Bool)
 | 0,_,_ => none
 | k + 1,x0,x3 => if x3 = true then (word_IsWord.j2 k x0 x3) else (if x0 ≥ 97 then (if x0 ≤ 122 then (word_IsWord.j2 k x0 (decide (x0 ≤ 122))) else (word_IsWord.j2 k x0 (x0 == 95))) else (word_IsWord.j2 k x0 (x0 == 95)))
end
def word_IsWord.f (k : Nat) (a0 : Int) : Option (Bool) := if a0 ≥ 48 then (word_IsWord.j0 k a0 (decide (a0 ≤ 57))) else (word_IsWord.j0 k a0 false)
set_option maxHeartbeats 8000000 in
set_option maxRecDepth 100000 in
theorem word_IsWord.calls (k : Nat) (a0 : Int) (r : Bool) (w : World) (h : word_IsWord.f k a0 = some r) :
  Calls Tryd.prog 13 #[.int .i32 a0] w fun e w' => e = .returned (.bool r) ∧ Below w.heap.size w w' := by
 have HB := Aside0.mk (Below.refl w.heap.size w)
 have H : (if a0 ≥ 48 then (word_IsWord.j0 k a0 (decide (a0 ≤ 57))) else (word_IsWord.j0 k a0 false)) = some r := h
 clear h
 have HC2 := Aside0.mk H
 clear H
 go_enter Tryd.func13,Tryd.ntmps13
 go_upto_region 1 with (fail)
 go_cut [3] (fun v3 wc => ∃ (kq : Nat) (x3_1 : Bool),v3 = .bool x3_1 ∧ Aside0 (word_IsWord.j0 kq a0 x3_1 = some r) ∧ Aside0 (kq ≤ k) ∧ Aside0 (Below w.heap.size w wc))
 case first =>
  have H := HC2.out
  clear HC2
  by_cases c3 : a0 ≥ 48
  ·rw [if_pos c3] at H
   have c3b0 : decide (48 ≤ a0) = true := decide_eq_true c3
   clear c3
   (first | rw [c3b0] | (simp only [i64_w,i32_w];rw [c3b0]) | skip)
   have H' := Aside0.mk H
   clear H
   go_wp2
   go_meet
   case rel => exact ⟨_,(decide (a0 ≤ 57)),au3,H',⟨by first | omega | exact Nat.le_refl _⟩,⟨au0⟩⟩
  ·rw [if_neg c3] at H
   have c3b0 : decide (48 ≤ a0) = false := decide_eq_false c3
   clear c3
   (first | rw [c3b0] | (simp only [i64_w,i32_w];rw [c3b0]) | skip)
   have H' := Aside0.mk H
   clear H
   go_wp2
   go_meet
   case rel => exact ⟨_,(false),au3,H',⟨by first | omega | exact Nat.le_refl _⟩,⟨au0⟩⟩
 case rest =>
  clear HC2
  try clear c1
  try clear p2
  try clear c3
  try clear c3b0
  obtain ⟨kq,x3_1,rfl,HA,HJ1,HB⟩ := hcut
  cases kq with
  | zero => exact absurd HA.out (by simp [word_IsWord.j0])
  | succ kj1 =>
   have H := HA.out
   clear HA
   simp only [word_IsWord.j0] at H
   have HC4 := Aside0.mk H
   clear H
   go_upto_if 3 with (fail)
   go_cut [3] (fun v3 wc => ∃ (kq : Nat) (x3_3 : Bool),v3 = .bool x3_3 ∧ Aside0 (word_IsWord.j2 kq a0 x3_3 = some r) ∧ Aside0 (kq ≤ kj1) ∧ Aside0 (Below w.heap.size w wc))
   case first =>
    have H := HC4.out
    clear HC4
    by_cases c5 : x3_1 = true
    ·subst c5
     have H1 : (word_IsWord.j2 kj1 a0 true) = some r := by rw [if_pos rfl] at H;exact H
     clear H
     have H := H1
     clear H1
     have H' := Aside0.mk H
     clear H
     go_wp2
     go_meet
     case rel => exact ⟨_,(true),au3,H',⟨by have := HJ1.out;first | omega | exact Nat.le_refl _⟩,⟨au0⟩⟩
    ·replace c5 := Bool.eq_false_iff.mpr c5
     subst c5
     have H1 : (if a0 ≥ 65 then (word_IsWord.j1 kj1 a0 (decide (a0 ≤ 90))) else (word_IsWord.j1 kj1 a0 false)) = some r := by rw [if_neg (show ¬ (false = true) by decide)] at H;exact H
     clear H
     have H := H1
     clear H1
     have HC6 := Aside0.mk H
     clear H
     go_upto_region 2 with (fail)
     go_cut [3] (fun v3 wc => ∃ (kq : Nat) (x3_5 : Bool),v3 = .bool x3_5 ∧ Aside0 (word_IsWord.j1 kq a0 x3_5 = some r) ∧ Aside0 (kq ≤ kj1) ∧ Aside0 (Below w.heap.size w wc))
     case first =>
      have H := HC6.out
      clear HC6
      by_cases c7 : a0 ≥ 65
      ·rw [if_pos c7] at H
       have c7b0 : decide (65 ≤ a0) = true := decide_eq_true c7
       clear c7
       (first | rw [c7b0] | (simp only [i64_w,i32_w];rw [c7b0]) | skip)
       have H' := Aside0.mk H
       clear H
       go_wp2
       go_meet
       case rel => exact ⟨_,(decide (a0 ≤ 90)),au3,H',⟨by have := HJ1.out;first | omega | exact Nat.le_refl _⟩,⟨au0⟩⟩
      ·rw [if_neg c7] at H
       have c7b0 : decide (65 ≤ a0) = false := decide_eq_false c7
       clear c7
       (first | rw [c7b0] | (simp only [i64_w,i32_w];rw [c7b0]) | skip)
       have H' := Aside0.mk H
       clear H
       go_wp2
       go_meet
       case rel => exact ⟨_,(false),au3,H',⟨by have := HJ1.out;first | omega | exact Nat.le_refl _⟩,⟨au0⟩⟩
     case rest =>
      clear HC6
      try clear c1
      try clear p2
      try clear c3
      try clear c3b0
      try clear c5
      try clear c7
      try clear c7b0
      try clear p2
      obtain ⟨kq,x3_5,rfl,HA,HJ5,HB⟩ := hcut
      cases kq with
      | zero => exact absurd HA.out (by simp [word_IsWord.j1])
      | succ kj5 =>
       have H := HA.out
       clear HA
       simp only [word_IsWord.j1] at H
       by_cases c8 : x3_5 = true
       ·subst c8
        have H1 : (word_IsWord.j2 kj5 a0 true) = some r := by rw [if_pos rfl] at H;exact H
        clear H
        have H := H1
        clear H1
        have H' := Aside0.mk H
        clear H
        go_wp2
        go_meet
        case rel => exact ⟨_,(true),au3,H',⟨by have := HJ1.out;have := HJ5.out;first | omega | exact Nat.le_refl _⟩,⟨au0⟩⟩
       ·replace c8 := Bool.eq_false_iff.mpr c8
        subst c8
        have H1 : (if a0 ≥ 97 then (if a0 ≤ 122 then (word_IsWord.j2 kj5 a0 (decide (a0 ≤ 122))) else (word_IsWord.j2 kj5 a0 (a0 == 95))) else (word_IsWord.j2 kj5 a0 (a0 == 95))) = some r := by rw [if_neg (show ¬ (false = true) by decide)] at H;exact H
        clear H
        have H := H1
        clear H1
        by_cases c9 : a0 ≥ 97
        ·rw [if_pos c9] at H
         have c9b0 : decide (97 ≤ a0) = true := decide_eq_true c9
         clear c9
         by_cases c10 : a0 ≤ 122
         ·rw [if_pos c10] at H
          have c10b0 : decide (a0 ≤ 122) = true := decide_eq_true c10
          clear c10
          have H' := Aside0.mk H
          clear H
          go_wp2
          go_meet
          case rel => exact ⟨_,(decide (a0 ≤ 122)),au3,H',⟨by have := HJ1.out;have := HJ5.out;first | omega | exact Nat.le_refl _⟩,⟨au0⟩⟩
         ·rw [if_neg c10] at H
          have c10b0 : decide (a0 ≤ 122) = false := decide_eq_false c10
          clear c10
          have H' := Aside0.mk H
          clear H
          go_wp2
          go_meet
          case rel => exact ⟨_,((a0 == 95)),au3,H',⟨by have := HJ1.out;have := HJ5.out;first | omega | exact Nat.le_refl _⟩,⟨au0⟩⟩
        ·rw [if_neg c9] at H
         have c9b0 : decide (97 ≤ a0) = false := decide_eq_false c9
         clear c9
         have H' := Aside0.mk H
         clear H
         go_wp2
         go_meet
         case rel => exact ⟨_,((a0 == 95)),au3,H',⟨by have := HJ1.out;have := HJ5.out;first | omega | exact Nat.le_refl _⟩,⟨au0⟩⟩
   case rest =>
    clear HC4
    try clear c1
    try clear p2
    try clear c3
    try clear c3b0
    try clear c5
    try clear c7
    try clear c7b0
    try clear c8
    try clear c9
    try clear c9b0
    try clear c10
    try clear c10b0
    try clear p2
    obtain ⟨kq,x3_3,rfl,HA,HJ3,HB⟩ := hcut
    cases kq with
    | zero => exact absurd HA.out (by simp [word_IsWord.j2])
    | succ kj3 =>
     have H := HA.out
     clear HA
     simp only [word_IsWord.j2] at H
     by_cases c11 : x3_3 = true
     ·subst c11
      have H1 : (some true) = some r := by rw [if_pos rfl] at H;exact H
      clear H
      have H := H1
      clear H1
      obtain rfl := Option.some.inj H
      go_wp2
      go_ret
      exact ⟨au2,au0⟩
     ·replace c11 := Bool.eq_false_iff.mpr c11
      subst c11
      have H1 : (if a0 < 170 then (some false) else ((width_Class.f kj3 a0).bind fun t167 => (if t167 = 3 then ((word_outside.f a0).bind fun t168 => (some (!t168))) else (if t167 = 4 then ((word_outside.f a0).bind fun t169 => (some (!t169))) else (if t167 = 0 then ((word_outside.f a0).bind fun t170 => (some (!t170))) else (some false)))))) = some r := by rw [if_neg (show ¬ (false = true) by decide)] at H;exact H
      clear H
      have H := H1
      clear H1
      by_cases c12 : a0 < 170
      ·rw [if_pos c12] at H
       have c12b0 : decide (a0 < 170) = true := decide_eq_true c12
       clear c12
       obtain rfl := Option.some.inj H
       go_wp2
       go_ret
       exact ⟨au2,au0⟩
      ·rw [if_neg c12] at H
       have c12b0 : decide (a0 < 170) = false := decide_eq_false c12
       clear c12
       replace H := Option.bind_eq_some_iff.mp H
       obtain ⟨t167,A130,H⟩ := H
       replace H : (if t167 = 3 then ((word_outside.f a0).bind fun t168 => (some (!t168))) else (if t167 = 4 then ((word_outside.f a0).bind fun t169 => (some (!t169))) else (if t167 = 0 then ((word_outside.f a0).bind fun t170 => (some (!t170))) else (some false)))) = some r := H
       have A13 := Aside0.mk A130
       clear A130
       by_cases c14 : t167 = 3
       ·rw [if_pos c14] at H
        have c14b0 : (t167 == 3) = true := beq_iff_eq.mpr c14
        have c14b1 : (t167 != 3) = false := bne_eq_false_iff_eq.mpr c14
        clear c14
        replace H := Option.bind_eq_some_iff.mp H
        obtain ⟨t168,A150,H⟩ := H
        replace H : (some (!t168)) = some r := H
        have A15 := Aside0.mk A150
        clear A150
        obtain rfl := Option.some.inj H
        go_wp2_with (first | ((with_reducible refine gate_callee (f := 37) rfl ?_);refine goesL_ (some 28) rfl rfl Tryd.func37 (by kernel_rfl) rfl #[.int .i32 a0] rfl au1 ?_;(with_reducible refine (width_Class.calls kj3 a0 t167 _ A13.out).mono ?_);rintro e w16 ⟨rfl,hb⟩;refine ⟨_,rfl,?_⟩;have n0_ := Aside0.mk (below_step au0 hb);clear HB;have HB := n0_;clear n0_;(try clear hb);(try clear hb2);(try clear hk);(try clear hi)) | ((with_reducible refine gate_callee (f := 38) rfl ?_);refine goesL_ (some 34) rfl rfl Tryd.func38 (by kernel_rfl) rfl #[.int .i32 a0] rfl au1 ?_;(with_reducible refine (word_outside.calls a0 t168 _ A15.out).mono ?_);rintro e w17 ⟨rfl,hb⟩;refine ⟨_,rfl,?_⟩;have n0_ := Aside0.mk (below_step au0 hb);clear HB;have HB := n0_;clear n0_;(try clear hb);(try clear hb2);(try clear hk);(try clear hi)))
        go_ret
        exact ⟨au2,au0⟩
       ·rw [if_neg c14] at H
        have c14b0 : (t167 == 3) = false := beq_eq_false_iff_ne.mpr c14
        have c14b1 : (t167 != 3) = true := bne_iff_ne.mpr c14
        by_cases c18 : t167 = 4
        ·rw [if_pos c18] at H
         have c18b0 : (t167 == 4) = true := beq_iff_eq.mpr c18
         have c18b1 : (t167 != 4) = false := bne_eq_false_iff_eq.mpr c18
         clear c18
         replace H := Option.bind_eq_some_iff.mp H
         obtain ⟨t169,A190,H⟩ := H
         replace H : (some (!t169)) = some r := H
         have A19 := Aside0.mk A190
         clear A190
         obtain rfl := Option.some.inj H
         go_wp2_with (first | ((with_reducible refine gate_callee (f := 37) rfl ?_);refine goesL_ (some 28) rfl rfl Tryd.func37 (by kernel_rfl) rfl #[.int .i32 a0] rfl au1 ?_;(with_reducible refine (width_Class.calls kj3 a0 t167 _ A13.out).mono ?_);rintro e w20 ⟨rfl,hb⟩;refine ⟨_,rfl,?_⟩;have n0_ := Aside0.mk (below_step au0 hb);clear HB;have HB := n0_;clear n0_;(try clear hb);(try clear hb2);(try clear hk);(try clear hi)) | ((with_reducible refine gate_callee (f := 38) rfl ?_);refine goesL_ (some 34) rfl rfl Tryd.func38 (by kernel_rfl) rfl #[.int .i32 a0] rfl au1 ?_;(with_reducible refine (word_outside.calls a0 t169 _ A19.out).mono ?_);rintro e w21 ⟨rfl,hb⟩;refine ⟨_,rfl,?_⟩;have n0_ := Aside0.mk (below_step au0 hb);clear HB;have HB := n0_;clear n0_;(try clear hb);(try clear hb2);(try clear hk);(try clear hi)))
         go_ret
         exact ⟨au2,au0⟩
        ·rw [if_neg c18] at H
         have c18b0 : (t167 == 4) = false := beq_eq_false_iff_ne.mpr c18
         have c18b1 : (t167 != 4) = true := bne_iff_ne.mpr c18
         by_cases c22 : t167 = 0
         ·rw [if_pos c22] at H
          have c22b0 : (t167 == 0) = true := beq_iff_eq.mpr c22
          have c22b1 : (t167 != 0) = false := bne_eq_false_iff_eq.mpr c22
          clear c22
          replace H := Option.bind_eq_some_iff.mp H
          obtain ⟨t170,A230,H⟩ := H
          replace H : (some (!t170)) = some r := H
          have A23 := Aside0.mk A230
          clear A230
          obtain rfl := Option.some.inj H
          go_wp2_with (first | ((with_reducible refine gate_callee (f := 37) rfl ?_);refine goesL_ (some 28) rfl rfl Tryd.func37 (by kernel_rfl) rfl #[.int .i32 a0] rfl au1 ?_;(with_reducible refine (width_Class.calls kj3 a0 t167 _ A13.out).mono ?_);rintro e w24 ⟨rfl,hb⟩;refine ⟨_,rfl,?_⟩;have n0_ := Aside0.mk (below_step au0 hb);clear HB;have HB := n0_;clear n0_;(try clear hb);(try clear hb2);(try clear hk);(try clear hi)) | ((with_reducible refine gate_callee (f := 38) rfl ?_);refine goesL_ (some 34) rfl rfl Tryd.func38 (by kernel_rfl) rfl #[.int .i32 a0] rfl au1 ?_;(with_reducible refine (word_outside.calls a0 t170 _ A23.out).mono ?_);rintro e w25 ⟨rfl,hb⟩;refine ⟨_,rfl,?_⟩;have n0_ := Aside0.mk (below_step au0 hb);clear HB;have HB := n0_;clear n0_;(try clear hb);(try clear hb2);(try clear hk);(try clear hi)))
          go_ret
          exact ⟨au2,au0⟩
         ·rw [if_neg c22] at H
          have c22b0 : (t167 == 0) = false := beq_eq_false_iff_ne.mpr c22
          have c22b1 : (t167 != 0) = true := bne_iff_ne.mpr c22
          obtain rfl := Option.some.inj H
          go_wp2_with (first | ((with_reducible refine gate_callee (f := 37) rfl ?_);refine goesL_ (some 28) rfl rfl Tryd.func37 (by kernel_rfl) rfl #[.int .i32 a0] rfl au1 ?_;(with_reducible refine (width_Class.calls kj3 a0 t167 _ A13.out).mono ?_);rintro e w26 ⟨rfl,hb⟩;refine ⟨_,rfl,?_⟩;have n0_ := Aside0.mk (below_step au0 hb);clear HB;have HB := n0_;clear n0_;(try clear hb);(try clear hb2);(try clear hk);(try clear hi)))
          go_ret
          exact ⟨au2,au0⟩
def width_Cells.f (k : Nat) (a0 : Int) : Option (Int) := (width_Class.f k a0).bind fun t619 => (if t619 = 1 then (some 0) else (if t619 = 4 then (some 2) else (if t619 = 2 then (if a0 ≤ 127 then (some 2) else (some 1)) else (some 1))))
set_option maxHeartbeats 8000000 in
set_option maxRecDepth 100000 in
theorem width_Cells.calls (k : Nat) (a0 : Int) (r : Int) (w : World) (h : width_Cells.f k a0 = some r) :
  Calls Tryd.prog 81 #[.int .i32 a0] w fun e w' => e = .returned (.int .i64 r) ∧ Below w.heap.size w w' := by
 have HB := Aside0.mk (Below.refl w.heap.size w)
 have H : ((width_Class.f k a0).bind fun t619 => (if t619 = 1 then (some 0) else (if t619 = 4 then (some 2) else (if t619 = 2 then (if a0 ≤ 127 then (some 2) else (some 1)) else (some 1))))) = some r := h
 clear h
 replace H := Option.bind_eq_some_iff.mp H
 obtain ⟨t619,A20,H⟩ := H
 replace H : (if t619 = 1 then (some 0) else (if t619 = 4 then (some 2) else (if t619 = 2 then (if a0 ≤ 127 then (some 2) else (some 1)) else (some 1)))) = some r := H
 have A2 := Aside0.mk A20
 clear A20
 by_cases c3 : t619 = 1
 ·rw [if_pos c3] at H
  have c3b0 : (t619 == 1) = true := beq_iff_eq.mpr c3
  have c3b1 : (t619 != 1) = false := bne_eq_false_iff_eq.mpr c3
  clear c3
  obtain rfl := Option.some.inj H
  go_enter Tryd.func81,Tryd.ntmps81
  go_wp2_with (first | ((with_reducible refine gate_callee (f := 37) rfl ?_);refine goesL_ (some 4) rfl rfl Tryd.func37 (by kernel_rfl) rfl #[.int .i32 a0] rfl au1 ?_;(with_reducible refine (width_Class.calls k a0 t619 _ A2.out).mono ?_);rintro e w4 ⟨rfl,hb⟩;refine ⟨_,rfl,?_⟩;have n0_ := Aside0.mk (below_step au0 hb);clear HB;have HB := n0_;clear n0_;(try clear hb);(try clear hb2);(try clear hk);(try clear hi)))
  go_ret
  exact ⟨au2,au0⟩
 ·rw [if_neg c3] at H
  have c3b0 : (t619 == 1) = false := beq_eq_false_iff_ne.mpr c3
  have c3b1 : (t619 != 1) = true := bne_iff_ne.mpr c3
  by_cases c5 : t619 = 4
  ·rw [if_pos c5] at H
   have c5b0 : (t619 == 4) = true := beq_iff_eq.mpr c5
   have c5b1 : (t619 != 4) = false := bne_eq_false_iff_eq.mpr c5
   clear c5
   obtain rfl := Option.some.inj H
   go_enter Tryd.func81,Tryd.ntmps81
   go_wp2_with (first | ((with_reducible refine gate_callee (f := 37) rfl ?_);refine goesL_ (some 4) rfl rfl Tryd.func37 (by kernel_rfl) rfl #[.int .i32 a0] rfl au1 ?_;(with_reducible refine (width_Class.calls k a0 t619 _ A2.out).mono ?_);rintro e w6 ⟨rfl,hb⟩;refine ⟨_,rfl,?_⟩;have n0_ := Aside0.mk (below_step au0 hb);clear HB;have HB := n0_;clear n0_;(try clear hb);(try clear hb2);(try clear hk);(try clear hi)))
   go_ret
   exact ⟨au2,au0⟩
  ·rw [if_neg c5] at H
   have c5b0 : (t619 == 4) = false := beq_eq_false_iff_ne.mpr c5
   have c5b1 : (t619 != 4) = true := bne_iff_ne.mpr c5
   by_cases c7 : t619 = 2
   ·rw [if_pos c7] at H
    have c7b0 : (t619 == 2) = true := beq_iff_eq.mpr c7
    have c7b1 : (t619 != 2) = false := bne_eq_false_iff_eq.mpr c7
    clear c7
    by_cases c8 : a0 ≤ 127
    ·rw [if_pos c8] at H
     have c8b0 : decide (a0 ≤ 127) = true := decide_eq_true c8
     clear c8
     obtain rfl := Option.some.inj H
     go_enter Tryd.func81,Tryd.ntmps81
     go_wp2_with (first | ((with_reducible refine gate_callee (f := 37) rfl ?_);refine goesL_ (some 4) rfl rfl Tryd.func37 (by kernel_rfl) rfl #[.int .i32 a0] rfl au1 ?_;(with_reducible refine (width_Class.calls k a0 t619 _ A2.out).mono ?_);rintro e w9 ⟨rfl,hb⟩;refine ⟨_,rfl,?_⟩;have n0_ := Aside0.mk (below_step au0 hb);clear HB;have HB := n0_;clear n0_;(try clear hb);(try clear hb2);(try clear hk);(try clear hi)))
     go_ret
     exact ⟨au2,au0⟩
    ·rw [if_neg c8] at H
     have c8b0 : decide (a0 ≤ 127) = false := decide_eq_false c8
     clear c8
     obtain rfl := Option.some.inj H
     go_enter Tryd.func81,Tryd.ntmps81
     go_wp2_with (first | ((with_reducible refine gate_callee (f := 37) rfl ?_);refine goesL_ (some 4) rfl rfl Tryd.func37 (by kernel_rfl) rfl #[.int .i32 a0] rfl au1 ?_;(with_reducible refine (width_Class.calls k a0 t619 _ A2.out).mono ?_);rintro e w10 ⟨rfl,hb⟩;refine ⟨_,rfl,?_⟩;have n0_ := Aside0.mk (below_step au0 hb);clear HB;have HB := n0_;clear n0_;(try clear hb);(try clear hb2);(try clear hk);(try clear hi)))
     go_ret
     exact ⟨au2,au0⟩
   ·rw [if_neg c7] at H
    have c7b0 : (t619 == 2) = false := beq_eq_false_iff_ne.mpr c7
    have c7b1 : (t619 != 2) = true := bne_iff_ne.mpr c7
    obtain rfl := Option.some.inj H
    go_enter Tryd.func81,Tryd.ntmps81
    go_wp2_with (first | ((with_reducible refine gate_callee (f := 37) rfl ?_);refine goesL_ (some 4) rfl rfl Tryd.func37 (by kernel_rfl) rfl #[.int .i32 a0] rfl au1 ?_;(with_reducible refine (width_Class.calls k a0 t619 _ A2.out).mono ?_);rintro e w11 ⟨rfl,hb⟩;refine ⟨_,rfl,?_⟩;have n0_ := Aside0.mk (below_step au0 hb);clear HB;have HB := n0_;clear n0_;(try clear hb);(try clear hb2);(try clear hk);(try clear hi)))
    go_ret
    exact ⟨au2,au0⟩
end Go.Proofs.YtkficbgnjpekaaaDoor.U
end
section
namespace Go.Proofs.YtkficbgnjpekaaaDoor.U
open Go.RowKit Go.Proofs.YtkficbgnjpekaaaDoorW.PrintWords Go.Proofs.YtkficbgnjpekaaaDoorW.PrintLast Go.Proofs.YtkficbgnjpekaaaDoorW.PrintMore
attribute [local go_sem] max2_int min2_int max_two min_two max_three min_three max_four min_four   -- for this text's walks alone
set_option linter.unusedVariables false
set_option linter.unusedSimpArgs false
def unit_Encode.l0 : Nat → List Int → List Int → Int → Int → Option (ByteArray)
 | 0,_,_,_,_ => none
 | k + 1,x3,x6,x7,x8 => if x8 < x7 then (if 0 ≤ x8 then (if x8 < (x6.length : Int) then ((utf8_ValidRune.f k (rd x6 x8)).bind fun t449 => (if t449 = true then ((utf8_AppendRune.f k x3 (rd x6 x8)).bind fun t450 => (unit_Encode.l0 k t450 x6 x7 (wrap64 (x8 + 1)))) else (unit_Encode.l0 k x3 x6 x7 (wrap64 (x8 + 1))))) else (none)) else (none)) else (some (strOfNums x3))
def unit_Encode.f (k : Nat) (l0 : List Int) : Option (ByteArray) := unit_Encode.l0 k ([] : List Int) l0 (l0.length : Int) 0
set_option maxHeartbeats 8000000 in
set_option maxRecDepth 100000 in
theorem unit_Encode.calls (k : Nat) (A0 : Option Addr) (c0 : Nat) (l0 : List Int) (r : ByteArray) (w : World) (hr0 : Kd.C (Kd.int .i32) w A0 l0.length l0) (hc0 : l0.length ≤ c0) (h : unit_Encode.f k l0 = some r) :
  Calls Tryd.prog 29 #[.slice A0 l0.length c0] w fun e w' => e = .returned (.string r) ∧ Below w.heap.size w w' := by
 have HR0 := Aside0.mk hr0
 have HC0 := Aside0.mk hc0
 clear hr0 hc0
 have HB := Aside0.mk (Below.refl w.heap.size w)
 have H : (unit_Encode.l0 k ([] : List Int) l0 (l0.length : Int) 0) = some r := h
 clear h
 have H' := Aside0.mk H
 clear H
 go_enter Tryd.func29,Tryd.ntmps29
 go_wp2
 go_loopg [3,8] k (fun kq v3 v8 w' => ∃ (x3_1 : List Int) (x8_1 : Int),v8 = .int .i64 x8_1 ∧ Aside0 (unit_Encode.l0 kq x3_1 l0 (l0.length : Int) x8_1 = some r) ∧ Aside0 (kq ≤ k) ∧ Aside0 (Kd.R (Kd.int .u8) 5 w' w.heap.size (fun _ => True) v3 x3_1) ∧ Aside0 (Below w.heap.size w w'))
 case atStart => exact ⟨(([] : List Int)),(0),au3,H',⟨Nat.le_refl _⟩,⟨by first | exact Kd.R_nil _ _ _ _ _ | exact Kd.N_nil _ _ _ _ _ | exact Kd.V_nil _ _ _ _ _ | exact Kd.Q_nil _ _ _ _ _ | exact Kd.S_nil _ _ _ _ _⟩,⟨au0⟩⟩
 case round =>
  clear H'
  obtain ⟨x3_1,x8_1,rfl,HA,HK1,HO_3,HB⟩ := hrel
  cases gk with
  | zero => exact absurd HA.out (by simp [unit_Encode.l0])
  | succ k1 =>
   have H := HA.out
   clear HA
   simp only [unit_Encode.l0] at H
   by_cases c2 : x8_1 < (l0.length : Int)
   ·rw [if_pos c2] at H
    have c2b0 : decide (x8_1 < (l0.length : Int)) = true := decide_eq_true c2
    clear c2
    by_cases c3 : 0 ≤ x8_1
    ·rw [if_pos c3] at H
     have c3b0 : decide (0 ≤ x8_1) = true := decide_eq_true c3
     clear c3
     by_cases c4 : x8_1 < (l0.length : Int)
     ·rw [if_pos c4] at H
      have c4b0 : decide (x8_1 < (l0.length : Int)) = true := decide_eq_true c4
      clear c4
      replace H := Option.bind_eq_some_iff.mp H
      obtain ⟨t449,A50,H⟩ := H
      replace H : (if t449 = true then ((utf8_AppendRune.f k1 x3_1 (rd l0 x8_1)).bind fun t450 => (unit_Encode.l0 k1 t450 l0 (l0.length : Int) (wrap64 (x8_1 + 1)))) else (unit_Encode.l0 k1 x3_1 l0 (l0.length : Int) (wrap64 (x8_1 + 1)))) = some r := H
      have A5 := Aside0.mk A50
      clear A50
      by_cases c6 : t449 = true
      ·subst c6
       have H1 : ((utf8_AppendRune.f k1 x3_1 (rd l0 x8_1)).bind fun t450 => (unit_Encode.l0 k1 t450 l0 (l0.length : Int) (wrap64 (x8_1 + 1)))) = some r := by rw [if_pos rfl] at H;exact H
       clear H
       have H := H1
       clear H1
       replace H := Option.bind_eq_some_iff.mp H
       obtain ⟨t450,A70,H⟩ := H
       replace H : (unit_Encode.l0 k1 t450 l0 (l0.length : Int) (wrap64 (x8_1 + 1))) = some r := H
       have A7 := Aside0.mk A70
       clear A70
       have H' := Aside0.mk H
       clear H
       have p448 : 0 ≤ (x8_1 : Int) := of_decide_eq_true au4
       have q448 : x8_1 < (l0.length : Int) := of_decide_eq_true au4
       obtain ⟨ad448,e448,hx448_0⟩ := Kd.at_int HR0.out x8_1 p448 q448
       cases e448
       replace hx448_0 := (HB.out.cell (World.block_lt_of_cell? w _ hx448_0)).trans hx448_0
       replace p448 := eq_true p448
       replace q448 := eq_true q448
       go_wp2_with (first | ((with_reducible refine gate_callee (f := 52) rfl ?_);refine goesL_ (some 13) rfl rfl Tryd.func52 (by kernel_rfl) rfl #[.int .i32 (rd l0 x8_1)] rfl au1 ?_;(with_reducible refine (utf8_ValidRune.calls k1 (rd l0 x8_1) true _ A5.out).mono ?_);rintro e w' ⟨rfl,⟨nd,rfl⟩⟩;refine ⟨_,rfl,?_⟩;obtain ⟨Ao8,co8,eo8⟩ := Kd.R_slice HO_3.out;subst eo8) | ((with_reducible refine gate_callee (f := 53) rfl ?_);refine goesL_ (some 16) rfl rfl Tryd.func53 (by kernel_rfl) rfl #[.slice Ao8 x3_1.length co8,.int .i32 (rd l0 x8_1)] rfl au1 ?_;(with_reducible refine (utf8_AppendRune.calls k1 (fun k_ => some k_ = (.slice Ao8 x3_1.length co8 : Value).ownBlock) (.slice Ao8 x3_1.length co8) x3_1 (rd l0 x8_1) t450 w _ ?side1 ?side2 A7.out).mono ?_);(case side1 => repeat (first | (with_reducible first | exact HB.out | apply below_alloc | apply pw_below_drewN | apply below_drew1) | exact HB.out));(case side2 => exact Kd.R_tight rfl HO_3.out);rintro e w9 ⟨v451,rfl,ho0,hb,hkp⟩;refine ⟨_,rfl,?_⟩;have n0_ := Aside0.mk (Kd.R_mono (ok' := fun k_ => True) ho0 (fun k_ hk_ => trivial));have n1_ := Aside0.mk (hb);clear HB;clear HO_3;have HO452 := n0_;have HB := n1_;clear n0_ n1_;(try clear hb);(try clear hkp);(try clear ho0)))
       go_roundg k1
       case measure => have := HK1.out;omega
       case rel => exact ⟨(t450),(wrap64 (x8_1 + 1)),au3,H',⟨by have := HK1.out;omega⟩,⟨by (with_reducible repeat (first | apply Kd.R_alloc | apply Kd.R_drewN | apply Kd.R_drew));exact HO452.out⟩,⟨au0⟩⟩
      ·replace c6 := Bool.eq_false_iff.mpr c6
       subst c6
       have H1 : (unit_Encode.l0 k1 x3_1 l0 (l0.length : Int) (wrap64 (x8_1 + 1))) = some r := by rw [if_neg (show ¬ (false = true) by decide)] at H;exact H
       clear H
       have H := H1
       clear H1
       have H' := Aside0.mk H
       clear H
       have p448 : 0 ≤ (x8_1 : Int) := of_decide_eq_true au4
       have q448 : x8_1 < (l0.length : Int) := of_decide_eq_true au4
       obtain ⟨ad448,e448,hx448_0⟩ := Kd.at_int HR0.out x8_1 p448 q448
       cases e448
       replace hx448_0 := (HB.out.cell (World.block_lt_of_cell? w _ hx448_0)).trans hx448_0
       replace p448 := eq_true p448
       replace q448 := eq_true q448
       go_wp2_with (first | ((with_reducible refine gate_callee (f := 52) rfl ?_);refine goesL_ (some 13) rfl rfl Tryd.func52 (by kernel_rfl) rfl #[.int .i32 (rd l0 x8_1)] rfl au1 ?_;(with_reducible refine (utf8_ValidRune.calls k1 (rd l0 x8_1) false _ A5.out).mono ?_);rintro e w' ⟨rfl,⟨nd,rfl⟩⟩;refine ⟨_,rfl,?_⟩))
       go_roundg k1
       case measure => have := HK1.out;omega
       case rel => exact ⟨(x3_1),(wrap64 (x8_1 + 1)),au3,H',⟨by have := HK1.out;omega⟩,⟨by (with_reducible repeat (first | apply Kd.R_alloc | apply Kd.R_drewN | apply Kd.R_drew));exact HO_3.out⟩,⟨au0⟩⟩
     ·rw [if_neg c4] at H
      exact absurd H (by simp)
    ·rw [if_neg c3] at H
     exact absurd H (by simp)
   ·rw [if_neg c2] at H
    have c2b0 : decide (x8_1 < (l0.length : Int)) = false := decide_eq_false c2
    clear c2
    obtain rfl := Option.some.inj H
    have hcv10 := own_string (P := Tryd.prog) Tryd.underlying66 Tryd.underlying5 Tryd.underlying9 (Kd.own_of_R HO_3.out)
    go_wp2
    go_ret
    exact ⟨au2,au0⟩
def stringslite_HasPrefix.f (a0 : ByteArray) (a1 : ByteArray) : Option (Bool) := if (a0.size : Int) ≥ (a1.size : Int) then (if 0 ≤ (a1.size : Int) then (if (a1.size : Int) ≤ (a0.size : Int) then (some ((a0.extract 0 ((a1.size : Int) : Int).toNat).toList == a1.toList)) else (none)) else (none)) else (some false)
set_option maxHeartbeats 8000000 in
set_option maxRecDepth 100000 in
theorem stringslite_HasPrefix.calls (a0 : ByteArray) (a1 : ByteArray) (r : Bool) (w : World) (h : stringslite_HasPrefix.f a0 a1 = some r) :
  Calls Tryd.prog 88 #[.string a0,.string a1] w fun e w' => e = .returned (.bool r) ∧ Drawn0 w w' := by
 have H : (if (a0.size : Int) ≥ (a1.size : Int) then (if 0 ≤ (a1.size : Int) then (if (a1.size : Int) ≤ (a0.size : Int) then (some ((a0.extract 0 ((a1.size : Int) : Int).toNat).toList == a1.toList)) else (none)) else (none)) else (some false)) = some r := h
 clear h
 by_cases c3 : (a0.size : Int) ≥ (a1.size : Int)
 ·rw [if_pos c3] at H
  have c3b0 : decide ((a1.size : Int) ≤ (a0.size : Int)) = true := decide_eq_true c3
  have c3b1 : decide (a1.size ≤ a0.size) = true := decide_eq_true (Int.ofNat_le.mp c3)
  clear c3
  by_cases c4 : 0 ≤ (a1.size : Int)
  ·rw [if_pos c4] at H
   have c4b0 := eq_true c4
   have c4b1 : decide (0 ≤ (a1.size : Int)) = true := decide_eq_true c4
   clear c4
   by_cases c5 : (a1.size : Int) ≤ (a0.size : Int)
   ·rw [if_pos c5] at H
    have c5b0 := eq_true c5
    have c5b1 : decide ((a1.size : Int) ≤ (a0.size : Int)) = true := decide_eq_true c5
    clear c5
    obtain rfl := Option.some.inj H
    go_enter Tryd.func88,Tryd.ntmps88
    go_wp2
    go_ret
    exact ⟨by first | rfl | (simp;done) | (simp [*];done),by repeat (first | exact Drawn0.refl _ | apply Drawn0.step)⟩
   ·rw [if_neg c5] at H
    exact absurd H (by simp)
  ·rw [if_neg c4] at H
   exact absurd H (by simp)
 ·rw [if_neg c3] at H
  have c3b0 : decide ((a1.size : Int) ≤ (a0.size : Int)) = false := decide_eq_false c3
  have c3b1 : decide (a1.size ≤ a0.size) = false := decide_eq_false (fun h => c3 (Int.ofNat_le.mpr h))
  clear c3
  obtain rfl := Option.some.inj H
  go_enter Tryd.func88,Tryd.ntmps88
  go_wp2
  go_ret
  exact ⟨by first | rfl | (simp;done) | (simp [*];done),by repeat (first | exact Drawn0.refl _ | apply Drawn0.step)⟩
def strings_HasPrefix.f (a0 : ByteArray) (a1 : ByteArray) : Option (Bool) := (stringslite_HasPrefix.f a0 a1).bind fun t620 => (some t620)
set_option maxHeartbeats 8000000 in
set_option maxRecDepth 100000 in
theorem strings_HasPrefix.calls (a0 : ByteArray) (a1 : ByteArray) (r : Bool) (w : World) (h : strings_HasPrefix.f a0 a1 = some r) :
  Calls Tryd.prog 82 #[.string a0,.string a1] w fun e w' => e = .returned (.bool r) ∧ Drawn0 w w' := by
 have H : ((stringslite_HasPrefix.f a0 a1).bind fun t620 => (some t620)) = some r := h
 clear h
 replace H := Option.bind_eq_some_iff.mp H
 obtain ⟨t620,A30,H⟩ := H
 replace H : (some t620) = some r := H
 have A3 := Aside0.mk A30
 clear A30
 obtain rfl := Option.some.inj H
 go_enter Tryd.func82,Tryd.ntmps82
 go_wp2_with (first | ((with_reducible refine gate_callee (f := 88) rfl ?_);refine goesL_ (some 7) rfl rfl Tryd.func88 (by kernel_rfl) rfl #[.string a0,.string a1] rfl au1 ?_;(with_reducible refine (stringslite_HasPrefix.calls a0 a1 t620 _ A3.out).mono ?_);rintro e w' ⟨rfl,⟨nd,rfl⟩⟩;refine ⟨_,rfl,?_⟩))
 go_ret
 exact ⟨by first | rfl | (simp;done) | (simp [*];done),by repeat (first | exact Drawn0.refl _ | apply Drawn0.step)⟩
end Go.Proofs.YtkficbgnjpekaaaDoor.U
end
