/- What the law LayoutFits reaches of this seat's own texts, merged; what nothing uses is left out. -/
import Derived.Test.YtnpjaaldppemlaaDoorZLayoutFits0
import Derived.Test.YtnpjaaldppemlaaDoorZLayoutFits1
import Derived.Test.YtnpjaaldppemlaaDoorZLayoutFits2
section
namespace Go.Proofs.YtnpjaaldppemlaaDoor.U
open Go.RowKit Go.Proofs.YtnpjaaldppemlaaDoorW.PrintWords Go.Proofs.YtnpjaaldppemlaaDoorW.PrintLast Go.Proofs.YtnpjaaldppemlaaDoorW.PrintMore
attribute [local go_sem] max2_int min2_int max_two min_two max_three min_three max_four min_four   -- for this text's walks alone
set_option linter.unusedVariables false
set_option linter.unusedSimpArgs false
mutual
def width_Class.j0 : Nat → Int → Bool → Option (Int)
 | 0,_,_ => none
 | k + 1,x0,x3 => if x3 = true then (some 5) else (if x0 = 10 then (some 1) else (if x0 < 32 then (width_Class.j1 k x0 true) else (if x0 ≥ 127 then (width_Class.j1 k x0 (decide (x0 ≤ 159))) else (width_Class.j1 k x0 false))))
def width_Class.j1 : Nat → Int → Bool → Option (Int)
 | 0,_,_ => none
 | k + 1,x0,x21 => if x21 = true then (some 2) else ((width_marks.f).bind fun t126 => ((width_within_rune.f t126 x0).bind fun t129 => (if t129 = true then (some 3) else ((width_wides.f).bind fun t130 => ((width_within_rune.f t130 x0).bind fun t133 => (if t133 = true then (some 4) else (some 0)))))))
end
def width_Class.f (k : Nat) (a0 : Int) : Option (Int) := if a0 < 0 then (width_Class.j0 k a0 true) else (if a0 > 1114111 then (width_Class.j0 k a0 true) else (if a0 ≥ 55296 then (width_Class.j0 k a0 (decide (a0 ≤ 57343))) else (width_Class.j0 k a0 false)))
theorem width_Class.mono_l : ∀ k,(∀ y0 y1,LeO (width_Class.j0 k y0 y1) (width_Class.j0 (k + 1) y0 y1)) ∧ (∀ y0 y1,LeO (width_Class.j1 k y0 y1) (width_Class.j1 (k + 1) y0 y1))
 | 0 => ⟨fun _ _ r h => by simp [width_Class.j0] at h,fun _ _ r h => by simp [width_Class.j1] at h⟩
 | k + 1 => by
  obtain ⟨ih0,ih1⟩ := width_Class.mono_l k
  refine ⟨?_,?_⟩
  ·intro y0 y1
   unfold width_Class.j0
   repeat' first
   | (with_reducible exact ih0 _ _)
   | (with_reducible exact ih1 _ _)
   | (with_reducible exact LeO.refl _)
   | (with_reducible exact LeO.none _)
   | (with_reducible refine LeO.ite ?_ ?_)
   | (with_reducible refine LeO.bind ?_ (fun _ => ?_))
   | exact ih0 _ _
   | exact ih1 _ _
   | exact LeO.none _
   | refine LeO.ite ?_ ?_
   | refine LeO.bind ?_ (fun _ => ?_)
  ·intro y0 y1
   unfold width_Class.j1
   repeat' first
   | (with_reducible exact ih0 _ _)
   | (with_reducible exact ih1 _ _)
   | (with_reducible exact LeO.refl _)
   | (with_reducible exact LeO.none _)
   | (with_reducible refine LeO.ite ?_ ?_)
   | (with_reducible refine LeO.bind ?_ (fun _ => ?_))
   | exact ih0 _ _
   | exact ih1 _ _
   | exact LeO.none _
   | refine LeO.ite ?_ ?_
   | refine LeO.bind ?_ (fun _ => ?_)
theorem width_Class.mono : ∀ a0 k,LeO (width_Class.f k a0) (width_Class.f (k + 1) a0) := by
 intro a0 k
 obtain ⟨ih0,ih1⟩ := width_Class.mono_l k
 unfold width_Class.f
 repeat' first
   | (with_reducible exact ih0 _ _)
   | (with_reducible exact ih1 _ _)
   | (with_reducible exact LeO.refl _)
   | (with_reducible exact LeO.none _)
   | (with_reducible refine LeO.ite ?_ ?_)
   | (with_reducible refine LeO.bind ?_ (fun _ => ?_))
   | exact ih0 _ _
   | exact ih1 _ _
   | exact LeO.none _
   | refine LeO.ite ?_ ?_
   | refine LeO.bind ?_ (fun _ => ?_)
set_option maxHeartbeats 8000000 in
set_option maxRecDepth 100000 in
theorem width_Class.calls (k : Nat) (a0 : Int) (r : Int) (w : World) (h : width_Class.f k a0 = some r) :
  Calls Tryd.prog 71 #[.int .i32 a0] w fun e w' => e = .returned (.int .i64 r) ∧ Below w.heap.size w w' := by
 have HB := Aside0.mk (Below.refl w.heap.size w)
 have H : (if a0 < 0 then (width_Class.j0 k a0 true) else (if a0 > 1114111 then (width_Class.j0 k a0 true) else (if a0 ≥ 55296 then (width_Class.j0 k a0 (decide (a0 ≤ 57343))) else (width_Class.j0 k a0 false)))) = some r := h
 clear h
 have HC2 := Aside0.mk H
 clear H
 go_enter Tryd.func71,Tryd.ntmps71
 go_upto_region 1 with (fail)
 go_cut [3] (fun v3 wc => ∃ (kq : Nat) (x3_1 : Bool),v3 = .bool x3_1 ∧ Aside0 (width_Class.j0 kq a0 x3_1 = some r) ∧ Aside0 (kq ≤ k) ∧ Aside0 (Below w.heap.size w wc))
 case first =>
  have H := HC2.out
  clear HC2
  by_cases c3 : a0 < 0
  ·rw [if_pos c3] at H
   have c3b0 : decide (a0 < 0) = true := decide_eq_true c3
   clear c3
   (first | rw [c3b0] | (simp only [i64_w,i32_w];rw [c3b0]) | skip)
   have H' := Aside0.mk H
   clear H
   go_wp2
   go_meet
   case rel => exact ⟨_,(true),au15,H',⟨by first | omega | exact Nat.le_refl _⟩,⟨au0⟩⟩
  ·rw [if_neg c3] at H
   have c3b0 : decide (a0 < 0) = false := decide_eq_false c3
   clear c3
   (first | rw [c3b0] | (simp only [i64_w,i32_w];rw [c3b0]) | skip)
   by_cases c4 : a0 > 1114111
   ·rw [if_pos c4] at H
    have c4b0 : decide (1114111 < a0) = true := decide_eq_true c4
    clear c4
    have H' := Aside0.mk H
    clear H
    go_wp2
    go_meet
    case rel => exact ⟨_,(true),au15,H',⟨by first | omega | exact Nat.le_refl _⟩,⟨au0⟩⟩
   ·rw [if_neg c4] at H
    have c4b0 : decide (1114111 < a0) = false := decide_eq_false c4
    clear c4
    by_cases c5 : a0 ≥ 55296
    ·rw [if_pos c5] at H
     have c5b0 : decide (55296 ≤ a0) = true := decide_eq_true c5
     clear c5
     have H' := Aside0.mk H
     clear H
     go_wp2
     go_meet
     case rel => exact ⟨_,(decide (a0 ≤ 57343)),au15,H',⟨by first | omega | exact Nat.le_refl _⟩,⟨au0⟩⟩
    ·rw [if_neg c5] at H
     have c5b0 : decide (55296 ≤ a0) = false := decide_eq_false c5
     clear c5
     have H' := Aside0.mk H
     clear H
     go_wp2
     go_meet
     case rel => exact ⟨_,(false),au15,H',⟨by first | omega | exact Nat.le_refl _⟩,⟨au0⟩⟩
 case rest =>
  clear HC2
  try clear p2
  try clear c3
  try clear c3b0
  try clear c4
  try clear c4b0
  try clear c5
  try clear c5b0
  obtain ⟨kq,x3_1,rfl,HA,HJ1,HB⟩ := hcut
  cases kq with
  | zero => exact absurd HA.out (by simp [width_Class.j0])
  | succ kj1 =>
   have H := HA.out
   clear HA
   simp only [width_Class.j0] at H
   by_cases c6 : x3_1 = true
   ·subst c6
    have H1 : (some 5) = some r := by rw [if_pos rfl] at H;exact H
    clear H
    have H := H1
    clear H1
    obtain rfl := Option.some.inj H
    go_wp2
    go_ret
    exact ⟨au2,au0⟩
   ·replace c6 := Bool.eq_false_iff.mpr c6
    subst c6
    have H1 : (if a0 = 10 then (some 1) else (if a0 < 32 then (width_Class.j1 kj1 a0 true) else (if a0 ≥ 127 then (width_Class.j1 kj1 a0 (decide (a0 ≤ 159))) else (width_Class.j1 kj1 a0 false)))) = some r := by rw [if_neg (show ¬ (false = true) by decide)] at H;exact H
    clear H
    have H := H1
    clear H1
    by_cases c7 : a0 = 10
    ·rw [if_pos c7] at H
     have c7b0 : (a0 == 10) = true := beq_iff_eq.mpr c7
     have c7b1 : (a0 != 10) = false := bne_eq_false_iff_eq.mpr c7
     clear c7
     obtain rfl := Option.some.inj H
     go_wp2
     go_ret
     exact ⟨au2,au0⟩
    ·rw [if_neg c7] at H
     have c7b0 : (a0 == 10) = false := beq_eq_false_iff_ne.mpr c7
     have c7b1 : (a0 != 10) = true := bne_iff_ne.mpr c7
     have HC8 := Aside0.mk H
     clear H
     go_upto_region 5 with (fail)
     go_cut [21] (fun v21 wc => ∃ (kq : Nat) (x21_7 : Bool),v21 = .bool x21_7 ∧ Aside0 (width_Class.j1 kq a0 x21_7 = some r) ∧ Aside0 (kq ≤ kj1) ∧ Aside0 (Below w.heap.size w wc))
     case first =>
      have H := HC8.out
      clear HC8
      by_cases c9 : a0 < 32
      ·rw [if_pos c9] at H
       have c9b0 : decide (a0 < 32) = true := decide_eq_true c9
       clear c9
       (first | rw [c9b0] | (simp only [i64_w,i32_w];rw [c9b0]) | skip)
       have H' := Aside0.mk H
       clear H
       go_wp2
       go_meet
       case rel => exact ⟨_,(true),au15,H',⟨by have := HJ1.out;first | omega | exact Nat.le_refl _⟩,⟨au0⟩⟩
      ·rw [if_neg c9] at H
       have c9b0 : decide (a0 < 32) = false := decide_eq_false c9
       clear c9
       (first | rw [c9b0] | (simp only [i64_w,i32_w];rw [c9b0]) | skip)
       by_cases c10 : a0 ≥ 127
       ·rw [if_pos c10] at H
        have c10b0 : decide (127 ≤ a0) = true := decide_eq_true c10
        clear c10
        have H' := Aside0.mk H
        clear H
        go_wp2
        go_meet
        case rel => exact ⟨_,(decide (a0 ≤ 159)),au15,H',⟨by have := HJ1.out;first | omega | exact Nat.le_refl _⟩,⟨au0⟩⟩
       ·rw [if_neg c10] at H
        have c10b0 : decide (127 ≤ a0) = false := decide_eq_false c10
        clear c10
        have H' := Aside0.mk H
        clear H
        go_wp2
        go_meet
        case rel => exact ⟨_,(false),au15,H',⟨by have := HJ1.out;first | omega | exact Nat.le_refl _⟩,⟨au0⟩⟩
     case rest =>
      clear HC8
      try clear c1
      try clear p2
      try clear c3
      try clear c3b0
      try clear c4
      try clear c4b0
      try clear c5
      try clear c5b0
      try clear c6
      try clear c7
      try clear c7b0
      try clear c7b1
      try clear c9
      try clear c9b0
      try clear c10
      try clear c10b0
      try clear p2
      obtain ⟨kq,x21_7,rfl,HA,HJ7,HB⟩ := hcut
      cases kq with
      | zero => exact absurd HA.out (by simp [width_Class.j1])
      | succ kj7 =>
       have H := HA.out
       clear HA
       simp only [width_Class.j1] at H
       by_cases c11 : x21_7 = true
       ·subst c11
        have H1 : (some 2) = some r := by rw [if_pos rfl] at H;exact H
        clear H
        have H := H1
        clear H1
        obtain rfl := Option.some.inj H
        go_wp2
        go_ret
        exact ⟨au2,au0⟩
       ·replace c11 := Bool.eq_false_iff.mpr c11
        subst c11
        have H1 : ((width_marks.f).bind fun t126 => ((width_within_rune.f t126 a0).bind fun t129 => (if t129 = true then (some 3) else ((width_wides.f).bind fun t130 => ((width_within_rune.f t130 a0).bind fun t133 => (if t133 = true then (some 4) else (some 0))))))) = some r := by rw [if_neg (show ¬ (false = true) by decide)] at H;exact H
        clear H
        have H := H1
        clear H1
        replace H := Option.bind_eq_some_iff.mp H
        obtain ⟨t126,A120,H⟩ := H
        replace H : ((width_within_rune.f t126 a0).bind fun t129 => (if t129 = true then (some 3) else ((width_wides.f).bind fun t130 => ((width_within_rune.f t130 a0).bind fun t133 => (if t133 = true then (some 4) else (some 0)))))) = some r := H
        have A12 := Aside0.mk A120
        clear A120
        replace H := Option.bind_eq_some_iff.mp H
        obtain ⟨t129,A130,H⟩ := H
        replace H : (if t129 = true then (some 3) else ((width_wides.f).bind fun t130 => ((width_within_rune.f t130 a0).bind fun t133 => (if t133 = true then (some 4) else (some 0))))) = some r := H
        have A13 := Aside0.mk A130
        clear A130
        by_cases c14 : t129 = true
        ·subst c14
         have H1 : (some 3) = some r := by rw [if_pos rfl] at H;exact H
         clear H
         have H := H1
         clear H1
         obtain rfl := Option.some.inj H
         go_wp2_with (first | ((with_reducible refine gate_callee (f := 85) rfl ?_);refine goesL_ (some 33) rfl rfl Tryd.func85 (by kernel_rfl) rfl #[] rfl au1 ?_;(with_reducible refine (width_marks.calls  t126 _ A12.out).mono ?_);rintro e w15 ⟨v127,rfl,ho0,hb⟩;refine ⟨_,rfl,?_⟩;have n0_ := Aside0.mk (Kd.R_lower ho0 (below_size au0));have n1_ := Aside0.mk (below_step au0 hb);clear HB;have HO128 := n0_;have HB := n1_;clear n0_ n1_;(try clear hb);(try clear hb2);(try clear hk);(try clear hi);(try clear ho0);obtain ⟨Ao16,co16,eo16⟩ := Kd.R_slice HO128.out;subst eo16) | ((with_reducible refine gate_callee (f := 84) rfl ?_);refine goesL_ (some 35) rfl rfl Tryd.func84 (by kernel_rfl) rfl #[.slice Ao16 t126.length co16,.int .i32 a0] rfl au1 ?_;(with_reducible refine (width_within_rune.calls _ _ t126 a0 true _ ?side1 ?side2 A13.out).mono ?_);(case side1 => repeat (first | exact (Kd.R_reads' HO128.out).2.2 | (with_reducible refine Kd.C_alloc ?_ _) | (with_reducible refine Kd.C_drewN ?_ _) | (with_reducible refine Kd.C_drew ?_)));(case side2 => exact (Kd.R_reads' HO128.out).2.1);rintro e w17 ⟨rfl,hb⟩;refine ⟨_,rfl,?_⟩;have n0_ := Aside0.mk (Kd.R_below au17 hb);have n1_ := Aside0.mk (below_step au0 hb);clear HO128;clear HB;have HO128 := n0_;have HB := n1_;clear n0_ n1_;(try clear hb);(try clear hb2);(try clear hk);(try clear hi)))
         go_ret
         exact ⟨au2,au0⟩
        ·replace c14 := Bool.eq_false_iff.mpr c14
         subst c14
         have H1 : ((width_wides.f).bind fun t130 => ((width_within_rune.f t130 a0).bind fun t133 => (if t133 = true then (some 4) else (some 0)))) = some r := by rw [if_neg (show ¬ (false = true) by decide)] at H;exact H
         clear H
         have H := H1
         clear H1
         replace H := Option.bind_eq_some_iff.mp H
         obtain ⟨t130,A180,H⟩ := H
         replace H : ((width_within_rune.f t130 a0).bind fun t133 => (if t133 = true then (some 4) else (some 0))) = some r := H
         have A18 := Aside0.mk A180
         clear A180
         replace H := Option.bind_eq_some_iff.mp H
         obtain ⟨t133,A190,H⟩ := H
         replace H : (if t133 = true then (some 4) else (some 0)) = some r := H
         have A19 := Aside0.mk A190
         clear A190
         by_cases c20 : t133 = true
         ·subst c20
          have H1 : (some 4) = some r := by rw [if_pos rfl] at H;exact H
          clear H
          have H := H1
          clear H1
          obtain rfl := Option.some.inj H
          go_wp2_with (first | ((with_reducible refine gate_callee (f := 85) rfl ?_);refine goesL_ (some 33) rfl rfl Tryd.func85 (by kernel_rfl) rfl #[] rfl au1 ?_;(with_reducible refine (width_marks.calls  t126 _ A12.out).mono ?_);rintro e w21 ⟨v127,rfl,ho0,hb⟩;refine ⟨_,rfl,?_⟩;have n0_ := Aside0.mk (Kd.R_lower ho0 (below_size au0));have n1_ := Aside0.mk (below_step au0 hb);clear HB;have HO128 := n0_;have HB := n1_;clear n0_ n1_;(try clear hb);(try clear hb2);(try clear hk);(try clear hi);(try clear ho0);obtain ⟨Ao22,co22,eo22⟩ := Kd.R_slice HO128.out;subst eo22) | ((with_reducible refine gate_callee (f := 84) rfl ?_);refine goesL_ (some 35) rfl rfl Tryd.func84 (by kernel_rfl) rfl #[.slice Ao22 t126.length co22,.int .i32 a0] rfl au1 ?_;(with_reducible refine (width_within_rune.calls _ _ t126 a0 false _ ?side1 ?side2 A13.out).mono ?_);(case side1 => repeat (first | exact (Kd.R_reads' HO128.out).2.2 | (with_reducible refine Kd.C_alloc ?_ _) | (with_reducible refine Kd.C_drewN ?_ _) | (with_reducible refine Kd.C_drew ?_)));(case side2 => exact (Kd.R_reads' HO128.out).2.1);rintro e w23 ⟨rfl,hb⟩;refine ⟨_,rfl,?_⟩;have n0_ := Aside0.mk (Kd.R_below au17 hb);have n1_ := Aside0.mk (below_step au0 hb);clear HO128;clear HB;have HO128 := n0_;have HB := n1_;clear n0_ n1_;(try clear hb);(try clear hb2);(try clear hk);(try clear hi)) | ((with_reducible refine gate_callee (f := 86) rfl ?_);refine goesL_ (some 37) rfl rfl Tryd.func86 (by kernel_rfl) rfl #[] rfl au1 ?_;(with_reducible refine (width_wides.calls  t130 _ A18.out).mono ?_);rintro e w24 ⟨v131,rfl,ho0,hb⟩;refine ⟨_,rfl,?_⟩;have n0_ := Aside0.mk (Kd.R_elder' au17 (Kd.R_base ho0) hb);have n1_ := Aside0.mk (Kd.R_lower (Kd.R_new' ho0 (Kd.R_lt au17)) (below_size au0));have n2_ := Aside0.mk (below_step au0 hb);clear HO128;clear HB;have HO128 := n0_;have HO132 := n1_;have HB := n2_;clear n0_ n1_ n2_;(try clear hb);(try clear hb2);(try clear hk);(try clear hi);(try clear ho0);obtain ⟨Ao25,co25,eo25⟩ := Kd.R_slice HO132.out;subst eo25) | ((with_reducible refine gate_callee (f := 84) rfl ?_);refine goesL_ (some 39) rfl rfl Tryd.func84 (by kernel_rfl) rfl #[.slice Ao25 t130.length co25,.int .i32 a0] rfl au1 ?_;(with_reducible refine (width_within_rune.calls _ _ t130 a0 true _ ?side1 ?side2 A19.out).mono ?_);(case side1 => repeat (first | exact (Kd.R_reads' HO132.out).2.2 | (with_reducible refine Kd.C_alloc ?_ _) | (with_reducible refine Kd.C_drewN ?_ _) | (with_reducible refine Kd.C_drew ?_)));(case side2 => exact (Kd.R_reads' HO132.out).2.1);rintro e w26 ⟨rfl,hb⟩;refine ⟨_,rfl,?_⟩;have n0_ := Aside0.mk (Kd.R_below au17 hb);have n1_ := Aside0.mk (Kd.R_below (by (with_reducible repeat (first | apply Kd.R_alloc | apply Kd.R_drewN | apply Kd.R_drew));exact HO132.out) hb);have n2_ := Aside0.mk (below_step au0 hb);clear HO128;clear HO132;clear HB;have HO128 := n0_;have HO132 := n1_;have HB := n2_;clear n0_ n1_ n2_;(try clear hb);(try clear hb2);(try clear hk);(try clear hi)))
          go_ret
          exact ⟨au2,au0⟩
         ·replace c20 := Bool.eq_false_iff.mpr c20
          subst c20
          have H1 : (some 0) = some r := by rw [if_neg (show ¬ (false = true) by decide)] at H;exact H
          clear H
          have H := H1
          clear H1
          obtain rfl := Option.some.inj H
          go_wp2_with (first | ((with_reducible refine gate_callee (f := 85) rfl ?_);refine goesL_ (some 33) rfl rfl Tryd.func85 (by kernel_rfl) rfl #[] rfl au1 ?_;(with_reducible refine (width_marks.calls  t126 _ A12.out).mono ?_);rintro e w27 ⟨v127,rfl,ho0,hb⟩;refine ⟨_,rfl,?_⟩;have n0_ := Aside0.mk (Kd.R_lower ho0 (below_size au0));have n1_ := Aside0.mk (below_step au0 hb);clear HB;have HO128 := n0_;have HB := n1_;clear n0_ n1_;(try clear hb);(try clear hb2);(try clear hk);(try clear hi);(try clear ho0);obtain ⟨Ao28,co28,eo28⟩ := Kd.R_slice HO128.out;subst eo28) | ((with_reducible refine gate_callee (f := 84) rfl ?_);refine goesL_ (some 35) rfl rfl Tryd.func84 (by kernel_rfl) rfl #[.slice Ao28 t126.length co28,.int .i32 a0] rfl au1 ?_;(with_reducible refine (width_within_rune.calls _ _ t126 a0 false _ ?side1 ?side2 A13.out).mono ?_);(case side1 => repeat (first | exact (Kd.R_reads' HO128.out).2.2 | (with_reducible refine Kd.C_alloc ?_ _) | (with_reducible refine Kd.C_drewN ?_ _) | (with_reducible refine Kd.C_drew ?_)));(case side2 => exact (Kd.R_reads' HO128.out).2.1);rintro e w29 ⟨rfl,hb⟩;refine ⟨_,rfl,?_⟩;have n0_ := Aside0.mk (Kd.R_below au17 hb);have n1_ := Aside0.mk (below_step au0 hb);clear HO128;clear HB;have HO128 := n0_;have HB := n1_;clear n0_ n1_;(try clear hb);(try clear hb2);(try clear hk);(try clear hi)) | ((with_reducible refine gate_callee (f := 86) rfl ?_);refine goesL_ (some 37) rfl rfl Tryd.func86 (by kernel_rfl) rfl #[] rfl au1 ?_;(with_reducible refine (width_wides.calls  t130 _ A18.out).mono ?_);rintro e w30 ⟨v131,rfl,ho0,hb⟩;refine ⟨_,rfl,?_⟩;have n0_ := Aside0.mk (Kd.R_elder' au17 (Kd.R_base ho0) hb);have n1_ := Aside0.mk (Kd.R_lower (Kd.R_new' ho0 (Kd.R_lt au17)) (below_size au0));have n2_ := Aside0.mk (below_step au0 hb);clear HO128;clear HB;have HO128 := n0_;have HO132 := n1_;have HB := n2_;clear n0_ n1_ n2_;(try clear hb);(try clear hb2);(try clear hk);(try clear hi);(try clear ho0);obtain ⟨Ao31,co31,eo31⟩ := Kd.R_slice HO132.out;subst eo31) | ((with_reducible refine gate_callee (f := 84) rfl ?_);refine goesL_ (some 39) rfl rfl Tryd.func84 (by kernel_rfl) rfl #[.slice Ao31 t130.length co31,.int .i32 a0] rfl au1 ?_;(with_reducible refine (width_within_rune.calls _ _ t130 a0 false _ ?side1 ?side2 A19.out).mono ?_);(case side1 => repeat (first | exact (Kd.R_reads' HO132.out).2.2 | (with_reducible refine Kd.C_alloc ?_ _) | (with_reducible refine Kd.C_drewN ?_ _) | (with_reducible refine Kd.C_drew ?_)));(case side2 => exact (Kd.R_reads' HO132.out).2.1);rintro e w32 ⟨rfl,hb⟩;refine ⟨_,rfl,?_⟩;have n0_ := Aside0.mk (Kd.R_below au17 hb);have n1_ := Aside0.mk (Kd.R_below (by (with_reducible repeat (first | apply Kd.R_alloc | apply Kd.R_drewN | apply Kd.R_drew));exact HO132.out) hb);have n2_ := Aside0.mk (below_step au0 hb);clear HO128;clear HO132;clear HB;have HO128 := n0_;have HO132 := n1_;have HB := n2_;clear n0_ n1_ n2_;(try clear hb);(try clear hb2);(try clear hk);(try clear hi)))
          go_ret
          exact ⟨au2,au0⟩
def width_Cells.f (k : Nat) (a0 : Int) : Option (Int) := (width_Class.f k a0).bind fun t422 => (if t422 = 1 then (some 0) else (if t422 = 4 then (some 2) else (if t422 = 2 then (if a0 ≤ 127 then (some 2) else (some 1)) else (some 1))))
set_option maxHeartbeats 8000000 in
set_option maxRecDepth 100000 in
theorem width_Cells.calls (k : Nat) (a0 : Int) (r : Int) (w : World) (h : width_Cells.f k a0 = some r) :
  Calls Tryd.prog 72 #[.int .i32 a0] w fun e w' => e = .returned (.int .i64 r) ∧ Below w.heap.size w w' := by
 have HB := Aside0.mk (Below.refl w.heap.size w)
 have H : ((width_Class.f k a0).bind fun t422 => (if t422 = 1 then (some 0) else (if t422 = 4 then (some 2) else (if t422 = 2 then (if a0 ≤ 127 then (some 2) else (some 1)) else (some 1))))) = some r := h
 clear h
 replace H := Option.bind_eq_some_iff.mp H
 obtain ⟨t422,A20,H⟩ := H
 replace H : (if t422 = 1 then (some 0) else (if t422 = 4 then (some 2) else (if t422 = 2 then (if a0 ≤ 127 then (some 2) else (some 1)) else (some 1)))) = some r := H
 have A2 := Aside0.mk A20
 clear A20
 by_cases c3 : t422 = 1
 ·rw [if_pos c3] at H
  have c3b0 : (t422 == 1) = true := beq_iff_eq.mpr c3
  have c3b1 : (t422 != 1) = false := bne_eq_false_iff_eq.mpr c3
  clear c3
  obtain rfl := Option.some.inj H
  go_enter Tryd.func72,Tryd.ntmps72
  go_wp2_with (first | ((with_reducible refine gate_callee (f := 71) rfl ?_);refine goesL_ (some 4) rfl rfl Tryd.func71 (by kernel_rfl) rfl #[.int .i32 a0] rfl au1 ?_;(with_reducible refine (width_Class.calls k a0 t422 _ A2.out).mono ?_);rintro e w4 ⟨rfl,hb⟩;refine ⟨_,rfl,?_⟩;have n0_ := Aside0.mk (below_step au0 hb);clear HB;have HB := n0_;clear n0_;(try clear hb);(try clear hb2);(try clear hk);(try clear hi)))
  go_ret
  exact ⟨au2,au0⟩
 ·rw [if_neg c3] at H
  have c3b0 : (t422 == 1) = false := beq_eq_false_iff_ne.mpr c3
  have c3b1 : (t422 != 1) = true := bne_iff_ne.mpr c3
  by_cases c5 : t422 = 4
  ·rw [if_pos c5] at H
   have c5b0 : (t422 == 4) = true := beq_iff_eq.mpr c5
   have c5b1 : (t422 != 4) = false := bne_eq_false_iff_eq.mpr c5
   clear c5
   obtain rfl := Option.some.inj H
   go_enter Tryd.func72,Tryd.ntmps72
   go_wp2_with (first | ((with_reducible refine gate_callee (f := 71) rfl ?_);refine goesL_ (some 4) rfl rfl Tryd.func71 (by kernel_rfl) rfl #[.int .i32 a0] rfl au1 ?_;(with_reducible refine (width_Class.calls k a0 t422 _ A2.out).mono ?_);rintro e w6 ⟨rfl,hb⟩;refine ⟨_,rfl,?_⟩;have n0_ := Aside0.mk (below_step au0 hb);clear HB;have HB := n0_;clear n0_;(try clear hb);(try clear hb2);(try clear hk);(try clear hi)))
   go_ret
   exact ⟨au2,au0⟩
  ·rw [if_neg c5] at H
   have c5b0 : (t422 == 4) = false := beq_eq_false_iff_ne.mpr c5
   have c5b1 : (t422 != 4) = true := bne_iff_ne.mpr c5
   by_cases c7 : t422 = 2
   ·rw [if_pos c7] at H
    have c7b0 : (t422 == 2) = true := beq_iff_eq.mpr c7
    have c7b1 : (t422 != 2) = false := bne_eq_false_iff_eq.mpr c7
    clear c7
    by_cases c8 : a0 ≤ 127
    ·rw [if_pos c8] at H
     have c8b0 : decide (a0 ≤ 127) = true := decide_eq_true c8
     clear c8
     obtain rfl := Option.some.inj H
     go_enter Tryd.func72,Tryd.ntmps72
     go_wp2_with (first | ((with_reducible refine gate_callee (f := 71) rfl ?_);refine goesL_ (some 4) rfl rfl Tryd.func71 (by kernel_rfl) rfl #[.int .i32 a0] rfl au1 ?_;(with_reducible refine (width_Class.calls k a0 t422 _ A2.out).mono ?_);rintro e w9 ⟨rfl,hb⟩;refine ⟨_,rfl,?_⟩;have n0_ := Aside0.mk (below_step au0 hb);clear HB;have HB := n0_;clear n0_;(try clear hb);(try clear hb2);(try clear hk);(try clear hi)))
     go_ret
     exact ⟨au2,au0⟩
    ·rw [if_neg c8] at H
     have c8b0 : decide (a0 ≤ 127) = false := decide_eq_false c8
     clear c8
     obtain rfl := Option.some.inj H
     go_enter Tryd.func72,Tryd.ntmps72
     go_wp2_with (first | ((with_reducible refine gate_callee (f := 71) rfl ?_);refine goesL_ (some 4) rfl rfl Tryd.func71 (by kernel_rfl) rfl #[.int .i32 a0] rfl au1 ?_;(with_reducible refine (width_Class.calls k a0 t422 _ A2.out).mono ?_);rintro e w10 ⟨rfl,hb⟩;refine ⟨_,rfl,?_⟩;have n0_ := Aside0.mk (below_step au0 hb);clear HB;have HB := n0_;clear n0_;(try clear hb);(try clear hb2);(try clear hk);(try clear hi)))
     go_ret
     exact ⟨au2,au0⟩
   ·rw [if_neg c7] at H
    have c7b0 : (t422 == 2) = false := beq_eq_false_iff_ne.mpr c7
    have c7b1 : (t422 != 2) = true := bne_iff_ne.mpr c7
    obtain rfl := Option.some.inj H
    go_enter Tryd.func72,Tryd.ntmps72
    go_wp2_with (first | ((with_reducible refine gate_callee (f := 71) rfl ?_);refine goesL_ (some 4) rfl rfl Tryd.func71 (by kernel_rfl) rfl #[.int .i32 a0] rfl au1 ?_;(with_reducible refine (width_Class.calls k a0 t422 _ A2.out).mono ?_);rintro e w11 ⟨rfl,hb⟩;refine ⟨_,rfl,?_⟩;have n0_ := Aside0.mk (below_step au0 hb);clear HB;have HB := n0_;clear n0_;(try clear hb);(try clear hb2);(try clear hk);(try clear hi)))
    go_ret
    exact ⟨au2,au0⟩
end Go.Proofs.YtnpjaaldppemlaaDoor.U
end
section
namespace Go.Proofs.YtnpjaaldppemlaaDoor.U
open Go.RowKit Go.Proofs.YtnpjaaldppemlaaDoorW.PrintWords Go.Proofs.YtnpjaaldppemlaaDoorW.PrintLast Go.Proofs.YtnpjaaldppemlaaDoorW.PrintMore
attribute [local go_sem] max2_int min2_int max_two min_two max_three min_three max_four min_four   -- for this text's walks alone
set_option linter.unusedVariables false
set_option linter.unusedSimpArgs false
def cluster_glued.j0 : Nat → Int → Int → Bool → Option (Bool)
 | 0,_,_,_ => none
 | k + 1,x0,x1,x11 => if x11 = true then (some true) else ((width_Class.f k x0).bind fun t134 => ((width_Class.f k x1).bind fun t135 => (if t135 = 3 then (if t134 = 1 then (some false) else (some (t134 != 2))) else (some false))))
def cluster_glued.f (k : Nat) (a0 : Int) (a1 : Int) : Option (Bool) := if a0 = 13 then (cluster_glued.j0 k a0 a1 (a1 == 10)) else (cluster_glued.j0 k a0 a1 false)
theorem cluster_glued.mono_l : ∀ k,(∀ y0 y1 y2,LeO (cluster_glued.j0 k y0 y1 y2) (cluster_glued.j0 (k + 1) y0 y1 y2))
 | 0 => fun _ _ _ r h => by simp [cluster_glued.j0] at h
 | k + 1 => by
  have ih0 := cluster_glued.mono_l k
  ·intro y0 y1 y2
   unfold cluster_glued.j0
   repeat' first
   | (with_reducible exact ih0 _ _ _)
   | (with_reducible exact width_Class.mono _ _)
   | (with_reducible exact LeO.refl _)
   | (with_reducible exact LeO.none _)
   | (with_reducible refine LeO.ite ?_ ?_)
   | (with_reducible refine LeO.bind ?_ (fun _ => ?_))
   | exact ih0 _ _ _
   | exact width_Class.mono _ _
   | exact LeO.none _
   | refine LeO.ite ?_ ?_
   | refine LeO.bind ?_ (fun _ => ?_)
theorem cluster_glued.mono : ∀ a0 a1 k,LeO (cluster_glued.f k a0 a1) (cluster_glued.f (k + 1) a0 a1) := by
 intro a0 a1 k
 have ih0 := cluster_glued.mono_l k
 unfold cluster_glued.f
 repeat' first
   | (with_reducible exact ih0 _ _ _)
   | (with_reducible exact width_Class.mono _ _)
   | (with_reducible exact LeO.refl _)
   | (with_reducible exact LeO.none _)
   | (with_reducible refine LeO.ite ?_ ?_)
   | (with_reducible refine LeO.bind ?_ (fun _ => ?_))
   | exact ih0 _ _ _
   | exact width_Class.mono _ _
   | exact LeO.none _
   | refine LeO.ite ?_ ?_
   | refine LeO.bind ?_ (fun _ => ?_)
set_option maxHeartbeats 8000000 in
set_option maxRecDepth 100000 in
theorem cluster_glued.calls (k : Nat) (a0 : Int) (a1 : Int) (r : Bool) (w : World) (h : cluster_glued.f k a0 a1 = some r) :
  Calls Tryd.prog 63 #[.int .i32 a0,.int .i32 a1] w fun e w' => e = .returned (.bool r) ∧ Below w.heap.size w w' := by
 have HB := Aside0.mk (Below.refl w.heap.size w)
 have H : (if a0 = 13 then (cluster_glued.j0 k a0 a1 (a1 == 10)) else (cluster_glued.j0 k a0 a1 false)) = some r := h
 clear h
 have HC3 := Aside0.mk H
 clear H
 go_enter Tryd.func63,Tryd.ntmps63
 go_upto_region 1 with (fail)
 go_cut [11] (fun v11 wc => ∃ (kq : Nat) (x11_2 : Bool),v11 = .bool x11_2 ∧ Aside0 (cluster_glued.j0 kq a0 a1 x11_2 = some r) ∧ Aside0 (kq ≤ k) ∧ Aside0 (Below w.heap.size w wc))
 case first =>
  have H := HC3.out
  clear HC3
  by_cases c4 : a0 = 13
  ·rw [if_pos c4] at H
   have c4b0 : (a0 == 13) = true := beq_iff_eq.mpr c4
   have c4b1 : (a0 != 13) = false := bne_eq_false_iff_eq.mpr c4
   clear c4
   (first | rw [c4b0] | (simp only [i64_w,i32_w];rw [c4b0]) | skip)
   have H' := Aside0.mk H
   clear H
   go_wp2
   go_meet
   case rel => exact ⟨_,((a1 == 10)),au15,H',⟨by first | omega | exact Nat.le_refl _⟩,⟨au0⟩⟩
  ·rw [if_neg c4] at H
   have c4b0 : (a0 == 13) = false := beq_eq_false_iff_ne.mpr c4
   have c4b1 : (a0 != 13) = true := bne_iff_ne.mpr c4
   (first | rw [c4b0] | (simp only [i64_w,i32_w];rw [c4b0]) | skip)
   have H' := Aside0.mk H
   clear H
   go_wp2
   go_meet
   case rel => exact ⟨_,(false),au15,H',⟨by first | omega | exact Nat.le_refl _⟩,⟨au0⟩⟩
 case rest =>
  clear HC3
  try clear p2
  try clear c4
  try clear c4b0
  try clear c4b1
  obtain ⟨kq,x11_2,rfl,HA,HJ2,HB⟩ := hcut
  cases kq with
  | zero => exact absurd HA.out (by simp [cluster_glued.j0])
  | succ kj2 =>
   have H := HA.out
   clear HA
   simp only [cluster_glued.j0] at H
   by_cases c5 : x11_2 = true
   ·subst c5
    have H1 : (some true) = some r := by rw [if_pos rfl] at H;exact H
    clear H
    have H := H1
    clear H1
    obtain rfl := Option.some.inj H
    go_wp2
    go_ret
    exact ⟨au2,au0⟩
   ·replace c5 := Bool.eq_false_iff.mpr c5
    subst c5
    have H1 : ((width_Class.f kj2 a0).bind fun t134 => ((width_Class.f kj2 a1).bind fun t135 => (if t135 = 3 then (if t134 = 1 then (some false) else (some (t134 != 2))) else (some false)))) = some r := by rw [if_neg (show ¬ (false = true) by decide)] at H;exact H
    clear H
    have H := H1
    clear H1
    replace H := Option.bind_eq_some_iff.mp H
    obtain ⟨t134,A60,H⟩ := H
    replace H : ((width_Class.f kj2 a1).bind fun t135 => (if t135 = 3 then (if t134 = 1 then (some false) else (some (t134 != 2))) else (some false))) = some r := H
    have A6 := Aside0.mk A60
    clear A60
    replace H := Option.bind_eq_some_iff.mp H
    obtain ⟨t135,A70,H⟩ := H
    replace H : (if t135 = 3 then (if t134 = 1 then (some false) else (some (t134 != 2))) else (some false)) = some r := H
    have A7 := Aside0.mk A70
    clear A70
    by_cases c8 : t135 = 3
    ·rw [if_pos c8] at H
     have c8b0 : (t135 == 3) = true := beq_iff_eq.mpr c8
     have c8b1 : (t135 != 3) = false := bne_eq_false_iff_eq.mpr c8
     clear c8
     by_cases c9 : t134 = 1
     ·rw [if_pos c9] at H
      have c9b0 : (t134 == 1) = true := beq_iff_eq.mpr c9
      have c9b1 : (t134 != 1) = false := bne_eq_false_iff_eq.mpr c9
      clear c9
      obtain rfl := Option.some.inj H
      go_wp2_with (first | ((with_reducible refine gate_callee (f := 71) rfl ?_);refine goesL_ (some 13) rfl rfl Tryd.func71 (by kernel_rfl) rfl #[.int .i32 a0] rfl au1 ?_;(with_reducible refine (width_Class.calls kj2 a0 t134 _ A6.out).mono ?_);rintro e w10 ⟨rfl,hb⟩;refine ⟨_,rfl,?_⟩;have n0_ := Aside0.mk (below_step au0 hb);clear HB;have HB := n0_;clear n0_;(try clear hb);(try clear hb2);(try clear hk);(try clear hi)) | ((with_reducible refine gate_callee (f := 71) rfl ?_);refine goesL_ (some 15) rfl rfl Tryd.func71 (by kernel_rfl) rfl #[.int .i32 a1] rfl au1 ?_;(with_reducible refine (width_Class.calls kj2 a1 t135 _ A7.out).mono ?_);rintro e w11 ⟨rfl,hb⟩;refine ⟨_,rfl,?_⟩;have n0_ := Aside0.mk (below_step au0 hb);clear HB;have HB := n0_;clear n0_;(try clear hb);(try clear hb2);(try clear hk);(try clear hi)))
      go_ret
      exact ⟨au2,au0⟩
     ·rw [if_neg c9] at H
      have c9b0 : (t134 == 1) = false := beq_eq_false_iff_ne.mpr c9
      have c9b1 : (t134 != 1) = true := bne_iff_ne.mpr c9
      obtain rfl := Option.some.inj H
      go_wp2_with (first | ((with_reducible refine gate_callee (f := 71) rfl ?_);refine goesL_ (some 13) rfl rfl Tryd.func71 (by kernel_rfl) rfl #[.int .i32 a0] rfl au1 ?_;(with_reducible refine (width_Class.calls kj2 a0 t134 _ A6.out).mono ?_);rintro e w12 ⟨rfl,hb⟩;refine ⟨_,rfl,?_⟩;have n0_ := Aside0.mk (below_step au0 hb);clear HB;have HB := n0_;clear n0_;(try clear hb);(try clear hb2);(try clear hk);(try clear hi)) | ((with_reducible refine gate_callee (f := 71) rfl ?_);refine goesL_ (some 15) rfl rfl Tryd.func71 (by kernel_rfl) rfl #[.int .i32 a1] rfl au1 ?_;(with_reducible refine (width_Class.calls kj2 a1 t135 _ A7.out).mono ?_);rintro e w13 ⟨rfl,hb⟩;refine ⟨_,rfl,?_⟩;have n0_ := Aside0.mk (below_step au0 hb);clear HB;have HB := n0_;clear n0_;(try clear hb);(try clear hb2);(try clear hk);(try clear hi)))
      go_ret
      exact ⟨au2,au0⟩
    ·rw [if_neg c8] at H
     have c8b0 : (t135 == 3) = false := beq_eq_false_iff_ne.mpr c8
     have c8b1 : (t135 != 3) = true := bne_iff_ne.mpr c8
     obtain rfl := Option.some.inj H
     go_wp2_with (first | ((with_reducible refine gate_callee (f := 71) rfl ?_);refine goesL_ (some 13) rfl rfl Tryd.func71 (by kernel_rfl) rfl #[.int .i32 a0] rfl au1 ?_;(with_reducible refine (width_Class.calls kj2 a0 t134 _ A6.out).mono ?_);rintro e w14 ⟨rfl,hb⟩;refine ⟨_,rfl,?_⟩;have n0_ := Aside0.mk (below_step au0 hb);clear HB;have HB := n0_;clear n0_;(try clear hb);(try clear hb2);(try clear hk);(try clear hi)) | ((with_reducible refine gate_callee (f := 71) rfl ?_);refine goesL_ (some 15) rfl rfl Tryd.func71 (by kernel_rfl) rfl #[.int .i32 a1] rfl au1 ?_;(with_reducible refine (width_Class.calls kj2 a1 t135 _ A7.out).mono ?_);rintro e w15 ⟨rfl,hb⟩;refine ⟨_,rfl,?_⟩;have n0_ := Aside0.mk (below_step au0 hb);clear HB;have HB := n0_;clear n0_;(try clear hb);(try clear hb2);(try clear hk);(try clear hi)))
     go_ret
     exact ⟨au2,au0⟩
end Go.Proofs.YtnpjaaldppemlaaDoor.U
end
section
namespace Go.Proofs.YtnpjaaldppemlaaDoor.U
open Go.RowKit Go.Proofs.YtnpjaaldppemlaaDoorW.PrintWords Go.Proofs.YtnpjaaldppemlaaDoorW.PrintLast Go.Proofs.YtnpjaaldppemlaaDoorW.PrintMore
attribute [local go_sem] max2_int min2_int max_two min_two max_three min_three max_four min_four   -- for this text's walks alone
set_option linter.unusedVariables false
set_option linter.unusedSimpArgs false
def cluster_Boundary.j0 : Nat → ByteArray → Int → Bool → Option (Bool)
 | 0,_,_,_ => none
 | k + 1,x0,x1,x16 => if x16 = true then (if x1 = 0 then (some true) else (some (x1 == (x0.size : Int)))) else ((unit_Boundary.f k x0 x1).bind fun t136 => (if t136 = true then ((unit_Prev.f k x0 x1).bind fun t137 => ((unit_At.f k x0 t137).bind fun bt138 => ((unit_At.f k x0 x1).bind fun bt142 => ((cluster_glued.f k bt138.1 bt142.1).bind fun t146 => (some (!t146)))))) else (some false)))
def cluster_Boundary.f (k : Nat) (a0 : ByteArray) (a1 : Int) : Option (Bool) := if a1 ≤ 0 then (cluster_Boundary.j0 k a0 a1 true) else (cluster_Boundary.j0 k a0 a1 (decide (a1 ≥ (a0.size : Int))))
theorem cluster_Boundary.mono_l : ∀ k,(∀ y0 y1 y2,LeO (cluster_Boundary.j0 k y0 y1 y2) (cluster_Boundary.j0 (k + 1) y0 y1 y2))
 | 0 => fun _ _ _ r h => by simp [cluster_Boundary.j0] at h
 | k + 1 => by
  have ih0 := cluster_Boundary.mono_l k
  ·intro y0 y1 y2
   unfold cluster_Boundary.j0
   repeat' first
   | (with_reducible exact ih0 _ _ _)
   | (with_reducible exact cluster_glued.mono _ _ _)
   | (with_reducible exact unit_At.mono _ _ _)
   | (with_reducible exact unit_Boundary.mono _ _ _)
   | (with_reducible exact unit_Prev.mono _ _ _)
   | (with_reducible exact LeO.refl _)
   | (with_reducible exact LeO.none _)
   | (with_reducible refine LeO.ite ?_ ?_)
   | (with_reducible refine LeO.bind ?_ (fun _ => ?_))
   | exact ih0 _ _ _
   | exact cluster_glued.mono _ _ _
   | exact unit_At.mono _ _ _
   | exact unit_Boundary.mono _ _ _
   | exact unit_Prev.mono _ _ _
   | exact LeO.none _
   | refine LeO.ite ?_ ?_
   | refine LeO.bind ?_ (fun _ => ?_)
theorem cluster_Boundary.mono : ∀ a0 a1 k,LeO (cluster_Boundary.f k a0 a1) (cluster_Boundary.f (k + 1) a0 a1) := by
 intro a0 a1 k
 have ih0 := cluster_Boundary.mono_l k
 unfold cluster_Boundary.f
 repeat' first
   | (with_reducible exact ih0 _ _ _)
   | (with_reducible exact cluster_glued.mono _ _ _)
   | (with_reducible exact unit_At.mono _ _ _)
   | (with_reducible exact unit_Boundary.mono _ _ _)
   | (with_reducible exact unit_Prev.mono _ _ _)
   | (with_reducible exact LeO.refl _)
   | (with_reducible exact LeO.none _)
   | (with_reducible refine LeO.ite ?_ ?_)
   | (with_reducible refine LeO.bind ?_ (fun _ => ?_))
   | exact ih0 _ _ _
   | exact cluster_glued.mono _ _ _
   | exact unit_At.mono _ _ _
   | exact unit_Boundary.mono _ _ _
   | exact unit_Prev.mono _ _ _
   | exact LeO.none _
   | refine LeO.ite ?_ ?_
   | refine LeO.bind ?_ (fun _ => ?_)
set_option maxHeartbeats 8000000 in
set_option maxRecDepth 100000 in
theorem cluster_Boundary.calls (k : Nat) (a0 : ByteArray) (a1 : Int) (r : Bool) (w : World) (hT : Lib.Utf8Tabs 0 1 w) (h : cluster_Boundary.f k a0 a1 = some r) :
  Calls Tryd.prog 40 #[.string a0,.int .i64 a1] w fun e w' => e = .returned (.bool r) ∧ Below w.heap.size w w' := by
 have hu87 := Tryd.underlying87
 have HT := Aside0.mk hT
 clear hT
 have HB := Aside0.mk (Below.refl w.heap.size w)
 have H : (if a1 ≤ 0 then (cluster_Boundary.j0 k a0 a1 true) else (cluster_Boundary.j0 k a0 a1 (decide (a1 ≥ (a0.size : Int))))) = some r := h
 clear h
 have HC3 := Aside0.mk H
 clear H
 go_enter Tryd.func40,Tryd.ntmps40
 go_upto_region 1 with (fail)
 go_cut [16] (fun v16 wc => ∃ (kq : Nat) (x16_2 : Bool),v16 = .bool x16_2 ∧ Aside0 (cluster_Boundary.j0 kq a0 a1 x16_2 = some r) ∧ Aside0 (kq ≤ k) ∧ Aside0 (Below w.heap.size w wc))
 case first =>
  have H := HC3.out
  clear HC3
  by_cases c4 : a1 ≤ 0
  ·rw [if_pos c4] at H
   have c4b0 : decide (a1 ≤ 0) = true := decide_eq_true c4
   clear c4
   (first | rw [c4b0] | (simp only [i64_w,i32_w];rw [c4b0]) | skip)
   have H' := Aside0.mk H
   clear H
   go_wp2
   go_meet
   case rel => exact ⟨_,(true),au15,H',⟨by first | omega | exact Nat.le_refl _⟩,⟨au0⟩⟩
  ·rw [if_neg c4] at H
   have c4b0 : decide (a1 ≤ 0) = false := decide_eq_false c4
   clear c4
   (first | rw [c4b0] | (simp only [i64_w,i32_w];rw [c4b0]) | skip)
   have H' := Aside0.mk H
   clear H
   go_wp2
   go_meet
   case rel => exact ⟨_,(decide (a1 ≥ (a0.size : Int))),au15,H',⟨by first | omega | exact Nat.le_refl _⟩,⟨au0⟩⟩
 case rest =>
  clear HC3
  try clear p2
  try clear c4
  try clear c4b0
  obtain ⟨kq,x16_2,rfl,HA,HJ2,HB⟩ := hcut
  cases kq with
  | zero => exact absurd HA.out (by simp [cluster_Boundary.j0])
  | succ kj2 =>
   have H := HA.out
   clear HA
   simp only [cluster_Boundary.j0] at H
   by_cases c5 : x16_2 = true
   ·subst c5
    have H1 : (if a1 = 0 then (some true) else (some (a1 == (a0.size : Int)))) = some r := by rw [if_pos rfl] at H;exact H
    clear H
    have H := H1
    clear H1
    by_cases c6 : a1 = 0
    ·rw [if_pos c6] at H
     have c6b0 : (a1 == 0) = true := beq_iff_eq.mpr c6
     have c6b1 : (a1 != 0) = false := bne_eq_false_iff_eq.mpr c6
     clear c6
     obtain rfl := Option.some.inj H
     go_wp2
     go_ret
     exact ⟨au2,au0⟩
    ·rw [if_neg c6] at H
     have c6b0 : (a1 == 0) = false := beq_eq_false_iff_ne.mpr c6
     have c6b1 : (a1 != 0) = true := bne_iff_ne.mpr c6
     obtain rfl := Option.some.inj H
     go_wp2
     go_ret
     exact ⟨au2,au0⟩
   ·replace c5 := Bool.eq_false_iff.mpr c5
    subst c5
    have H1 : ((unit_Boundary.f kj2 a0 a1).bind fun t136 => (if t136 = true then ((unit_Prev.f kj2 a0 a1).bind fun t137 => ((unit_At.f kj2 a0 t137).bind fun bt138 => ((unit_At.f kj2 a0 a1).bind fun bt142 => ((cluster_glued.f kj2 bt138.1 bt142.1).bind fun t146 => (some (!t146)))))) else (some false))) = some r := by rw [if_neg (show ¬ (false = true) by decide)] at H;exact H
    clear H
    have H := H1
    clear H1
    replace H := Option.bind_eq_some_iff.mp H
    obtain ⟨t136,A70,H⟩ := H
    replace H : (if t136 = true then ((unit_Prev.f kj2 a0 a1).bind fun t137 => ((unit_At.f kj2 a0 t137).bind fun bt138 => ((unit_At.f kj2 a0 a1).bind fun bt142 => ((cluster_glued.f kj2 bt138.1 bt142.1).bind fun t146 => (some (!t146)))))) else (some false)) = some r := H
    have A7 := Aside0.mk A70
    clear A70
    by_cases c8 : t136 = true
    ·subst c8
     have H1 : ((unit_Prev.f kj2 a0 a1).bind fun t137 => ((unit_At.f kj2 a0 t137).bind fun bt138 => ((unit_At.f kj2 a0 a1).bind fun bt142 => ((cluster_glued.f kj2 bt138.1 bt142.1).bind fun t146 => (some (!t146)))))) = some r := by rw [if_pos rfl] at H;exact H
     clear H
     have H := H1
     clear H1
     replace H := Option.bind_eq_some_iff.mp H
     obtain ⟨t137,A90,H⟩ := H
     replace H : ((unit_At.f kj2 a0 t137).bind fun bt138 => ((unit_At.f kj2 a0 a1).bind fun bt142 => ((cluster_glued.f kj2 bt138.1 bt142.1).bind fun t146 => (some (!t146))))) = some r := H
     have A9 := Aside0.mk A90
     clear A90
     replace H := Option.bind_eq_some_iff.mp H
     obtain ⟨⟨t138,t139,t140⟩,A100,H⟩ := H
     replace H : ((unit_At.f kj2 a0 a1).bind fun bt142 => ((cluster_glued.f kj2 t138 bt142.1).bind fun t146 => (some (!t146)))) = some r := H
     have A10 := Aside0.mk A100
     clear A100
     replace H := Option.bind_eq_some_iff.mp H
     obtain ⟨⟨t142,t143,t144⟩,A110,H⟩ := H
     replace H : ((cluster_glued.f kj2 t138 t142).bind fun t146 => (some (!t146))) = some r := H
     have A11 := Aside0.mk A110
     clear A110
     replace H := Option.bind_eq_some_iff.mp H
     obtain ⟨t146,A120,H⟩ := H
     replace H : (some (!t146)) = some r := H
     have A12 := Aside0.mk A120
     clear A120
     obtain rfl := Option.some.inj H
     go_wp2_with (first | ((with_reducible refine gate_callee (f := 60) rfl ?_);refine goesL_ (some 27) rfl rfl Tryd.func60 (by kernel_rfl) rfl #[.string a0,.int .i64 a1] rfl au1 ?_;(with_reducible refine (unit_Boundary.calls kj2 a0 a1 true _ ?side1 A7.out).mono ?_);(case side1 => exact tabs_below HT.out au0);rintro e w13 ⟨rfl,hb⟩;refine ⟨_,rfl,?_⟩;have n0_ := Aside0.mk (below_step au0 hb);clear HB;have HB := n0_;clear n0_;(try clear hb);(try clear hb2);(try clear hk);(try clear hi)) | ((with_reducible refine gate_callee (f := 62) rfl ?_);refine goesL_ (some 33) rfl rfl Tryd.func62 (by kernel_rfl) rfl #[.string a0,.int .i64 a1] rfl au1 ?_;(with_reducible refine (unit_Prev.calls kj2 a0 a1 t137 _ ?side1 A9.out).mono ?_);(case side1 => exact tabs_below HT.out au0);rintro e w14 ⟨rfl,hb⟩;refine ⟨_,rfl,?_⟩;have n0_ := Aside0.mk (below_step au0 hb);clear HB;have HB := n0_;clear n0_;(try clear hb);(try clear hb2);(try clear hk);(try clear hi)) | ((with_reducible refine gate_callee (f := 61) rfl ?_);refine goesL_ (some 34) rfl rfl Tryd.func61 (by kernel_rfl) rfl #[.string a0,.int .i64 t137] rfl au1 ?_;(with_reducible refine (unit_At.calls kj2 a0 t137 t138 t139 t140 _ ?side1 A10.out).mono ?_);(case side1 => exact tabs_below HT.out au0);rintro e w15 ⟨rfl,hb⟩;refine ⟨_,rfl,?_⟩;have n0_ := Aside0.mk (below_step au0 hb);clear HB;have HB := n0_;clear n0_;(try clear hb);(try clear hb2);(try clear hk);(try clear hi)) | ((with_reducible refine gate_dst (N := 5) rfl ?_);(try (refine gate_guard (by rfl) ?_;dsimp only));refine box_event ?hg (N := 5) ?hd (cs := #[.int .i32 0,.int .i64 0]) (t := 87) ?hr ?_;(case hd => rfl);(case hg => rfl);(case hr => first | (go_simp;done) | (go_simp;rfl));intro gb141 hg w16 hbox hb;have n0_ := Aside0.mk (below_step au0 hb);have n1_ := Aside0.mk (hbox);have n2_ := Aside0.mk ((by rw [hg];exact (below_size au0) : w.heap.size ≤ gb141));have n3_ := Aside0.mk ((by rw [hg];exact (below_size au0) : w.heap.size ≤ gb141));clear HB;have HB := n0_;have BK141 := n1_;have GW141 := n2_;have GE141 := n3_;clear n0_ n1_ n2_ n3_;clear hb hbox hg;have hcz17_0 : w16.cell? ⟨gb141,0,none⟩ = some (.int .i32 0) := (blk_cell BK141.out 0).trans rfl;have hcz17_1 : w16.cell? ⟨gb141,1,none⟩ = some (.int .i64 0) := (blk_cell BK141.out 1).trans rfl;have hfz17_0 := blk_frozen BK141.out 0;have hfz17_1 := blk_frozen BK141.out 1) | ((with_reducible refine gate_callee (f := 61) rfl ?_);refine goesL_ (some 40) rfl rfl Tryd.func61 (by kernel_rfl) rfl #[.string a0,.int .i64 a1] rfl au1 ?_;(with_reducible refine (unit_At.calls kj2 a0 a1 t142 t143 t144 _ ?side1 A11.out).mono ?_);(case side1 => exact tabs_below HT.out au21);rintro e w18 ⟨rfl,hb⟩;refine ⟨_,rfl,?_⟩;have n0_ := Aside0.mk (blk_below (g := gb141) (o := .cells #[.int .i32 t138,.int .i64 t139] 87 (0,0)) (by (with_reducible repeat (first | refine blk_drewN ?_ _ | refine blk_drew ?_ | refine blk_alloc ?_ _));refine blk_put (cs := #[.int .i32 t138,.int .i64 0]) ?_ 1 _ rfl;(with_reducible repeat (first | refine blk_drewN ?_ _ | refine blk_drew ?_ | refine blk_alloc ?_ _));refine blk_put (cs := #[.int .i32 0,.int .i64 0]) ?_ 0 _ rfl;(with_reducible repeat (first | refine blk_drewN ?_ _ | refine blk_drew ?_ | refine blk_alloc ?_ _));exact BK141.out) hb);have n1_ := Aside0.mk (below_step au21 hb);clear BK141;clear HB;have BK141 := n0_;have HB := n1_;clear n0_ n1_;(try clear hb);(try clear hb2);(try clear hk);(try clear hi)) | ((with_reducible refine gate_dst (N := 7) rfl ?_);(try (refine gate_guard (by rfl) ?_;dsimp only));refine box_event ?hg (N := 7) ?hd (cs := #[.int .i32 0,.int .i64 0]) (t := 87) ?hr ?_;(case hd => rfl);(case hg => rfl);(case hr => first | (go_simp;done) | (go_simp;rfl));intro gb145 hg w19 hbox hb;have n0_ := Aside0.mk (blk_below (g := gb141) (o := .cells #[.int .i32 t138,.int .i64 t139] 87 (0,0)) (by (with_reducible repeat (first | refine blk_drewN ?_ _ | refine blk_drew ?_ | refine blk_alloc ?_ _));exact BK141.out) hb);have n1_ := Aside0.mk (below_step au21 hb);have n2_ := Aside0.mk (hbox);have n3_ := Aside0.mk ((by rw [hg];exact (below_size au21) : w.heap.size ≤ gb145));have n4_ := Aside0.mk ((by rw [hg];exact (below_size au21) : w.heap.size ≤ gb145));have n5_ := Aside0.mk ((by rw [hg];exact Nat.ne_of_lt (blk_lt (g := gb141) (o := .cells #[.int .i32 t138,.int .i64 t139] 87 (0,0)) (by (with_reducible repeat (first | refine blk_drewN ?_ _ | refine blk_drew ?_ | refine blk_alloc ?_ _));exact BK141.out)) : gb141 ≠ gb145));have n6_ := Aside0.mk ((by rw [hg];exact Nat.ne_of_gt (blk_lt (g := gb141) (o := .cells #[.int .i32 t138,.int .i64 t139] 87 (0,0)) (by (with_reducible repeat (first | refine blk_drewN ?_ _ | refine blk_drew ?_ | refine blk_alloc ?_ _));exact BK141.out)) : gb145 ≠ gb141));clear BK141;clear HB;have BK141 := n0_;have HB := n1_;have BK145 := n2_;have GW145 := n3_;have GE145 := n4_;have NB141_145 := n5_;have NB145_141 := n6_;clear n0_ n1_ n2_ n3_ n4_ n5_ n6_;clear hb hbox hg;have hnb20 := NB145_141.out;have hnc20 := NB141_145.out;have hcz21_0 : w19.cell? ⟨gb145,0,none⟩ = some (.int .i32 0) := (blk_cell BK145.out 0).trans rfl;have hcz21_1 : w19.cell? ⟨gb145,1,none⟩ = some (.int .i64 0) := (blk_cell BK145.out 1).trans rfl;have hfz21_0 := blk_frozen BK145.out 0;have hfz21_1 := blk_frozen BK145.out 1;have hcz22_0 : w19.cell? ⟨gb141,0,none⟩ = some (.int .i32 t138) := (blk_cell BK141.out 0).trans rfl;have hcz22_1 : w19.cell? ⟨gb141,1,none⟩ = some (.int .i64 t139) := (blk_cell BK141.out 1).trans rfl;have hfz22_0 := blk_frozen BK141.out 0;have hfz22_1 := blk_frozen BK141.out 1) | ((with_reducible refine gate_callee (f := 63) rfl ?_);refine goesL_ (some 47) rfl rfl Tryd.func63 (by kernel_rfl) rfl #[.int .i32 t138,.int .i32 t142] rfl au1 ?_;(with_reducible refine (cluster_glued.calls kj2 t138 t142 t146 _ A12.out).mono ?_);rintro e w23 ⟨rfl,hb⟩;refine ⟨_,rfl,?_⟩;have n0_ := Aside0.mk (blk_below (g := gb141) (o := .cells #[.int .i32 t138,.int .i64 t139] 87 (0,0)) (by (with_reducible repeat (first | refine blk_drewN ?_ _ | refine blk_drew ?_ | refine blk_alloc ?_ _));refine blk_far ?_ NB141_145.out _;(with_reducible repeat (first | refine blk_drewN ?_ _ | refine blk_drew ?_ | refine blk_alloc ?_ _));refine blk_far ?_ NB141_145.out _;(with_reducible repeat (first | refine blk_drewN ?_ _ | refine blk_drew ?_ | refine blk_alloc ?_ _));exact BK141.out) hb);have n1_ := Aside0.mk (blk_below (g := gb145) (o := .cells #[.int .i32 t142,.int .i64 t143] 87 (0,0)) (by (with_reducible repeat (first | refine blk_drewN ?_ _ | refine blk_drew ?_ | refine blk_alloc ?_ _));refine blk_put (cs := #[.int .i32 t142,.int .i64 0]) ?_ 1 _ rfl;(with_reducible repeat (first | refine blk_drewN ?_ _ | refine blk_drew ?_ | refine blk_alloc ?_ _));refine blk_put (cs := #[.int .i32 0,.int .i64 0]) ?_ 0 _ rfl;(with_reducible repeat (first | refine blk_drewN ?_ _ | refine blk_drew ?_ | refine blk_alloc ?_ _));exact BK145.out) hb);have n2_ := Aside0.mk (below_step (by repeat (first | (with_reducible first | exact HB.out | apply below_alloc | apply pw_below_drewN | apply below_drew1 | refine below_set ?_ GE141.out | refine below_set ?_ GE145.out) | exact HB.out)) hb);clear BK141;clear BK145;clear HB;have BK141 := n0_;have BK145 := n1_;have HB := n2_;clear n0_ n1_ n2_;(try clear hb);(try clear hb2);(try clear hk);(try clear hi)))
     go_ret
     exact ⟨au2,by repeat (first | (with_reducible first | exact HB.out | apply below_alloc | apply pw_below_drewN | apply below_drew1 | refine below_set ?_ GE141.out | refine below_set ?_ GE145.out) | exact HB.out)⟩
    ·replace c8 := Bool.eq_false_iff.mpr c8
     subst c8
     have H1 : (some false) = some r := by rw [if_neg (show ¬ (false = true) by decide)] at H;exact H
     clear H
     have H := H1
     clear H1
     obtain rfl := Option.some.inj H
     go_wp2_with (first | ((with_reducible refine gate_callee (f := 60) rfl ?_);refine goesL_ (some 27) rfl rfl Tryd.func60 (by kernel_rfl) rfl #[.string a0,.int .i64 a1] rfl au1 ?_;(with_reducible refine (unit_Boundary.calls kj2 a0 a1 false _ ?side1 A7.out).mono ?_);(case side1 => exact tabs_below HT.out au0);rintro e w24 ⟨rfl,hb⟩;refine ⟨_,rfl,?_⟩;have n0_ := Aside0.mk (below_step au0 hb);clear HB;have HB := n0_;clear n0_;(try clear hb);(try clear hb2);(try clear hk);(try clear hi)))
     go_ret
     exact ⟨au2,au0⟩
end Go.Proofs.YtnpjaaldppemlaaDoor.U
end
section
namespace Go.Proofs.YtnpjaaldppemlaaDoor.U
open Go.RowKit Go.Proofs.YtnpjaaldppemlaaDoorW.PrintWords Go.Proofs.YtnpjaaldppemlaaDoorW.PrintLast Go.Proofs.YtnpjaaldppemlaaDoorW.PrintMore
attribute [local go_sem] max2_int min2_int max_two min_two max_three min_three max_four min_four   -- for this text's walks alone
set_option linter.unusedVariables false
set_option linter.unusedSimpArgs false
def cluster_Next.l0 : Nat → ByteArray → Int → Option (Int)
 | 0,_,_ => none
 | k + 1,x0,x1 => if x1 < (x0.size : Int) then ((unit_Next.f k x0 x1).bind fun t147 => ((cluster_Boundary.f k x0 t147).bind fun t148 => (if t148 = true then (some t147) else (cluster_Next.l0 k x0 t147)))) else (some (x0.size : Int))
def cluster_Next.f (k : Nat) (a0 : ByteArray) (a1 : Int) : Option (Int) := if a1 < 0 then (some 0) else (cluster_Next.l0 k a0 a1)
theorem cluster_Next.mono_l : ∀ k,(∀ y0 y1,LeO (cluster_Next.l0 k y0 y1) (cluster_Next.l0 (k + 1) y0 y1))
 | 0 => fun _ _ r h => by simp [cluster_Next.l0] at h
 | k + 1 => by
  have ih0 := cluster_Next.mono_l k
  ·intro y0 y1
   unfold cluster_Next.l0
   repeat' first
   | (with_reducible exact ih0 _ _)
   | (with_reducible exact cluster_Boundary.mono _ _ _)
   | (with_reducible exact unit_Next.mono _ _ _)
   | (with_reducible exact LeO.refl _)
   | (with_reducible exact LeO.none _)
   | (with_reducible refine LeO.ite ?_ ?_)
   | (with_reducible refine LeO.bind ?_ (fun _ => ?_))
   | exact ih0 _ _
   | exact cluster_Boundary.mono _ _ _
   | exact unit_Next.mono _ _ _
   | exact LeO.none _
   | refine LeO.ite ?_ ?_
   | refine LeO.bind ?_ (fun _ => ?_)
theorem cluster_Next.mono : ∀ a0 a1 k,LeO (cluster_Next.f k a0 a1) (cluster_Next.f (k + 1) a0 a1) := by
 intro a0 a1 k
 have ih0 := cluster_Next.mono_l k
 unfold cluster_Next.f
 repeat' first
   | (with_reducible exact ih0 _ _)
   | (with_reducible exact cluster_Boundary.mono _ _ _)
   | (with_reducible exact unit_Next.mono _ _ _)
   | (with_reducible exact LeO.refl _)
   | (with_reducible exact LeO.none _)
   | (with_reducible refine LeO.ite ?_ ?_)
   | (with_reducible refine LeO.bind ?_ (fun _ => ?_))
   | exact ih0 _ _
   | exact cluster_Boundary.mono _ _ _
   | exact unit_Next.mono _ _ _
   | exact LeO.none _
   | refine LeO.ite ?_ ?_
   | refine LeO.bind ?_ (fun _ => ?_)
set_option maxHeartbeats 8000000 in
set_option maxRecDepth 100000 in
theorem cluster_Next.calls (k : Nat) (a0 : ByteArray) (a1 : Int) (r : Int) (w : World) (hT : Lib.Utf8Tabs 0 1 w) (h : cluster_Next.f k a0 a1 = some r) :
  Calls Tryd.prog 18 #[.string a0,.int .i64 a1] w fun e w' => e = .returned (.int .i64 r) ∧ Below w.heap.size w w' := by
 have HT := Aside0.mk hT
 clear hT
 have HB := Aside0.mk (Below.refl w.heap.size w)
 have H : (if a1 < 0 then (some 0) else (cluster_Next.l0 k a0 a1)) = some r := h
 clear h
 by_cases c3 : a1 < 0
 ·rw [if_pos c3] at H
  have c3b0 : decide (a1 < 0) = true := decide_eq_true c3
  clear c3
  obtain rfl := Option.some.inj H
  go_enter Tryd.func18,Tryd.ntmps18
  go_wp2
  go_ret
  exact ⟨au2,au0⟩
 ·rw [if_neg c3] at H
  have c3b0 : decide (a1 < 0) = false := decide_eq_false c3
  clear c3
  have H' := Aside0.mk H
  clear H
  go_enter Tryd.func18,Tryd.ntmps18
  go_wp2
  go_loopg [1] k (fun kq v1 w' => ∃ (x1_1 : Int),v1 = .int .i64 x1_1 ∧ Aside0 (cluster_Next.l0 kq a0 x1_1 = some r) ∧ Aside0 (kq ≤ k) ∧ Aside0 (Below w.heap.size w w'))
  case atStart => exact ⟨(a1),au15,H',⟨Nat.le_refl _⟩,⟨au0⟩⟩
  case round =>
   clear H'
   try clear c1
   try clear p2
   try clear c3
   try clear c3b0
   obtain ⟨x1_1,rfl,HA,HK1,HB⟩ := hrel
   cases gk with
   | zero => exact absurd HA.out (by simp [cluster_Next.l0])
   | succ k1 =>
    have H := HA.out
    clear HA
    simp only [cluster_Next.l0] at H
    by_cases c4 : x1_1 < (a0.size : Int)
    ·rw [if_pos c4] at H
     have c4b0 : decide (x1_1 < (a0.size : Int)) = true := decide_eq_true c4
     clear c4
     replace H := Option.bind_eq_some_iff.mp H
     obtain ⟨t147,A50,H⟩ := H
     replace H : ((cluster_Boundary.f k1 a0 t147).bind fun t148 => (if t148 = true then (some t147) else (cluster_Next.l0 k1 a0 t147))) = some r := H
     have A5 := Aside0.mk A50
     clear A50
     replace H := Option.bind_eq_some_iff.mp H
     obtain ⟨t148,A60,H⟩ := H
     replace H : (if t148 = true then (some t147) else (cluster_Next.l0 k1 a0 t147)) = some r := H
     have A6 := Aside0.mk A60
     clear A60
     by_cases c7 : t148 = true
     ·subst c7
      have H1 : (some t147) = some r := by rw [if_pos rfl] at H;exact H
      clear H
      have H := H1
      clear H1
      obtain rfl := Option.some.inj H
      go_wp2_with (first | ((with_reducible refine gate_callee (f := 39) rfl ?_);refine goesL_ (some 13) rfl rfl Tryd.func39 (by kernel_rfl) rfl #[.string a0,.int .i64 x1_1] rfl au1 ?_;(with_reducible refine (unit_Next.calls k1 a0 x1_1 t147 _ ?side1 A5.out).mono ?_);(case side1 => exact tabs_below HT.out au0);rintro e w8 ⟨rfl,hb⟩;refine ⟨_,rfl,?_⟩;have n0_ := Aside0.mk (below_step au0 hb);clear HB;have HB := n0_;clear n0_;(try clear hb);(try clear hb2);(try clear hk);(try clear hi)) | ((with_reducible refine gate_callee (f := 40) rfl ?_);refine goesL_ (some 16) rfl rfl Tryd.func40 (by kernel_rfl) rfl #[.string a0,.int .i64 t147] rfl au1 ?_;(with_reducible refine (cluster_Boundary.calls k1 a0 t147 true _ ?side1 A6.out).mono ?_);(case side1 => exact tabs_below HT.out au0);rintro e w9 ⟨rfl,hb⟩;refine ⟨_,rfl,?_⟩;have n0_ := Aside0.mk (below_step au0 hb);clear HB;have HB := n0_;clear n0_;(try clear hb);(try clear hb2);(try clear hk);(try clear hi)))
      go_ret
      exact ⟨au2,au0⟩
     ·replace c7 := Bool.eq_false_iff.mpr c7
      subst c7
      have H1 : (cluster_Next.l0 k1 a0 t147) = some r := by rw [if_neg (show ¬ (false = true) by decide)] at H;exact H
      clear H
      have H := H1
      clear H1
      have H' := Aside0.mk H
      clear H
      go_wp2_with (first | ((with_reducible refine gate_callee (f := 39) rfl ?_);refine goesL_ (some 13) rfl rfl Tryd.func39 (by kernel_rfl) rfl #[.string a0,.int .i64 x1_1] rfl au1 ?_;(with_reducible refine (unit_Next.calls k1 a0 x1_1 t147 _ ?side1 A5.out).mono ?_);(case side1 => exact tabs_below HT.out au0);rintro e w10 ⟨rfl,hb⟩;refine ⟨_,rfl,?_⟩;have n0_ := Aside0.mk (below_step au0 hb);clear HB;have HB := n0_;clear n0_;(try clear hb);(try clear hb2);(try clear hk);(try clear hi)) | ((with_reducible refine gate_callee (f := 40) rfl ?_);refine goesL_ (some 16) rfl rfl Tryd.func40 (by kernel_rfl) rfl #[.string a0,.int .i64 t147] rfl au1 ?_;(with_reducible refine (cluster_Boundary.calls k1 a0 t147 false _ ?side1 A6.out).mono ?_);(case side1 => exact tabs_below HT.out au0);rintro e w11 ⟨rfl,hb⟩;refine ⟨_,rfl,?_⟩;have n0_ := Aside0.mk (below_step au0 hb);clear HB;have HB := n0_;clear n0_;(try clear hb);(try clear hb2);(try clear hk);(try clear hi)))
      go_roundg k1
      case measure => have := HK1.out;omega
      case rel => exact ⟨(t147),au15,H',⟨by have := HK1.out;omega⟩,⟨au0⟩⟩
    ·rw [if_neg c4] at H
     have c4b0 : decide (x1_1 < (a0.size : Int)) = false := decide_eq_false c4
     clear c4
     obtain rfl := Option.some.inj H
     go_wp2
     go_ret
     exact ⟨au2,au0⟩
end Go.Proofs.YtnpjaaldppemlaaDoor.U
end
section
namespace Go.Proofs.YtnpjaaldppemlaaDoor.U
open Go.RowKit Go.Proofs.YtnpjaaldppemlaaDoorW.PrintWords Go.Proofs.YtnpjaaldppemlaaDoorW.PrintLast Go.Proofs.YtnpjaaldppemlaaDoorW.PrintMore
set_option linter.unusedVariables false
set_option linter.unusedSimpArgs false
abbrev Cl := S35
abbrev kRow : Kd (List Cl) := Kd.slice 35 k35
/-- A grid of type T at block p: width,rows,the pen's row and column;its rows' blocks are in ok. -/
structure GridAt (T : Nat) (base p : Nat) (ok : Nat → Prop) (W : World) (wd : Int) (rows : List (List Cl)) (r c : Int) : Prop where
 at_ : ∃ rv,W.heap[p]? = some (.cells #[.int .i64 wd,rv,.int .i64 r,.int .i64 c] T (0,0)) ∧ Kd.S kRow 33 W base ok rv rows
 low : base ≤ p
 ne : ¬ ok p
theorem _root_.Go.Proofs.YtnpjaaldppemlaaDoorW.PrintWords.Kd.S.own_ok {α : Type} {d : Kd α} {e : Nat} {w : World} {base : Nat} {ok : Nat → Prop} {v : Value} {xs : List α} (h : Kd.S d e w base ok v xs) (k : Nat) (hk : v.ownBlock = some k) : ok k := (Kd.S_R h).1 k hk
theorem GridAt.mono {T base p : Nat} {ok ok' : Nat → Prop} {W : World} {wd r c : Int} {rows : List (List Cl)} (h : GridAt T base p ok W wd rows r c) (hk : ∀ k,ok k → ok' k) (hn : ¬ ok' p) : GridAt T base p ok' W wd rows r c := by
 obtain ⟨⟨rv,h1,h2⟩,h3,h4⟩ := h
 exact ⟨⟨rv,h1,Kd.S_mono h2 hk⟩,h3,hn⟩
set_option maxRecDepth 100000 in
set_option maxHeartbeats 4000000 in
theorem gr_down {base p : Nat} {ok : Nat → Prop} {W : World} {wd r c : Int} {rows : List (List Cl)} (h : GridAt 65 base p ok W wd rows r c) (hf : ∀ k,W.heap.size ≤ k → ok k) (hb : base ≤ W.heap.size) (hr : 0 ≤ r ∧ r ≤ 4398046511104) (hl : rows.length ≤ 4398046511104) :
  Calls Tryd.prog 54 #[.pointer (some ⟨p,0,none⟩)] W fun e w' => e = .returned (.tuple #[]) ∧ GridAt 65 base p ok w' wd (rows ++ [[]]) (r + 1) 0 ∧ Below base W w' ∧ Kept W w' (fun k => ok k ∨ k = p) := by
 obtain ⟨⟨rv,hp,hS⟩,hlow,hne⟩ := h
 have c1 : W.cell? ⟨p,1,none⟩ = some rv := (blk_cell hp 1).trans rfl
 have c2 : W.cell? ⟨p,2,none⟩ = some (.int .i64 r) := (blk_cell hp 2).trans rfl
 have hw : IntKind.i64.wrap (r + 1) = r + 1 := (i64_w _).trans (by unfold wrap64;omega)
 have hpl := blk_lt hp
 have hsn : some p ≠ rv.ownBlock := Kd.R_ne (Kd.S_R hS) hp (by decide)
 go_enter Tryd.func54,Tryd.ntmps54
 go_wp2_with ((with_reducible refine gate_builtin (b := .append) (xs := #[.tmp 6,.tmp 7]) rfl ?_);at_builtin;(refine Kd.S_append kRow (w0 := W) base rfl (.tmp 6) (.tmp 7) 25 33 (.slice none 0 0) 24 rfl Tryd.underlying25 info33 rfl (by decide) (by decide) rv rows [] [.slice none 0 0] ok (fun _ => False) rfl rfl (Kd.M_row (Kd.R_nil _ _ _ _ _)) (fun _ hk => hk.elim) (fun k hk => hf k hk) (Kd.S_mono hS (fun k hk => ⟨hk,fun h => h⟩)) (Below.refl _ _) hb (by omega) ?_;intro v1 w1 hS1 hB1 hg1 hat1;obtain ⟨A1,cc1,rfl⟩ := Kd.R_slice (Kd.S_R hS1);have hp1 := blk_grown hp hg1 hsn;have d1 : w1.cell? ⟨p,1,none⟩ = some rv := (blk_cell hp1 1).trans rfl;have d2 : w1.cell? ⟨p,2,none⟩ = some (.int .i64 r) := (blk_cell hp1 2).trans rfl;have d3 : w1.cell? ⟨p,3,none⟩ = some (.int .i64 c) := (blk_cell hp1 3).trans rfl;have g1 := blk_frozen hp1 1;have g2 := blk_frozen hp1 2;have g3 := blk_frozen hp1 3))
 refine bodyPost_end (results_none rfl _ _ _) rfl ?_
 have hlen : (rows ++ [[]]).length = rows.length + 1 := by simp
 have hk : ∀ k,ok k → k ≠ p := fun k hk he => hne (he ▸ hk)
 rw [hlen] at hS1
 refine ⟨rfl,⟨⟨.slice A1 (rows.length + 1) cc1,?_,?_⟩,hlow,hne⟩,?_,?_⟩
 ·exact blk_put (blk_put (blk_put hp1 1 _ rfl) 2 _ rfl) 3 _ rfl
 ·exact Kd.S_far (p := ⟨p,3,none⟩) (Kd.S_far (p := ⟨p,2,none⟩) (Kd.S_far (p := ⟨p,1,none⟩) hS1 hk _) hk _) hk _
 ·exact ((hB1.setCell (p := ⟨p,1,none⟩) hlow _).setCell (p := ⟨p,2,none⟩) hlow _).setCell (p := ⟨p,3,none⟩) hlow _
 ·have hk1 : Kept W w1 (fun k => ok k ∨ k = p) := Kept.of_grown hg1 (Kept.refl W _) (fun k hk => .inl (.inl (hS.own_ok k hk)))
  exact ((hk1.setCell (p := ⟨p,1,none⟩) (.inl (.inr rfl)) _).setCell (p := ⟨p,2,none⟩) (.inl (.inr rfl)) _).setCell (p := ⟨p,3,none⟩) (.inl (.inr rfl)) _
end Go.Proofs.YtnpjaaldppemlaaDoor.U
end
section
namespace Go.Proofs.YtnpjaaldppemlaaDoor.U
open Go.RowKit Go.Proofs.YtnpjaaldppemlaaDoorW.PrintWords Go.Proofs.YtnpjaaldppemlaaDoorW.PrintLast Go.Proofs.YtnpjaaldppemlaaDoorW.PrintMore
set_option linter.unusedVariables false
set_option linter.unusedSimpArgs false
def pncell3.T : Bool × List (List Nat × List Nat) := (true,[([],[]),([0],[0]),([1],[1]),([2],[2]),([],[]),([4],[4]),([5],[5]),([6],[6]),([7],[7]),([],[]),([3,8,0,1,2,3,4,5,6,7,8,9],[3,8]),([10,9,0,1,2,3,4,5,6,7,8,9],[9,10])])
def pncell3.B : List Nat := [0,1,3,7,0,16,48,112,240,0,1023,2047]
theorem pncell3.tab : rtab .any (opsOf Tryd.f79 3) = pncell3.T := by kernel_rfl
theorem pncell3.bits : waitsOk pncell3.T.2 pncell3.B = true := by kernel_rfl
def grput1.T : Bool × List (List Nat × List Nat) := (true,[([],[]),([0],[0]),([1],[1]),([2],[2]),([],[]),([4],[4]),([5],[5]),([6],[6]),([7],[7]),([],[]),([9],[9]),([10],[10]),([11],[11]),([],[]),([13],[13]),([14],[14]),([15],[15]),([16],[16]),([12,17],[12,17]),([18],[18]),([],[]),([20],[20]),([19,21],[19,21]),([3,8,0,1,2,3,4,5,6,7,8,9,10,11,12,13,14,15,16,17,18,19,20,21,22],[3,8]),([23,22,22,0,1,2,3,4,5,6,7,8,9,10,11,12,13,14,15,16,17,18,19,20,21,22],[22,23])])
def grput1.B : List Nat := [0,1,3,7,0,16,48,112,240,0,512,1536,3584,0,8192,24576,57344,122880,261632,523776,0,1048576,4193792,8388607,16777215]
theorem grput1.tab : rtab .any (opsOf Tryd.f55 1) = grput1.T := by kernel_rfl
theorem grput1.bits : waitsOk grput1.T.2 grput1.B = true := by kernel_rfl
/-- The rows behind a cell's laying,and the pen. -/
def setRow (rows : List (List Cl)) (r : Nat) (L : List Cl) : List (List Cl) := rows.set r L
theorem grid_at {T base p : Nat} {ok : Nat → Prop} {W : World} {wd r c : Int} {rows : List (List Cl)} {rv : Value} (h1 : W.heap[p]? = some (.cells #[.int .i64 wd,rv,.int .i64 r,.int .i64 c] T (0,0))) (h2 : Kd.S kRow 33 W base ok rv rows) (h3 : base ≤ p) (h4 : ¬ ok p) : GridAt T base p ok W wd rows r c := ⟨⟨rv,h1,h2⟩,h3,h4⟩
/-- What stands behind the row's slot being written anew. -/
theorem slot_put {base g n cap : Nat} {ok okT : Nat → Prop} {V : World} {rows : List (List Cl)} {r : Int} {cs : List Value} {v1 : Value} {L : List Cl} (hH : Kd.H kRow 33 V base ok (.slice (some ⟨g,0,none⟩) n cap) rows r okT cs) (h0 : 0 ≤ r) (h1 : r < n) (hc : cs.length = 1) (hR : Kd.R k35 35 V base okT v1 L) :
  Kd.S kRow 33 (V.setCell ⟨g,r.toNat,none⟩ v1) base ok (.slice (some ⟨g,0,none⟩) n cap) (setRow rows r.toNat L) := by
 obtain ⟨A1,c1,rfl⟩ := Kd.R_slice hR
 have h := (Kd.S_seg0 (seg := [.slice A1 L.length c1]) (j := 0) (x' := L) hH h0 h1 (Nat.le_refl 1) (by
  rw [List.take_zero,List.nil_append,List.drop_eq_nil_of_le (by rw [hc];exact Nat.le_refl _),List.append_nil]
  exact Kd.M_row hR) (fun k hk => hk)).1
 have hz : (kRow).sz = 1 := rfl
 rw [hz,Nat.mul_one,Nat.add_zero] at h
 exact h
theorem hin_at {base g n cap : Nat} {ok okT : Nat → Prop} {V : World} {rows : List (List Cl)} {r : Int} {v : Value} (hH : Kd.H kRow 33 V base ok (.slice (some ⟨g,0,none⟩) n cap) rows r okT [v]) (h0 : 0 ≤ r) (h1 : r < n) : V.cell? ⟨g,r.toNat,none⟩ = some v := by
 have h := (Kd.H_at hH h0 h1).1 0 _ rfl
 have hz : (kRow).sz = 1 := rfl
 rwa [hz,Nat.mul_one,Nat.add_zero] at h
theorem cell_below {w w' : World} {a : Addr} {v : Value} (h : w.cell? a = some v) (hb : Below w.heap.size w w') : w'.cell? a = some v := by
 have := hb.block a.block (World.block_lt_of_cell? w a h)
 simpa [World.cell?,this] using h
theorem sees5 {w w' : World} {a0 a1 a2 a3 a4 : Addr} {v0 v1 v2 v3 v4 : Value} (h : w.cell? a0 = some v0 ∧ w.cell? a1 = some v1 ∧ w.cell? a2 = some v2 ∧ w.cell? a3 = some v3 ∧ w.cell? a4 = some v4) (hb : Below w.heap.size w w') : w'.cell? a0 = some v0 ∧ w'.cell? a1 = some v1 ∧ w'.cell? a2 = some v2 ∧ w'.cell? a3 = some v3 ∧ w'.cell? a4 = some v4 := ⟨cell_below h.1 hb,cell_below h.2.1 hb,cell_below h.2.2.1 hb,cell_below h.2.2.2.1 hb,cell_below h.2.2.2.2 hb⟩
set_option maxRecDepth 100000 in
set_option maxHeartbeats 8000000 in
theorem gr_put {base p : Nat} {ok : Nat → Prop} {W : World} {wd r c : Int} {rows : List (List Cl)} (h : GridAt 65 base p ok W wd rows r c) (hf : ∀ k,W.heap.size ≤ k → ok k) (hb : base ≤ W.heap.size) (hr : 0 ≤ r ∧ r < rows.length) (hc : 0 ≤ c ∧ c ≤ 4398046511104) (hl : rows.length ≤ 4398046511104) (hrl : (rows.getD r.toNat []).length ≤ 1099511627776) (x : Cl) :
  Calls Tryd.prog 55 #[.pointer (some ⟨p,0,none⟩),.agg #[.string x.f0,.int .i64 x.f1]] W fun e w' => e = .returned (.tuple #[]) ∧ (if c + 1 = wd then GridAt 65 base p ok w' wd (setRow rows r.toNat (rows.getD r.toNat [] ++ [x]) ++ [[]]) (r + 1) 0 else GridAt 65 base p ok w' wd (setRow rows r.toNat (rows.getD r.toNat [] ++ [x])) r (c + 1)) ∧ Below base W w' ∧ Kept W w' (fun k => ok k ∨ k = p) := by
 obtain ⟨⟨rv,hp,hS⟩,hlow,hne⟩ := h
 obtain ⟨g,cap,rfl,hg0,hglt,cells,hgc⟩ := Kd.S_form hS (by omega)
 have hpl := blk_lt hp
 have hgok : ok g := hS.own_ok g rfl
 have hpg : p ≠ g := fun he => by subst he;exact hne hgok
 obtain ⟨oki,ce,hcl,hM,hcc,hfr,hoki,hH⟩ := Kd.S_elem hS [] r hr.1 (by omega)
 generalize hL : rows.getD r.toNat [] = L at hM hrl ⊢
 generalize hLx : L ++ [x] = Lx
 obtain ⟨iv,rfl,hIR⟩ := hM
 have hz : (kRow).sz = 1 := rfl
 have hw : IntKind.i64.wrap (c + 1) = c + 1 := (i64_w _).trans (by unfold wrap64;omega)
 obtain ⟨A1,cc1,rfl⟩ := Kd.R_slice hIR
 have hin : W.cell? ⟨g,r.toNat,none⟩ = some (.slice A1 L.length cc1) := by have h_ := hcc 0 _ rfl;rwa [hz,Nat.mul_one,Nat.add_zero] at h_
 have c1 : W.cell? ⟨p,1,none⟩ = some _ := (blk_cell hp 1).trans rfl
 have c2 : W.cell? ⟨p,2,none⟩ = some (.int .i64 r) := (blk_cell hp 2).trans rfl
 have hii := Kd.R_lt hIR
 have hoT : ∀ k,oki k → ok k := fun k hk => (hoki k hk).1
 have hip : ∀ k,(Value.slice A1 L.length cc1).ownBlock = some k → k ≠ p := fun k hk he => hne (he ▸ hoT k (hIR.1 k hk))
 have hig : ∀ k,(Value.slice A1 L.length cc1).ownBlock = some k → k ≠ g := fun k hk => (hoki k (hIR.1 k hk)).2
 clear hcc hfr hcl hS hgc
 go_enter Tryd.func55,Tryd.ntmps55
 go_upto_region 1 with (fail)
 have hbl : Below W.heap.size W (W.alloc (.cells #[.string x.f0,.int .i64 x.f1] 35 (0,0))).drew := below_drew1 (below_alloc (Below.refl _ _) _)
 have hB0 : Below base W (W.alloc (.cells #[.string x.f0,.int .i64 x.f1] 35 (0,0))).drew := hbl.mono hb
 have hK0 := Kept.of_below hbl (fun k => ok k ∨ k = p)
 have hH0 := Kd.H_widen (Kd.H_below hH hbl)
 have hI0 := Kd.R_below hIR hbl
 have hp0 := (hbl.block p hpl).trans hp
 have hx0 : (W.alloc (.cells #[.string x.f0,.int .i64 x.f1] 35 (0,0))).drew.heap[W.heap.size]? = _ := World.alloc_heap_new W _
 have hib : ∀ k,(Value.slice A1 L.length cc1).ownBlock = some k → k ≠ W.heap.size := fun k hk => by have := hii k hk;omega
 have hi0 := hin_at (Kd.H_below hH hbl) hr.1 (by omega)
 clear hH hIR hin c1 c2 hii
 have hS_ : (fun w' : World => w'.cell? ⟨p,1,none⟩ = some (.slice (some ⟨g,0,none⟩) rows.length cap) ∧ w'.cell? ⟨p,2,none⟩ = some (.int .i64 r) ∧ w'.cell? ⟨g,r.toNat,none⟩ = some (.slice A1 L.length cc1) ∧ w'.cell? ⟨W.heap.size,0,none⟩ = some (.string x.f0) ∧ w'.cell? ⟨W.heap.size,1,none⟩ = some (.int .i64 x.f1)) (W.alloc (.cells #[.string x.f0,.int .i64 x.f1] 35 (0,0))).drew := ⟨(blk_cell hp0 1).trans rfl,(blk_cell hp0 2).trans rfl,hi0,(blk_cell hx0 0).trans rfl,(blk_cell hx0 1).trans rfl⟩
 refine start_ (n := 25) (S := fun w' => w'.cell? ⟨p,1,none⟩ = some (.slice (some ⟨g,0,none⟩) rows.length cap) ∧ w'.cell? ⟨p,2,none⟩ = some (.int .i64 r) ∧ w'.cell? ⟨g,r.toNat,none⟩ = some (.slice A1 L.length cc1) ∧ w'.cell? ⟨W.heap.size,0,none⟩ = some (.string x.f0) ∧ w'.cell? ⟨W.heap.size,1,none⟩ = some (.int .i64 x.f1)) (ds := [24]) #[false,false,false,false,false,false,false,false,false,false,false,false,false,false,false,false,false,false,false,false,false,false,false,false,false] (by kernel_rfl) rfl rfl hS_ (fun hHeld => ?_);refine with_tabW grput1.tab grput1.bits (fun HT_ HW_ => ?_)
 generalize (W.alloc (.cells #[.string x.f0,.int .i64 x.f1] 35 (0,0))).drew = V at hbl hB0 hK0 hH0 hI0 hp0 hx0 hHeld hi0 ⊢
 clear hS_
 have hbV := Nat.le_trans hb hbl.size
 refine pure_ (i := 0) (N := (some 4)) (v := ?_) (a' := ?_) #[true,false,false,false,false,false,false,false,false,false,false,false,false,false,false,false,false,false,false,false,false,false,false,false,false] rfl rfl (any_of HT_.out (by kernel_rfl)) (fun _ _ _ h => h) (Or.inl ⟨by rfl,?_⟩) ?_ ?_
 rotate_left
 ·intro w'
  go_simp
  with_reducible rfl
 rotate_left
 ·simp only [Act.put,List.setIfInBounds_toArray,List.set_cons_zero,List.set_cons_succ,i64_w,i32_w]
  rfl
 refine pure_ (i := 1) (N := (some 5)) (v := ?_) (a' := ?_) #[true,true,false,false,false,false,false,false,false,false,false,false,false,false,false,false,false,false,false,false,false,false,false,false,false] rfl rfl (any_of HT_.out (by kernel_rfl)) (fun _ _ _ h => h) (Or.inl ⟨by rfl,?_⟩) ?_ ?_
 rotate_left
 ·intro w'
  go_simp
  with_reducible rfl
 rotate_left
 ·simp only [Act.put,List.setIfInBounds_toArray,List.set_cons_zero,List.set_cons_succ,i64_w,i32_w]
  rfl
 refine pure_ (i := 2) (N := (some 6)) (v := ?_) (a' := ?_) #[true,true,true,false,false,false,false,false,false,false,false,false,false,false,false,false,false,false,false,false,false,false,false,false,false] rfl rfl (any_of HT_.out (by kernel_rfl)) (fun _ _ _ h => h) (Or.inl ⟨by rfl,?_⟩) ?_ ?_
 rotate_left
 ·intro w'
  go_simp
  with_reducible rfl
 rotate_left
 ·simp only [Act.put,List.setIfInBounds_toArray,List.set_cons_zero,List.set_cons_succ,i64_w,i32_w]
  rfl
 refine take_ (i := 3) (N := (some 7)) (v := ?_) (a' := ?_) #[true,true,true,true,false,false,false,false,false,false,false,false,false,false,false,false,false,false,false,false,false,false,false,false,false] rfl rfl (take_ofW HT_.out HW_.out (by kernel_rfl)) (fun _ _ _ h => h) (Or.inl ⟨by rfl,?_⟩) hHeld ?_ ?_
 rotate_left
 ·rintro w' ⟨s1,s2,s3,s4,s5⟩
  go_simp
  with_reducible rfl
 rotate_left
 ·simp only [Act.put,List.setIfInBounds_toArray,List.set_cons_zero,List.set_cons_succ,i64_w,i32_w]
  rfl
 refine pure_ (i := 4) (N := (some 8)) (v := ?_) (a' := ?_) #[true,true,true,true,true,false,false,false,false,false,false,false,false,false,false,false,false,false,false,false,false,false,false,false,false] rfl rfl (any_of HT_.out (by kernel_rfl)) (fun _ _ _ h => h) (Or.inl ⟨by rfl,?_⟩) ?_ ?_
 rotate_left
 ·intro w'
  go_simp
  with_reducible rfl
 rotate_left
 ·simp only [Act.put,List.setIfInBounds_toArray,List.set_cons_zero,List.set_cons_succ,i64_w,i32_w]
  rfl
 refine pure_ (i := 5) (N := (some 9)) (v := ?_) (a' := ?_) #[true,true,true,true,true,true,false,false,false,false,false,false,false,false,false,false,false,false,false,false,false,false,false,false,false] rfl rfl (any_of HT_.out (by kernel_rfl)) (fun _ _ _ h => h) (Or.inl ⟨by rfl,?_⟩) ?_ ?_
 rotate_left
 ·intro w'
  go_simp
  with_reducible rfl
 rotate_left
 ·simp only [Act.put,List.setIfInBounds_toArray,List.set_cons_zero,List.set_cons_succ,i64_w,i32_w]
  rfl
 refine pure_ (i := 6) (N := (some 10)) (v := ?_) (a' := ?_) #[true,true,true,true,true,true,true,false,false,false,false,false,false,false,false,false,false,false,false,false,false,false,false,false,false] rfl rfl (any_of HT_.out (by kernel_rfl)) (fun _ _ _ h => h) (Or.inl ⟨by rfl,?_⟩) ?_ ?_
 rotate_left
 ·intro w'
  go_simp
  with_reducible rfl
 rotate_left
 ·simp only [Act.put,List.setIfInBounds_toArray,List.set_cons_zero,List.set_cons_succ,i64_w,i32_w]
  rfl
 refine pure_ (i := 7) (N := (some 11)) (v := ?_) (a' := ?_) #[true,true,true,true,true,true,true,true,false,false,false,false,false,false,false,false,false,false,false,false,false,false,false,false,false] rfl rfl (any_of HT_.out (by kernel_rfl)) (fun _ _ _ h => h) (Or.inl ⟨by rfl,?_⟩) ?_ ?_
 rotate_left
 ·intro w'
  go_simp
  with_reducible rfl
 rotate_left
 ·simp only [Act.put,List.setIfInBounds_toArray,List.set_cons_zero,List.set_cons_succ,i64_w,i32_w]
  rfl
 refine take_ (i := 8) (N := (some 12)) (v := ?_) (a' := ?_) #[true,true,true,true,true,true,true,true,true,false,false,false,false,false,false,false,false,false,false,false,false,false,false,false,false] rfl rfl (take_ofW HT_.out HW_.out (by kernel_rfl)) (fun _ _ _ h => h) (Or.inl ⟨by rfl,?_⟩) hHeld ?_ ?_
 rotate_left
 ·rintro w' ⟨s1,s2,s3,s4,s5⟩
  go_simp
  with_reducible rfl
 rotate_left
 ·simp only [Act.put,List.setIfInBounds_toArray,List.set_cons_zero,List.set_cons_succ,i64_w,i32_w]
  rfl
 refine pure_ (i := 9) (N := (some 13)) (v := ?_) (a' := ?_) #[true,true,true,true,true,true,true,true,true,true,false,false,false,false,false,false,false,false,false,false,false,false,false,false,false] rfl rfl (any_of HT_.out (by kernel_rfl)) (fun _ _ _ h => h) (Or.inl ⟨by rfl,?_⟩) ?_ ?_
 rotate_left
 ·intro w'
  go_simp
  with_reducible rfl
 rotate_left
 ·simp only [Act.put,List.setIfInBounds_toArray,List.set_cons_zero,List.set_cons_succ,i64_w,i32_w]
  rfl
 refine pure_ (i := 10) (N := (some 14)) (v := ?_) (a' := ?_) #[true,true,true,true,true,true,true,true,true,true,true,false,false,false,false,false,false,false,false,false,false,false,false,false,false] rfl rfl (any_of HT_.out (by kernel_rfl)) (fun _ _ _ h => h) (Or.inl ⟨by rfl,?_⟩) ?_ ?_
 rotate_left
 ·intro w'
  go_simp
  with_reducible rfl
 rotate_left
 ·simp only [Act.put,List.setIfInBounds_toArray,List.set_cons_zero,List.set_cons_succ,i64_w,i32_w]
  rfl
 refine pure_ (i := 11) (N := (some 15)) (v := ?_) (a' := ?_) #[true,true,true,true,true,true,true,true,true,true,true,true,false,false,false,false,false,false,false,false,false,false,false,false,false] rfl rfl (any_of HT_.out (by kernel_rfl)) (fun _ _ _ h => h) (Or.inl ⟨by rfl,?_⟩) ?_ ?_
 rotate_left
 ·intro w'
  go_simp
  with_reducible rfl
 rotate_left
 ·simp only [Act.put,List.setIfInBounds_toArray,List.set_cons_zero,List.set_cons_succ,i64_w,i32_w]
  rfl
 refine take_ (i := 12) (N := (some 16)) (v := ?_) (a' := ?_) #[true,true,true,true,true,true,true,true,true,true,true,true,true,false,false,false,false,false,false,false,false,false,false,false,false] rfl rfl (take_ofW HT_.out HW_.out (by kernel_rfl)) (fun _ _ _ h => h) (Or.inl ⟨by rfl,?_⟩) hHeld ?_ ?_
 rotate_left
 ·rintro w' ⟨s1,s2,s3,s4,s5⟩
  go_simp
  with_reducible rfl
 rotate_left
 ·simp only [Act.put,List.setIfInBounds_toArray,List.set_cons_zero,List.set_cons_succ,i64_w,i32_w]
  rfl
 refine pure_ (i := 13) (N := (some 17)) (v := ?_) (a' := ?_) #[true,true,true,true,true,true,true,true,true,true,true,true,true,true,false,false,false,false,false,false,false,false,false,false,false] rfl rfl (any_of HT_.out (by kernel_rfl)) (fun _ _ _ h => h) (Or.inl ⟨by rfl,?_⟩) ?_ ?_
 rotate_left
 ·intro w'
  go_simp
  with_reducible rfl
 rotate_left
 ·simp only [Act.put,List.setIfInBounds_toArray,List.set_cons_zero,List.set_cons_succ,i64_w,i32_w]
  rfl
 refine pure_ (i := 14) (N := (some 18)) (v := ?_) (a' := ?_) #[true,true,true,true,true,true,true,true,true,true,true,true,true,true,true,false,false,false,false,false,false,false,false,false,false] rfl rfl (any_of HT_.out (by kernel_rfl)) (fun _ _ _ h => h) (Or.inl ⟨by rfl,?_⟩) ?_ ?_
 rotate_left
 ·intro w'
  go_simp
  with_reducible rfl
 rotate_left
 ·simp only [Act.put,List.setIfInBounds_toArray,List.set_cons_zero,List.set_cons_succ,i64_w,i32_w]
  rfl
 refine pure_ (i := 15) (N := (some 19)) (v := ?_) (a' := ?_) #[true,true,true,true,true,true,true,true,true,true,true,true,true,true,true,true,false,false,false,false,false,false,false,false,false] rfl rfl (any_of HT_.out (by kernel_rfl)) (fun _ _ _ h => h) (Or.inl ⟨by rfl,?_⟩) ?_ ?_
 rotate_left
 ·intro w'
  go_simp
  with_reducible rfl
 rotate_left
 ·simp only [Act.put,List.setIfInBounds_toArray,List.set_cons_zero,List.set_cons_succ,i64_w,i32_w]
  rfl
 refine pure_ (i := 16) (N := (some 20)) (v := ?_) (a' := ?_) #[true,true,true,true,true,true,true,true,true,true,true,true,true,true,true,true,true,false,false,false,false,false,false,false,false] rfl rfl (any_of HT_.out (by kernel_rfl)) (fun _ _ _ h => h) (Or.inl ⟨by rfl,?_⟩) ?_ ?_
 rotate_left
 ·intro w'
  go_simp
  with_reducible rfl
 rotate_left
 ·simp only [Act.put,List.setIfInBounds_toArray,List.set_cons_zero,List.set_cons_succ,i64_w,i32_w]
  rfl
 refine take_ (i := 17) (N := (some 21)) (v := ?_) (a' := ?_) #[true,true,true,true,true,true,true,true,true,true,true,true,true,true,true,true,true,true,false,false,false,false,false,false,false] rfl rfl (take_ofW HT_.out HW_.out (by kernel_rfl)) (fun _ _ _ h => h) (Or.inl ⟨by rfl,?_⟩) hHeld ?_ ?_
 rotate_left
 ·rintro w' ⟨s1,s2,s3,s4,s5⟩
  go_simp
  with_reducible rfl
 rotate_left
 ·simp only [Act.put,List.setIfInBounds_toArray,List.set_cons_zero,List.set_cons_succ,i64_w,i32_w]
  rfl
 refine pure_ (i := 18) (N := (some 22)) (v := ?_) (a' := ?_) #[true,true,true,true,true,true,true,true,true,true,true,true,true,true,true,true,true,true,true,false,false,false,false,false,false] rfl rfl (any_of HT_.out (by kernel_rfl)) (fun _ _ _ h => h) (Or.inl ⟨by rfl,?_⟩) ?_ ?_
 rotate_left
 ·intro w'
  go_simp
  with_reducible rfl
 rotate_left
 ·simp only [Act.put,List.setIfInBounds_toArray,List.set_cons_zero,List.set_cons_succ,i64_w,i32_w]
  rfl
 refine take_ (i := 19) (N := (some 23)) (v := ?_) (a' := ?_) #[true,true,true,true,true,true,true,true,true,true,true,true,true,true,true,true,true,true,true,true,false,false,false,false,false] rfl rfl (take_ofW HT_.out HW_.out (by kernel_rfl)) (fun _ _ _ h => h) (Or.inl ⟨by rfl,?_⟩) hHeld ?_ ?_
 rotate_left
 ·rintro w' ⟨s1,s2,s3,s4,s5⟩
  go_simp
  with_reducible rfl
 rotate_left
 ·simp only [Act.put,List.setIfInBounds_toArray,List.set_cons_zero,List.set_cons_succ,i64_w,i32_w]
  rfl
 refine take_ (i := 20) (N := (some 24)) (v := ?_) (a' := ?_) #[true,true,true,true,true,true,true,true,true,true,true,true,true,true,true,true,true,true,true,true,true,false,false,false,false] rfl rfl (take_ofW HT_.out HW_.out (by kernel_rfl)) (fun _ _ _ h => h) (Or.inl ⟨by rfl,?_⟩) hHeld ?_ ?_
 rotate_left
 ·rintro w' ⟨s1,s2,s3,s4,s5⟩
  go_simp
  with_reducible rfl
 rotate_left
 ·simp only [Act.put,List.setIfInBounds_toArray,List.set_cons_zero,List.set_cons_succ,i64_w,i32_w]
  rfl
 refine one_ (i := 21) (N := (some 25)) #[true,true,true,true,true,true,true,true,true,true,true,true,true,true,true,true,true,true,true,true,true,true,false,false,false] rfl rfl (one_of HT_.out (by kernel_rfl)) (by decide) (fun K hK => ?_)
 refine value_ (w1 := ?_) (v := ?_) (by rfl) rfl ?_ ?_
 rotate_left 2
 ·go_simp
  constructor
  ·rfl
  ·rfl
 refine hK.out _ _ (sees5 hHeld (below_alloc (Below.refl _ _) _)) (fun hHeld1 => ?_)
 clear hK K
 refine norm_ (a' := ?_) ?_ ?_
 rotate_left
 ·show Act.put _ (some 25) _ = _
  simp only [Act.put,List.setIfInBounds_toArray,List.set_cons_zero,List.set_cons_succ,i64_w,i32_w]
  rfl
 refine one_ (i := 22) (N := (some 26)) #[true,true,true,true,true,true,true,true,true,true,true,true,true,true,true,true,true,true,true,true,true,true,true,false,false] rfl rfl (one_of HT_.out (by kernel_rfl)) (by decide) (fun K hK => ?_)
 refine Kd.R_append_step k35 (w0 := W) base (by rfl) (.tmp 23) (.tmp 25) 33 35 (.agg #[.string ⟨#[]⟩,.int .i64 0]) 24 rfl Tryd.underlying33 info35 rfl (by decide) (by decide) (.slice A1 L.length cc1) L x [.string x.f0,.int .i64 x.f1] (fun k => oki k ∨ ok k ∧ V.heap.size ≤ k) (fun _ => False) rfl rfl (k35_mkM _ _ _ x) (fun _ hk => hk.elim) (fun k hk => .inr ⟨hf k (Nat.le_trans hbl.size hk),hk⟩) (Kd.R_mono hI0 (fun k hk => .inl hk)) hB0 hbV (by omega) ?_
 intro v1 w1 hI1 hB1 hg1 hat1
 rw [hLx] at hI1
 obtain ⟨A2,cc2,rfl⟩ := Kd.R_slice hI1
 have hp1 := blk_grown hp0 hg1 (fun he => hip p he.symm rfl)
 have hH1 := Kd.H_grown hH0 hg1 (fun k hk => .inl (hI0.1 k hk))
 have hK1 := Kept.of_grown hg1 hK0 (fun k hk => .inl (.inl (hoT k (hI0.1 k hk))))
 have hx1 := blk_grown hx0 hg1 (fun he => hib _ he.symm rfl)
 have hi1 := hin_at hH1 hr.1 (by omega)
 refine hK.out _ _ ⟨(blk_cell hp1 1).trans rfl,(blk_cell hp1 2).trans rfl,hi1,(blk_cell hx1 0).trans rfl,(blk_cell hx1 1).trans rfl⟩ (fun hHeld2 => ?_)
 clear hK K
 refine norm_ (a' := ?_) ?_ ?_
 rotate_left
 ·show Act.put _ (some 26) _ = _
  simp only [Act.put,List.setIfInBounds_toArray,List.set_cons_zero,List.set_cons_succ,i64_w,i32_w]
  rfl
 refine pure_ (i := 23) (N := (some 27)) (v := ?_) (a' := ?_) #[true,true,true,true,true,true,true,true,true,true,true,true,true,true,true,true,true,true,true,true,true,true,true,true,false] rfl rfl (any_of HT_.out (by kernel_rfl)) (fun _ _ _ h => h) (Or.inl ⟨by rfl,?_⟩) ?_ ?_
 rotate_left
 ·intro w'
  go_simp
  with_reducible rfl
 rotate_left
 ·simp only [Act.put,List.setIfInBounds_toArray,List.set_cons_zero,List.set_cons_succ,i64_w,i32_w]
  rfl
 refine last_ (i := 24) (N := none) #[true,true,true,true,true,true,true,true,true,true,true,true,true,true,true,true,true,true,true,true,true,true,true,true,true] rfl rfl (one_of HT_.out (by kernel_rfl)) (by decide) (fun K hK => ?_)
 have hin1 := (Kd.H_at hH1 hr.1 (by omega)).1 0 _ rfl
 have hfi1 := (Kd.H_at hH1 hr.1 (by omega)).2 0
 rw [hz,Nat.mul_one,Nat.add_zero] at hin1 hfi1
 have hin2 : w1.cell? ⟨g,r.toNat,none⟩ = _ := hin1
 have hfi2 : w1.frozen? ⟨g,r.toNat,none⟩ = _ := hfi1
 refine skip_ (w1 := ?_) (by rfl) rfl ?_ ?_
 rotate_left
 ·go_simp
  rfl
 refine hK.out _ _ ?_
 clear hK K
 have hS2 := (slot_put hH1 hr.1 (by omega) rfl hI1)
 have hp2 : (w1.setCell ⟨g,r.toNat,none⟩ (.slice A2 Lx.length cc2)).heap[p]? = _ := (Below.heap_setCell w1 ⟨g,r.toNat,none⟩ (.slice A2 Lx.length cc2) p hpg).trans hp1
 have hB2 := (hB1.setCell (p := ⟨g,r.toNat,none⟩) hg0 (.slice A2 Lx.length cc2))
 have hK2 := (hK1.setCell (p := ⟨g,r.toNat,none⟩) (.inl (.inl hgok)) (.slice A2 Lx.length cc2))
 generalize (w1.setCell ⟨g,r.toNat,none⟩ (.slice A2 Lx.length cc2)) = V1 at hS2 hp2 hB2 hK2 ⊢
 clear hHeld2 hin1 hfi1 hin2 hfi2 hp1 hH1 hI1 hB1 hg1 hat1 hK1
 have hS1 := hS2
 have hp1 := hp2
 have hB1 := hB2
 have hK1 := hK2
 clear hS2 hp2 hB2 hK2
 refine done_ (done_of HT_.out (by kernel_rfl)) ?_
 clear HT_ HW_
 have hpl1 := blk_lt hp1
 have d3 : V1.cell? ⟨p,3,none⟩ = some (.int .i64 c) := (blk_cell hp1 3).trans rfl
 have g3 := blk_frozen hp1 3
 go_upto_region 3 with (fail)
 have hp2 : (V1.setCell ⟨p,3,none⟩ (.int .i64 (c + 1))).heap[p]? = _ := blk_put hp1 3 _ rfl
 have hS2 := Kd.S_far (p := ⟨p,3,none⟩) hS1 (fun k hk (he : k = p) => hne (he ▸ hk)) (.int .i64 (c + 1))
 have hB2 := hB1.setCell (p := ⟨p,3,none⟩) hlow (.int .i64 (c + 1))
 have hK2 := hK1.setCell (p := ⟨p,3,none⟩) (.inl (.inr rfl)) (.int .i64 (c + 1))
 generalize (V1.setCell ⟨p,3,none⟩ (.int .i64 (c + 1))) = V2 at hp2 hS2 hB2 hK2 ⊢
 clear hp1 hS1 hB1 hK1 d3 g3 hpl1
 have hpl2 := blk_lt hp2
 have e0 : V2.cell? ⟨p,0,none⟩ = some (.int .i64 wd) := (blk_cell hp2 0).trans rfl
 have e3 : V2.cell? ⟨p,3,none⟩ = some (.int .i64 (c + 1)) := (blk_cell hp2 3).trans rfl
 have hn : ∀ k,ok k → k ≠ p := fun k hk he => hne (he ▸ hk)
 go_quiet (fail)
 have hp3 : (V2.drewN nq).heap[p]? = _ := hp2
 have hS3 := Kd.S_drewN hS2 nq
 have hB3 := pw_below_drewN hB2 nq
 have hK3 := Kept.drewN hK2 nq
 generalize V2.drewN nq = V3 at hp3 hS3 hB3 hK3 ⊢
 clear hp2 hS2 hB2 hK2 e0 e3 hpl2
 by_cases hcw : c + 1 = wd
 ·have hcw' := eq_true hcw
  have hlen : (setRow rows r.toNat Lx).length = rows.length := by unfold setRow;simp
  go_wp2_with (go_at_call 54;refine (gr_down (base := base) (ok := ok) (grid_at hp3 hS3 hlow hne) (fun k hk => hf k (Nat.le_trans hK3.1 hk)) (Nat.le_trans hb hK3.1) ⟨hr.1,by omega⟩ (by omega)).mono ?_;rintro e w6 ⟨rfl,hG6,hB6,hK6⟩)
  refine bodyPost_end (results_none rfl _ _ _) rfl ?_
  exact ⟨rfl,hG6,hB3.trans hB6,hK3.then_ hK6 (fun k hk => .inl hk)⟩
 ·have hcw' := eq_false hcw
  go_wp2
  refine bodyPost_end (results_none rfl _ _ _) rfl ?_
  exact ⟨rfl,grid_at hp3 hS3 hlow hne,hB3,hK3⟩
end Go.Proofs.YtnpjaaldppemlaaDoor.U
end
section
namespace Go.Proofs.YtnpjaaldppemlaaDoor.U
open Go.RowKit Go.Proofs.YtnpjaaldppemlaaDoorW.PrintWords Go.Proofs.YtnpjaaldppemlaaDoorW.PrintLast Go.Proofs.YtnpjaaldppemlaaDoorW.PrintMore
set_option linter.unusedVariables false
set_option linter.unusedSimpArgs false
/-- The rows behind the pen's,and the pen's row. -/
abbrev Ly := List (List Cl) × List Cl
def Ly.down (s : Ly) : Ly := (s.1 ++ [s.2],[])
def Ly.cell (wd : Int) (s : Ly) (x : Cl) : Ly := if (s.2.length : Int) + 1 = wd then (s.1 ++ [s.2 ++ [x]],[]) else (s.1,s.2 ++ [x])
def badB : ByteArray := ⟨#[239,191,189]⟩
/-- A cluster is laid: drawn d,of which the first character has n bytes. -/
def Ly.lay (wd : Int) (s : Ly) (cls cells : Int) (d : ByteArray) (n : Nat) : Ly :=
 if cells = 0 then s.down else if cells = 1 then s.cell wd ⟨d,1⟩ else if wd = 1 then s.cell wd ⟨badB,1⟩ else
 if cls = 4 then ((if (s.2.length : Int) = wd - 1 then s.down else s).cell wd ⟨d,2⟩).cell wd ⟨⟨#[]⟩,0⟩
 else ((if (s.2.length : Int) = wd - 1 then s.down else s).cell wd ⟨d.extract 0 n,1⟩).cell wd ⟨d.extract n d.size,1⟩
/-- The pen stands on the grid. -/
def Ly.Fit (wd : Int) (s : Ly) : Prop := 1 ≤ wd ∧ wd ≤ 65535 ∧ (s.2.length : Int) < wd
theorem Ly.Fit.down {wd : Int} {s : Ly} (h : s.Fit wd) : s.down.Fit wd := ⟨h.1,h.2.1,by have := h.1;simpa [Ly.down] using (by omega : (0 : Int) < wd)⟩
theorem Ly.Fit.cell {wd : Int} {s : Ly} (h : s.Fit wd) (x : Cl) : (s.cell wd x).Fit wd := by
 obtain ⟨h1,h2,h3⟩ := h
 unfold Ly.cell
 split
 ·exact ⟨h1,h2,by simpa using (by omega : (0 : Int) < wd)⟩
 ·exact ⟨h1,h2,by simp only [List.length_append,List.length_singleton];omega⟩
theorem Ly.len_down (s : Ly) : s.down.1.length = s.1.length + 1 := by simp [Ly.down]
theorem Ly.len_cell (wd : Int) (s : Ly) (x : Cl) : (s.cell wd x).1.length ≤ s.1.length + 1 := by
 unfold Ly.cell
 split
 ·simp
 ·simp
theorem Ly.Fit.lay {wd : Int} {s : Ly} (h : s.Fit wd) (cls cells : Int) (d : ByteArray) (n : Nat) : (s.lay wd cls cells d n).Fit wd := by
 have hm : (if (s.2.length : Int) = wd - 1 then s.down else s).Fit wd := by
  split
  ·exact h.down
  ·exact h
 unfold Ly.lay
 split
 ·exact h.down
 split
 ·exact h.cell _
 split
 ·exact h.cell _
 split
 ·exact (hm.cell _).cell _
 ·exact (hm.cell _).cell _
theorem Ly.len_lay (wd : Int) (s : Ly) (cls cells : Int) (d : ByteArray) (n : Nat) : (s.lay wd cls cells d n).1.length ≤ s.1.length + 3 := by
 have hm : (if (s.2.length : Int) = wd - 1 then s.down else s).1.length ≤ s.1.length + 1 := by
  split
  ·exact Nat.le_of_eq (Ly.len_down s)
  ·exact Nat.le_succ _
 unfold Ly.lay
 split
 ·rw [Ly.len_down];omega
 split
 ·exact Nat.le_trans (Ly.len_cell wd s _) (by omega)
 split
 ·exact Nat.le_trans (Ly.len_cell wd s _) (by omega)
 split
 ·exact Nat.le_trans (Ly.len_cell wd _ _) (by have := Ly.len_cell wd (if (s.2.length : Int) = wd - 1 then s.down else s) ⟨d,2⟩;omega)
 ·exact Nat.le_trans (Ly.len_cell wd _ _) (by have := Ly.len_cell wd (if (s.2.length : Int) = wd - 1 then s.down else s) ⟨d.extract 0 n,1⟩;omega)
/-- A grid of type T at block p on which s has been laid. -/
def LyAt (T base p : Nat) (ok : Nat → Prop) (W : World) (wd : Int) (s : Ly) : Prop := GridAt T base p ok W wd (s.1 ++ [s.2]) s.1.length s.2.length
theorem LyAt.bound {T base p : Nat} {ok : Nat → Prop} {W : World} {wd : Int} {s : Ly} (h : LyAt T base p ok W wd s) : LyAt T base p (fun k => ok k ∧ k < W.heap.size) W wd s := by
 obtain ⟨⟨rv,h1,h2⟩,h3,h4⟩ := h
 exact ⟨⟨rv,h1,Kd.S_mono (Kd.S_bound h2) (fun k hk => ⟨hk.1,hk.2.2.1⟩)⟩,h3,fun h => h4 h.1⟩
theorem LyAt.lt {T base p : Nat} {ok : Nat → Prop} {W : World} {wd : Int} {s : Ly} (h : LyAt T base p ok W wd s) : p < W.heap.size := by
 obtain ⟨⟨rv,h1,h2⟩,h3,h4⟩ := h
 exact blk_lt h1
theorem LyAt.mono {T base p : Nat} {ok ok' : Nat → Prop} {W : World} {wd : Int} {s : Ly} (h : LyAt T base p ok W wd s) (hk : ∀ k,ok k → ok' k) (hn : ¬ ok' p) : LyAt T base p ok' W wd s := GridAt.mono h hk hn
theorem LyAt.below {T base p : Nat} {ok : Nat → Prop} {W w1 : World} {wd : Int} {s : Ly} (h : LyAt T base p ok W wd s) (hb : Below W.heap.size W w1) : LyAt T base p ok w1 wd s := by
 obtain ⟨⟨rv,h1,h2⟩,h3,h4⟩ := h
 exact ⟨⟨rv,(hb.block p (blk_lt h1)).trans h1,Kd.S_below h2 hb⟩,h3,h4⟩
theorem setRow_end (a : List (List Cl)) (b L : List Cl) : setRow (a ++ [b]) a.length L = a ++ [L] := by unfold setRow;simp
theorem gr_downL {base p : Nat} {ok : Nat → Prop} {W : World} {wd : Int} {s : Ly} (h : LyAt 65 base p ok W wd s) (hf : ∀ k,W.heap.size ≤ k → ok k) (hb : base ≤ W.heap.size) (hl : s.1.length ≤ 1099511627776) :
  Calls Tryd.prog 54 #[.pointer (some ⟨p,0,none⟩)] W fun e w' => e = .returned (.tuple #[]) ∧ LyAt 65 base p ok w' wd s.down ∧ Below base W w' ∧ Kept W w' (fun k => ok k ∨ k = p) := by
 refine (gr_down h hf hb ⟨by omega,by omega⟩ (by simp;omega)).mono ?_
 rintro e w' ⟨rfl,hG,hB,hK⟩
 refine ⟨rfl,?_,hB,hK⟩
 unfold LyAt
 have he : ((s.1.length : Int) + 1) = ((s.down.1.length : Nat) : Int) := by rw [Ly.len_down];omega
 rw [he] at hG
 exact hG
theorem gr_putL {base p : Nat} {ok : Nat → Prop} {W : World} {wd : Int} {s : Ly} (h : LyAt 65 base p ok W wd s) (hf : ∀ k,W.heap.size ≤ k → ok k) (hb : base ≤ W.heap.size) (hF : s.Fit wd) (hl : s.1.length ≤ 1099511627776) (x : Cl) :
  Calls Tryd.prog 55 #[.pointer (some ⟨p,0,none⟩),.agg #[.string x.f0,.int .i64 x.f1]] W fun e w' => e = .returned (.tuple #[]) ∧ LyAt 65 base p ok w' wd (s.cell wd x) ∧ Below base W w' ∧ Kept W w' (fun k => ok k ∨ k = p) := by
 obtain ⟨h1,h2,h3⟩ := hF
 have hg : ((s.1 ++ [s.2]).getD (s.1.length : Int).toNat []) = s.2 := by simp
 refine (gr_put h hf hb ⟨by omega,by simp only [List.length_append,List.length_singleton];omega⟩ ⟨by omega,by omega⟩ (by simp;omega) (by rw [hg];omega) x).mono ?_
 rintro e w' ⟨rfl,hG,hB,hK⟩
 refine ⟨rfl,?_,hB,hK⟩
 rw [hg,Int.toNat_natCast,setRow_end] at hG
 unfold Ly.cell LyAt
 split at hG
 ·rename_i hc
  rw [if_pos hc]
  have he : ((s.1.length : Int) + 1) = (((s.1 ++ [s.2 ++ [x]]).length : Nat) : Int) := by simp
  rw [he] at hG
  exact hG
 ·rename_i hc
  rw [if_neg hc]
  have he : ((s.2.length : Int) + 1) = (((s.2 ++ [x]).length : Nat) : Int) := by simp
  rw [he] at hG
  exact hG
end Go.Proofs.YtnpjaaldppemlaaDoor.U
end
