/- What the law ChangeCases reaches of this seat's own texts, merged; what nothing uses is left out. -/
import Derived.Test.YtfmnmjoofnbnfaaDoorZChangeCases0
import Derived.Test.YtfmnmjoofnbnfaaDoorZChangeCases1
import Derived.Test.YtfmnmjoofnbnfaaDoorZChangeCases2
section
namespace Go.Proofs.YtfmnmjoofnbnfaaDoor.U
open Go.RowKit Go.Proofs.YtfmnmjoofnbnfaaDoorW.PrintWords Go.Proofs.YtfmnmjoofnbnfaaDoorW.PrintLast Go.Proofs.YtfmnmjoofnbnfaaDoorW.PrintMore
attribute [local go_sem] max2_int min2_int max_two min_two max_three min_three max_four min_four   -- for this text's walks alone
set_option linter.unusedVariables false
set_option linter.unusedSimpArgs false
mutual
def width_Class.j0 : Nat → Int → Bool → Option (Int)
 | 0,_,_ => none
 | k + 1,x0,x3 => if x3 = true then (some 5) else (if x0 = 10 then (some 1) else (if x0 < 32 then (width_Class.j1 k x0 true) else (if x0 ≥ 127 then (width_Class.j1 k x0 (decide (x0 ≤ 159))) else (width_Class.j1 k x0 false))))
def width_Class.j1 : Nat → Int → Bool → Option (Int)
 | 0,_,_ => none
 | k + 1,x0,x21 => if x21 = true then (some 2) else ((width_marks.f).bind fun t124 => ((width_within_rune.f t124 x0).bind fun t127 => (if t127 = true then (some 3) else ((width_wides.f).bind fun t128 => ((width_within_rune.f t128 x0).bind fun t131 => (if t131 = true then (some 4) else (some 0)))))))
end
def width_Class.f (k : Nat) (a0 : Int) : Option (Int) := if a0 < 0 then (width_Class.j0 k a0 true) else (if a0 > 1114111 then (width_Class.j0 k a0 true) else (if a0 ≥ 55296 then (width_Class.j0 k a0 (decide (a0 ≤ 57343))) else (width_Class.j0 k a0 false)))
theorem width_Class.mono_l : ∀ k,(∀ y0 y1,LeO (width_Class.j0 k y0 y1) (width_Class.j0 (k + 1) y0 y1)) ∧ (∀ y0 y1,LeO (width_Class.j1 k y0 y1) (width_Class.j1 (k + 1) y0 y1))
 | 0 => ⟨fun _ _ r h => by simp [width_Class.j0] at h,fun _ _ r h => by simp [width_Class.j1] at h⟩
 | k + 1 => by
  obtain ⟨ih0,ih1⟩ := width_Class.mono_l k
  refine ⟨?_,?_⟩
  ·intro y0 y1
   unfold width_Class.j0
   repeat' first
   | (with_reducible exact ih0 _ _)
   | (with_reducible exact ih1 _ _)
   | (with_reducible exact LeO.refl _)
   | (with_reducible exact LeO.none _)
   | (with_reducible refine LeO.ite ?_ ?_)
   | (with_reducible refine LeO.bind ?_ (fun _ => ?_))
   | exact ih0 _ _
   | exact ih1 _ _
   | exact LeO.none _
   | refine LeO.ite ?_ ?_
   | refine LeO.bind ?_ (fun _ => ?_)
  ·intro y0 y1
   unfold width_Class.j1
   repeat' first
   | (with_reducible exact ih0 _ _)
   | (with_reducible exact ih1 _ _)
   | (with_reducible exact LeO.refl _)
   | (with_reducible exact LeO.none _)
   | (with_reducible refine LeO.ite ?_ ?_)
   | (with_reducible refine LeO.bind ?_ (fun _ => ?_))
   | exact ih0 _ _
   | exact ih1 _ _
   | exact LeO.none _
   | refine LeO.ite ?_ ?_
   | refine LeO.bind ?_ (fun _ => ?_)
theorem width_Class.mono : ∀ a0 k,LeO (width_Class.f k a0) (width_Class.f (k + 1) a0) := by
 intro a0 k
 obtain ⟨ih0,ih1⟩ := width_Class.mono_l k
 unfold width_Class.f
 repeat' first
   | (with_reducible exact ih0 _ _)
   | (with_reducible exact ih1 _ _)
   | (with_reducible exact LeO.refl _)
   | (with_reducible exact LeO.none _)
   | (with_reducible refine LeO.ite ?_ ?_)
   | (with_reducible refine LeO.bind ?_ (fun _ => ?_))
   | exact ih0 _ _
   | exact ih1 _ _
   | exact LeO.none _
   | refine LeO.ite ?_ ?_
   | refine LeO.bind ?_ (fun _ => ?_)
set_option maxHeartbeats 8000000 in
set_option maxRecDepth 100000 in
theorem width_Class.calls (k : Nat) (a0 : Int) (r : Int) (w : World) (h : width_Class.f k a0 = some r) :
  Calls Tryd.prog 65 #[.int .i32 a0] w fun e w' => e = .returned (.int .i64 r) ∧ Below w.heap.size w w' := by
 have HB := Aside0.mk (Below.refl w.heap.size w)
 have H : (if a0 < 0 then (width_Class.j0 k a0 true) else (if a0 > 1114111 then (width_Class.j0 k a0 true) else (if a0 ≥ 55296 then (width_Class.j0 k a0 (decide (a0 ≤ 57343))) else (width_Class.j0 k a0 false)))) = some r := h
 clear h
 have HC2 := Aside0.mk H
 clear H
 go_enter Tryd.func65,Tryd.ntmps65
 go_upto_region 1 with (fail)
 go_cut [3] (fun v3 wc => ∃ (kq : Nat) (x3_1 : Bool),v3 = .bool x3_1 ∧ Aside0 (width_Class.j0 kq a0 x3_1 = some r) ∧ Aside0 (kq ≤ k) ∧ Aside0 (Below w.heap.size w wc))
 case first =>
  have H := HC2.out
  clear HC2
  by_cases c3 : a0 < 0
  ·rw [if_pos c3] at H
   have c3b0 : decide (a0 < 0) = true := decide_eq_true c3
   clear c3
   (first | rw [c3b0] | (simp only [i64_w,i32_w];rw [c3b0]) | skip)
   have H' := Aside0.mk H
   clear H
   go_wp2
   go_meet
   case rel => exact ⟨_,(true),au8,H',⟨by first | omega | exact Nat.le_refl _⟩,⟨au0⟩⟩
  ·rw [if_neg c3] at H
   have c3b0 : decide (a0 < 0) = false := decide_eq_false c3
   clear c3
   (first | rw [c3b0] | (simp only [i64_w,i32_w];rw [c3b0]) | skip)
   by_cases c4 : a0 > 1114111
   ·rw [if_pos c4] at H
    have c4b0 : decide (1114111 < a0) = true := decide_eq_true c4
    clear c4
    have H' := Aside0.mk H
    clear H
    go_wp2
    go_meet
    case rel => exact ⟨_,(true),au8,H',⟨by first | omega | exact Nat.le_refl _⟩,⟨au0⟩⟩
   ·rw [if_neg c4] at H
    have c4b0 : decide (1114111 < a0) = false := decide_eq_false c4
    clear c4
    by_cases c5 : a0 ≥ 55296
    ·rw [if_pos c5] at H
     have c5b0 : decide (55296 ≤ a0) = true := decide_eq_true c5
     clear c5
     have H' := Aside0.mk H
     clear H
     go_wp2
     go_meet
     case rel => exact ⟨_,(decide (a0 ≤ 57343)),au8,H',⟨by first | omega | exact Nat.le_refl _⟩,⟨au0⟩⟩
    ·rw [if_neg c5] at H
     have c5b0 : decide (55296 ≤ a0) = false := decide_eq_false c5
     clear c5
     have H' := Aside0.mk H
     clear H
     go_wp2
     go_meet
     case rel => exact ⟨_,(false),au8,H',⟨by first | omega | exact Nat.le_refl _⟩,⟨au0⟩⟩
 case rest =>
  clear HC2
  try clear p2
  try clear c3
  try clear c3b0
  try clear c4
  try clear c4b0
  try clear c5
  try clear c5b0
  obtain ⟨kq,x3_1,rfl,HA,HJ1,HB⟩ := hcut
  cases kq with
  | zero => exact absurd HA.out (by simp [width_Class.j0])
  | succ kj1 =>
   have H := HA.out
   clear HA
   simp only [width_Class.j0] at H
   by_cases c6 : x3_1 = true
   ·subst c6
    have H1 : (some 5) = some r := by rw [if_pos rfl] at H;exact H
    clear H
    have H := H1
    clear H1
    obtain rfl := Option.some.inj H
    go_wp2
    go_ret
    exact ⟨au2,au0⟩
   ·replace c6 := Bool.eq_false_iff.mpr c6
    subst c6
    have H1 : (if a0 = 10 then (some 1) else (if a0 < 32 then (width_Class.j1 kj1 a0 true) else (if a0 ≥ 127 then (width_Class.j1 kj1 a0 (decide (a0 ≤ 159))) else (width_Class.j1 kj1 a0 false)))) = some r := by rw [if_neg (show ¬ (false = true) by decide)] at H;exact H
    clear H
    have H := H1
    clear H1
    by_cases c7 : a0 = 10
    ·rw [if_pos c7] at H
     have c7b0 : (a0 == 10) = true := beq_iff_eq.mpr c7
     have c7b1 : (a0 != 10) = false := bne_eq_false_iff_eq.mpr c7
     clear c7
     obtain rfl := Option.some.inj H
     go_wp2
     go_ret
     exact ⟨au2,au0⟩
    ·rw [if_neg c7] at H
     have c7b0 : (a0 == 10) = false := beq_eq_false_iff_ne.mpr c7
     have c7b1 : (a0 != 10) = true := bne_iff_ne.mpr c7
     have HC8 := Aside0.mk H
     clear H
     go_upto_region 5 with (fail)
     go_cut [21] (fun v21 wc => ∃ (kq : Nat) (x21_7 : Bool),v21 = .bool x21_7 ∧ Aside0 (width_Class.j1 kq a0 x21_7 = some r) ∧ Aside0 (kq ≤ kj1) ∧ Aside0 (Below w.heap.size w wc))
     case first =>
      have H := HC8.out
      clear HC8
      by_cases c9 : a0 < 32
      ·rw [if_pos c9] at H
       have c9b0 : decide (a0 < 32) = true := decide_eq_true c9
       clear c9
       (first | rw [c9b0] | (simp only [i64_w,i32_w];rw [c9b0]) | skip)
       have H' := Aside0.mk H
       clear H
       go_wp2
       go_meet
       case rel => exact ⟨_,(true),au8,H',⟨by have := HJ1.out;first | omega | exact Nat.le_refl _⟩,⟨au0⟩⟩
      ·rw [if_neg c9] at H
       have c9b0 : decide (a0 < 32) = false := decide_eq_false c9
       clear c9
       (first | rw [c9b0] | (simp only [i64_w,i32_w];rw [c9b0]) | skip)
       by_cases c10 : a0 ≥ 127
       ·rw [if_pos c10] at H
        have c10b0 : decide (127 ≤ a0) = true := decide_eq_true c10
        clear c10
        have H' := Aside0.mk H
        clear H
        go_wp2
        go_meet
        case rel => exact ⟨_,(decide (a0 ≤ 159)),au8,H',⟨by have := HJ1.out;first | omega | exact Nat.le_refl _⟩,⟨au0⟩⟩
       ·rw [if_neg c10] at H
        have c10b0 : decide (127 ≤ a0) = false := decide_eq_false c10
        clear c10
        have H' := Aside0.mk H
        clear H
        go_wp2
        go_meet
        case rel => exact ⟨_,(false),au8,H',⟨by have := HJ1.out;first | omega | exact Nat.le_refl _⟩,⟨au0⟩⟩
     case rest =>
      clear HC8
      try clear c1
      try clear p2
      try clear c3
      try clear c3b0
      try clear c4
      try clear c4b0
      try clear c5
      try clear c5b0
      try clear c6
      try clear c7
      try clear c7b0
      try clear c7b1
      try clear c9
      try clear c9b0
      try clear c10
      try clear c10b0
      try clear p2
      obtain ⟨kq,x21_7,rfl,HA,HJ7,HB⟩ := hcut
      cases kq with
      | zero => exact absurd HA.out (by simp [width_Class.j1])
      | succ kj7 =>
       have H := HA.out
       clear HA
       simp only [width_Class.j1] at H
       by_cases c11 : x21_7 = true
       ·subst c11
        have H1 : (some 2) = some r := by rw [if_pos rfl] at H;exact H
        clear H
        have H := H1
        clear H1
        obtain rfl := Option.some.inj H
        go_wp2
        go_ret
        exact ⟨au2,au0⟩
       ·replace c11 := Bool.eq_false_iff.mpr c11
        subst c11
        have H1 : ((width_marks.f).bind fun t124 => ((width_within_rune.f t124 a0).bind fun t127 => (if t127 = true then (some 3) else ((width_wides.f).bind fun t128 => ((width_within_rune.f t128 a0).bind fun t131 => (if t131 = true then (some 4) else (some 0))))))) = some r := by rw [if_neg (show ¬ (false = true) by decide)] at H;exact H
        clear H
        have H := H1
        clear H1
        replace H := Option.bind_eq_some_iff.mp H
        obtain ⟨t124,A120,H⟩ := H
        replace H : ((width_within_rune.f t124 a0).bind fun t127 => (if t127 = true then (some 3) else ((width_wides.f).bind fun t128 => ((width_within_rune.f t128 a0).bind fun t131 => (if t131 = true then (some 4) else (some 0)))))) = some r := H
        have A12 := Aside0.mk A120
        clear A120
        replace H := Option.bind_eq_some_iff.mp H
        obtain ⟨t127,A130,H⟩ := H
        replace H : (if t127 = true then (some 3) else ((width_wides.f).bind fun t128 => ((width_within_rune.f t128 a0).bind fun t131 => (if t131 = true then (some 4) else (some 0))))) = some r := H
        have A13 := Aside0.mk A130
        clear A130
        by_cases c14 : t127 = true
        ·subst c14
         have H1 : (some 3) = some r := by rw [if_pos rfl] at H;exact H
         clear H
         have H := H1
         clear H1
         obtain rfl := Option.some.inj H
         go_wp2_with (first | ((with_reducible refine gate_callee (f := 78) rfl ?_);refine goesL_ (some 33) rfl rfl Tryd.func78 (by kernel_rfl) rfl #[] rfl au1 ?_;(with_reducible refine (width_marks.calls  t124 _ A12.out).mono ?_);rintro e w15 ⟨v125,rfl,ho0,hb⟩;refine ⟨_,rfl,?_⟩;have n0_ := Aside0.mk (Kd.R_lower ho0 (below_size au0));have n1_ := Aside0.mk (below_step au0 hb);clear HB;have HO126 := n0_;have HB := n1_;clear n0_ n1_;(try clear hb);(try clear hb2);(try clear hk);(try clear hi);(try clear ho0);obtain ⟨Ao16,co16,eo16⟩ := Kd.R_slice HO126.out;subst eo16) | ((with_reducible refine gate_callee (f := 77) rfl ?_);refine goesL_ (some 35) rfl rfl Tryd.func77 (by kernel_rfl) rfl #[.slice Ao16 t124.length co16,.int .i32 a0] rfl au1 ?_;(with_reducible refine (width_within_rune.calls _ _ t124 a0 true _ ?side1 ?side2 A13.out).mono ?_);(case side1 => repeat (first | exact (Kd.R_reads' HO126.out).2.2 | (with_reducible refine Kd.C_alloc ?_ _) | (with_reducible refine Kd.C_drewN ?_ _) | (with_reducible refine Kd.C_drew ?_)));(case side2 => exact (Kd.R_reads' HO126.out).2.1);rintro e w17 ⟨rfl,hb⟩;refine ⟨_,rfl,?_⟩;have n0_ := Aside0.mk (Kd.R_below au29 hb);have n1_ := Aside0.mk (below_step au0 hb);clear HO126;clear HB;have HO126 := n0_;have HB := n1_;clear n0_ n1_;(try clear hb);(try clear hb2);(try clear hk);(try clear hi)))
         go_ret
         exact ⟨au2,au0⟩
        ·replace c14 := Bool.eq_false_iff.mpr c14
         subst c14
         have H1 : ((width_wides.f).bind fun t128 => ((width_within_rune.f t128 a0).bind fun t131 => (if t131 = true then (some 4) else (some 0)))) = some r := by rw [if_neg (show ¬ (false = true) by decide)] at H;exact H
         clear H
         have H := H1
         clear H1
         replace H := Option.bind_eq_some_iff.mp H
         obtain ⟨t128,A180,H⟩ := H
         replace H : ((width_within_rune.f t128 a0).bind fun t131 => (if t131 = true then (some 4) else (some 0))) = some r := H
         have A18 := Aside0.mk A180
         clear A180
         replace H := Option.bind_eq_some_iff.mp H
         obtain ⟨t131,A190,H⟩ := H
         replace H : (if t131 = true then (some 4) else (some 0)) = some r := H
         have A19 := Aside0.mk A190
         clear A190
         by_cases c20 : t131 = true
         ·subst c20
          have H1 : (some 4) = some r := by rw [if_pos rfl] at H;exact H
          clear H
          have H := H1
          clear H1
          obtain rfl := Option.some.inj H
          go_wp2_with (first | ((with_reducible refine gate_callee (f := 78) rfl ?_);refine goesL_ (some 33) rfl rfl Tryd.func78 (by kernel_rfl) rfl #[] rfl au1 ?_;(with_reducible refine (width_marks.calls  t124 _ A12.out).mono ?_);rintro e w21 ⟨v125,rfl,ho0,hb⟩;refine ⟨_,rfl,?_⟩;have n0_ := Aside0.mk (Kd.R_lower ho0 (below_size au0));have n1_ := Aside0.mk (below_step au0 hb);clear HB;have HO126 := n0_;have HB := n1_;clear n0_ n1_;(try clear hb);(try clear hb2);(try clear hk);(try clear hi);(try clear ho0);obtain ⟨Ao22,co22,eo22⟩ := Kd.R_slice HO126.out;subst eo22) | ((with_reducible refine gate_callee (f := 77) rfl ?_);refine goesL_ (some 35) rfl rfl Tryd.func77 (by kernel_rfl) rfl #[.slice Ao22 t124.length co22,.int .i32 a0] rfl au1 ?_;(with_reducible refine (width_within_rune.calls _ _ t124 a0 false _ ?side1 ?side2 A13.out).mono ?_);(case side1 => repeat (first | exact (Kd.R_reads' HO126.out).2.2 | (with_reducible refine Kd.C_alloc ?_ _) | (with_reducible refine Kd.C_drewN ?_ _) | (with_reducible refine Kd.C_drew ?_)));(case side2 => exact (Kd.R_reads' HO126.out).2.1);rintro e w23 ⟨rfl,hb⟩;refine ⟨_,rfl,?_⟩;have n0_ := Aside0.mk (Kd.R_below au29 hb);have n1_ := Aside0.mk (below_step au0 hb);clear HO126;clear HB;have HO126 := n0_;have HB := n1_;clear n0_ n1_;(try clear hb);(try clear hb2);(try clear hk);(try clear hi)) | ((with_reducible refine gate_callee (f := 79) rfl ?_);refine goesL_ (some 37) rfl rfl Tryd.func79 (by kernel_rfl) rfl #[] rfl au1 ?_;(with_reducible refine (width_wides.calls  t128 _ A18.out).mono ?_);rintro e w24 ⟨v129,rfl,ho0,hb⟩;refine ⟨_,rfl,?_⟩;have n0_ := Aside0.mk (Kd.R_elder' au29 (Kd.R_base ho0) hb);have n1_ := Aside0.mk (Kd.R_lower (Kd.R_new' ho0 (Kd.R_lt au29)) (below_size au0));have n2_ := Aside0.mk (below_step au0 hb);clear HO126;clear HB;have HO126 := n0_;have HO130 := n1_;have HB := n2_;clear n0_ n1_ n2_;(try clear hb);(try clear hb2);(try clear hk);(try clear hi);(try clear ho0);obtain ⟨Ao25,co25,eo25⟩ := Kd.R_slice HO130.out;subst eo25) | ((with_reducible refine gate_callee (f := 77) rfl ?_);refine goesL_ (some 39) rfl rfl Tryd.func77 (by kernel_rfl) rfl #[.slice Ao25 t128.length co25,.int .i32 a0] rfl au1 ?_;(with_reducible refine (width_within_rune.calls _ _ t128 a0 true _ ?side1 ?side2 A19.out).mono ?_);(case side1 => repeat (first | exact (Kd.R_reads' HO130.out).2.2 | (with_reducible refine Kd.C_alloc ?_ _) | (with_reducible refine Kd.C_drewN ?_ _) | (with_reducible refine Kd.C_drew ?_)));(case side2 => exact (Kd.R_reads' HO130.out).2.1);rintro e w26 ⟨rfl,hb⟩;refine ⟨_,rfl,?_⟩;have n0_ := Aside0.mk (Kd.R_below au29 hb);have n1_ := Aside0.mk (Kd.R_below (by (with_reducible repeat (first | apply Kd.R_alloc | apply Kd.R_drewN | apply Kd.R_drew));exact HO130.out) hb);have n2_ := Aside0.mk (below_step au0 hb);clear HO126;clear HO130;clear HB;have HO126 := n0_;have HO130 := n1_;have HB := n2_;clear n0_ n1_ n2_;(try clear hb);(try clear hb2);(try clear hk);(try clear hi)))
          go_ret
          exact ⟨au2,au0⟩
         ·replace c20 := Bool.eq_false_iff.mpr c20
          subst c20
          have H1 : (some 0) = some r := by rw [if_neg (show ¬ (false = true) by decide)] at H;exact H
          clear H
          have H := H1
          clear H1
          obtain rfl := Option.some.inj H
          go_wp2_with (first | ((with_reducible refine gate_callee (f := 78) rfl ?_);refine goesL_ (some 33) rfl rfl Tryd.func78 (by kernel_rfl) rfl #[] rfl au1 ?_;(with_reducible refine (width_marks.calls  t124 _ A12.out).mono ?_);rintro e w27 ⟨v125,rfl,ho0,hb⟩;refine ⟨_,rfl,?_⟩;have n0_ := Aside0.mk (Kd.R_lower ho0 (below_size au0));have n1_ := Aside0.mk (below_step au0 hb);clear HB;have HO126 := n0_;have HB := n1_;clear n0_ n1_;(try clear hb);(try clear hb2);(try clear hk);(try clear hi);(try clear ho0);obtain ⟨Ao28,co28,eo28⟩ := Kd.R_slice HO126.out;subst eo28) | ((with_reducible refine gate_callee (f := 77) rfl ?_);refine goesL_ (some 35) rfl rfl Tryd.func77 (by kernel_rfl) rfl #[.slice Ao28 t124.length co28,.int .i32 a0] rfl au1 ?_;(with_reducible refine (width_within_rune.calls _ _ t124 a0 false _ ?side1 ?side2 A13.out).mono ?_);(case side1 => repeat (first | exact (Kd.R_reads' HO126.out).2.2 | (with_reducible refine Kd.C_alloc ?_ _) | (with_reducible refine Kd.C_drewN ?_ _) | (with_reducible refine Kd.C_drew ?_)));(case side2 => exact (Kd.R_reads' HO126.out).2.1);rintro e w29 ⟨rfl,hb⟩;refine ⟨_,rfl,?_⟩;have n0_ := Aside0.mk (Kd.R_below au29 hb);have n1_ := Aside0.mk (below_step au0 hb);clear HO126;clear HB;have HO126 := n0_;have HB := n1_;clear n0_ n1_;(try clear hb);(try clear hb2);(try clear hk);(try clear hi)) | ((with_reducible refine gate_callee (f := 79) rfl ?_);refine goesL_ (some 37) rfl rfl Tryd.func79 (by kernel_rfl) rfl #[] rfl au1 ?_;(with_reducible refine (width_wides.calls  t128 _ A18.out).mono ?_);rintro e w30 ⟨v129,rfl,ho0,hb⟩;refine ⟨_,rfl,?_⟩;have n0_ := Aside0.mk (Kd.R_elder' au29 (Kd.R_base ho0) hb);have n1_ := Aside0.mk (Kd.R_lower (Kd.R_new' ho0 (Kd.R_lt au29)) (below_size au0));have n2_ := Aside0.mk (below_step au0 hb);clear HO126;clear HB;have HO126 := n0_;have HO130 := n1_;have HB := n2_;clear n0_ n1_ n2_;(try clear hb);(try clear hb2);(try clear hk);(try clear hi);(try clear ho0);obtain ⟨Ao31,co31,eo31⟩ := Kd.R_slice HO130.out;subst eo31) | ((with_reducible refine gate_callee (f := 77) rfl ?_);refine goesL_ (some 39) rfl rfl Tryd.func77 (by kernel_rfl) rfl #[.slice Ao31 t128.length co31,.int .i32 a0] rfl au1 ?_;(with_reducible refine (width_within_rune.calls _ _ t128 a0 false _ ?side1 ?side2 A19.out).mono ?_);(case side1 => repeat (first | exact (Kd.R_reads' HO130.out).2.2 | (with_reducible refine Kd.C_alloc ?_ _) | (with_reducible refine Kd.C_drewN ?_ _) | (with_reducible refine Kd.C_drew ?_)));(case side2 => exact (Kd.R_reads' HO130.out).2.1);rintro e w32 ⟨rfl,hb⟩;refine ⟨_,rfl,?_⟩;have n0_ := Aside0.mk (Kd.R_below au29 hb);have n1_ := Aside0.mk (Kd.R_below (by (with_reducible repeat (first | apply Kd.R_alloc | apply Kd.R_drewN | apply Kd.R_drew));exact HO130.out) hb);have n2_ := Aside0.mk (below_step au0 hb);clear HO126;clear HO130;clear HB;have HO126 := n0_;have HO130 := n1_;have HB := n2_;clear n0_ n1_ n2_;(try clear hb);(try clear hb2);(try clear hk);(try clear hi)))
          go_ret
          exact ⟨au2,au0⟩
def cluster_glued.j0 : Nat → Int → Int → Bool → Option (Bool)
 | 0,_,_,_ => none
 | k + 1,x0,x1,x11 => if x11 = true then (some true) else ((width_Class.f k x0).bind fun t132 => ((width_Class.f k x1).bind fun t133 => (if t133 = 3 then (if t132 = 1 then (some false) else (some (t132 != 2))) else (some false))))
def cluster_glued.f (k : Nat) (a0 : Int) (a1 : Int) : Option (Bool) := if a0 = 13 then (cluster_glued.j0 k a0 a1 (a1 == 10)) else (cluster_glued.j0 k a0 a1 false)
theorem cluster_glued.mono_l : ∀ k,(∀ y0 y1 y2,LeO (cluster_glued.j0 k y0 y1 y2) (cluster_glued.j0 (k + 1) y0 y1 y2))
 | 0 => fun _ _ _ r h => by simp [cluster_glued.j0] at h
 | k + 1 => by
  have ih0 := cluster_glued.mono_l k
  ·intro y0 y1 y2
   unfold cluster_glued.j0
   repeat' first
   | (with_reducible exact ih0 _ _ _)
   | (with_reducible exact width_Class.mono _ _)
   | (with_reducible exact LeO.refl _)
   | (with_reducible exact LeO.none _)
   | (with_reducible refine LeO.ite ?_ ?_)
   | (with_reducible refine LeO.bind ?_ (fun _ => ?_))
   | exact ih0 _ _ _
   | exact width_Class.mono _ _
   | exact LeO.none _
   | refine LeO.ite ?_ ?_
   | refine LeO.bind ?_ (fun _ => ?_)
theorem cluster_glued.mono : ∀ a0 a1 k,LeO (cluster_glued.f k a0 a1) (cluster_glued.f (k + 1) a0 a1) := by
 intro a0 a1 k
 have ih0 := cluster_glued.mono_l k
 unfold cluster_glued.f
 repeat' first
   | (with_reducible exact ih0 _ _ _)
   | (with_reducible exact width_Class.mono _ _)
   | (with_reducible exact LeO.refl _)
   | (with_reducible exact LeO.none _)
   | (with_reducible refine LeO.ite ?_ ?_)
   | (with_reducible refine LeO.bind ?_ (fun _ => ?_))
   | exact ih0 _ _ _
   | exact width_Class.mono _ _
   | exact LeO.none _
   | refine LeO.ite ?_ ?_
   | refine LeO.bind ?_ (fun _ => ?_)
set_option maxHeartbeats 8000000 in
set_option maxRecDepth 100000 in
theorem cluster_glued.calls (k : Nat) (a0 : Int) (a1 : Int) (r : Bool) (w : World) (h : cluster_glued.f k a0 a1 = some r) :
  Calls Tryd.prog 34 #[.int .i32 a0,.int .i32 a1] w fun e w' => e = .returned (.bool r) ∧ Below w.heap.size w w' := by
 have HB := Aside0.mk (Below.refl w.heap.size w)
 have H : (if a0 = 13 then (cluster_glued.j0 k a0 a1 (a1 == 10)) else (cluster_glued.j0 k a0 a1 false)) = some r := h
 clear h
 have HC3 := Aside0.mk H
 clear H
 go_enter Tryd.func34,Tryd.ntmps34
 go_upto_region 1 with (fail)
 go_cut [11] (fun v11 wc => ∃ (kq : Nat) (x11_2 : Bool),v11 = .bool x11_2 ∧ Aside0 (cluster_glued.j0 kq a0 a1 x11_2 = some r) ∧ Aside0 (kq ≤ k) ∧ Aside0 (Below w.heap.size w wc))
 case first =>
  have H := HC3.out
  clear HC3
  by_cases c4 : a0 = 13
  ·rw [if_pos c4] at H
   have c4b0 : (a0 == 13) = true := beq_iff_eq.mpr c4
   have c4b1 : (a0 != 13) = false := bne_eq_false_iff_eq.mpr c4
   clear c4
   (first | rw [c4b0] | (simp only [i64_w,i32_w];rw [c4b0]) | skip)
   have H' := Aside0.mk H
   clear H
   go_wp2
   go_meet
   case rel => exact ⟨_,((a1 == 10)),au8,H',⟨by first | omega | exact Nat.le_refl _⟩,⟨au0⟩⟩
  ·rw [if_neg c4] at H
   have c4b0 : (a0 == 13) = false := beq_eq_false_iff_ne.mpr c4
   have c4b1 : (a0 != 13) = true := bne_iff_ne.mpr c4
   (first | rw [c4b0] | (simp only [i64_w,i32_w];rw [c4b0]) | skip)
   have H' := Aside0.mk H
   clear H
   go_wp2
   go_meet
   case rel => exact ⟨_,(false),au8,H',⟨by first | omega | exact Nat.le_refl _⟩,⟨au0⟩⟩
 case rest =>
  clear HC3
  try clear p2
  try clear c3
  try clear c4
  try clear c4b0
  try clear c4b1
  obtain ⟨kq,x11_2,rfl,HA,HJ2,HB⟩ := hcut
  cases kq with
  | zero => exact absurd HA.out (by simp [cluster_glued.j0])
  | succ kj2 =>
   have H := HA.out
   clear HA
   simp only [cluster_glued.j0] at H
   by_cases c5 : x11_2 = true
   ·subst c5
    have H1 : (some true) = some r := by rw [if_pos rfl] at H;exact H
    clear H
    have H := H1
    clear H1
    obtain rfl := Option.some.inj H
    go_wp2
    go_ret
    exact ⟨au2,au0⟩
   ·replace c5 := Bool.eq_false_iff.mpr c5
    subst c5
    have H1 : ((width_Class.f kj2 a0).bind fun t132 => ((width_Class.f kj2 a1).bind fun t133 => (if t133 = 3 then (if t132 = 1 then (some false) else (some (t132 != 2))) else (some false)))) = some r := by rw [if_neg (show ¬ (false = true) by decide)] at H;exact H
    clear H
    have H := H1
    clear H1
    replace H := Option.bind_eq_some_iff.mp H
    obtain ⟨t132,A60,H⟩ := H
    replace H : ((width_Class.f kj2 a1).bind fun t133 => (if t133 = 3 then (if t132 = 1 then (some false) else (some (t132 != 2))) else (some false))) = some r := H
    have A6 := Aside0.mk A60
    clear A60
    replace H := Option.bind_eq_some_iff.mp H
    obtain ⟨t133,A70,H⟩ := H
    replace H : (if t133 = 3 then (if t132 = 1 then (some false) else (some (t132 != 2))) else (some false)) = some r := H
    have A7 := Aside0.mk A70
    clear A70
    by_cases c8 : t133 = 3
    ·rw [if_pos c8] at H
     have c8b0 : (t133 == 3) = true := beq_iff_eq.mpr c8
     have c8b1 : (t133 != 3) = false := bne_eq_false_iff_eq.mpr c8
     clear c8
     by_cases c9 : t132 = 1
     ·rw [if_pos c9] at H
      have c9b0 : (t132 == 1) = true := beq_iff_eq.mpr c9
      have c9b1 : (t132 != 1) = false := bne_eq_false_iff_eq.mpr c9
      clear c9
      obtain rfl := Option.some.inj H
      go_wp2_with (first | ((with_reducible refine gate_callee (f := 65) rfl ?_);refine goesL_ (some 13) rfl rfl Tryd.func65 (by kernel_rfl) rfl #[.int .i32 a0] rfl au1 ?_;(with_reducible refine (width_Class.calls kj2 a0 t132 _ A6.out).mono ?_);rintro e w10 ⟨rfl,hb⟩;refine ⟨_,rfl,?_⟩;have n0_ := Aside0.mk (below_step au0 hb);clear HB;have HB := n0_;clear n0_;(try clear hb);(try clear hb2);(try clear hk);(try clear hi)) | ((with_reducible refine gate_callee (f := 65) rfl ?_);refine goesL_ (some 15) rfl rfl Tryd.func65 (by kernel_rfl) rfl #[.int .i32 a1] rfl au1 ?_;(with_reducible refine (width_Class.calls kj2 a1 t133 _ A7.out).mono ?_);rintro e w11 ⟨rfl,hb⟩;refine ⟨_,rfl,?_⟩;have n0_ := Aside0.mk (below_step au0 hb);clear HB;have HB := n0_;clear n0_;(try clear hb);(try clear hb2);(try clear hk);(try clear hi)))
      go_ret
      exact ⟨au2,au0⟩
     ·rw [if_neg c9] at H
      have c9b0 : (t132 == 1) = false := beq_eq_false_iff_ne.mpr c9
      have c9b1 : (t132 != 1) = true := bne_iff_ne.mpr c9
      obtain rfl := Option.some.inj H
      go_wp2_with (first | ((with_reducible refine gate_callee (f := 65) rfl ?_);refine goesL_ (some 13) rfl rfl Tryd.func65 (by kernel_rfl) rfl #[.int .i32 a0] rfl au1 ?_;(with_reducible refine (width_Class.calls kj2 a0 t132 _ A6.out).mono ?_);rintro e w12 ⟨rfl,hb⟩;refine ⟨_,rfl,?_⟩;have n0_ := Aside0.mk (below_step au0 hb);clear HB;have HB := n0_;clear n0_;(try clear hb);(try clear hb2);(try clear hk);(try clear hi)) | ((with_reducible refine gate_callee (f := 65) rfl ?_);refine goesL_ (some 15) rfl rfl Tryd.func65 (by kernel_rfl) rfl #[.int .i32 a1] rfl au1 ?_;(with_reducible refine (width_Class.calls kj2 a1 t133 _ A7.out).mono ?_);rintro e w13 ⟨rfl,hb⟩;refine ⟨_,rfl,?_⟩;have n0_ := Aside0.mk (below_step au0 hb);clear HB;have HB := n0_;clear n0_;(try clear hb);(try clear hb2);(try clear hk);(try clear hi)))
      go_ret
      exact ⟨au2,au0⟩
    ·rw [if_neg c8] at H
     have c8b0 : (t133 == 3) = false := beq_eq_false_iff_ne.mpr c8
     have c8b1 : (t133 != 3) = true := bne_iff_ne.mpr c8
     obtain rfl := Option.some.inj H
     go_wp2_with (first | ((with_reducible refine gate_callee (f := 65) rfl ?_);refine goesL_ (some 13) rfl rfl Tryd.func65 (by kernel_rfl) rfl #[.int .i32 a0] rfl au1 ?_;(with_reducible refine (width_Class.calls kj2 a0 t132 _ A6.out).mono ?_);rintro e w14 ⟨rfl,hb⟩;refine ⟨_,rfl,?_⟩;have n0_ := Aside0.mk (below_step au0 hb);clear HB;have HB := n0_;clear n0_;(try clear hb);(try clear hb2);(try clear hk);(try clear hi)) | ((with_reducible refine gate_callee (f := 65) rfl ?_);refine goesL_ (some 15) rfl rfl Tryd.func65 (by kernel_rfl) rfl #[.int .i32 a1] rfl au1 ?_;(with_reducible refine (width_Class.calls kj2 a1 t133 _ A7.out).mono ?_);rintro e w15 ⟨rfl,hb⟩;refine ⟨_,rfl,?_⟩;have n0_ := Aside0.mk (below_step au0 hb);clear HB;have HB := n0_;clear n0_;(try clear hb);(try clear hb2);(try clear hk);(try clear hi)))
     go_ret
     exact ⟨au2,au0⟩
def cluster_Boundary.j0 : Nat → ByteArray → Int → Bool → Option (Bool)
 | 0,_,_,_ => none
 | k + 1,x0,x1,x16 => if x16 = true then (if x1 = 0 then (some true) else (some (x1 == (x0.size : Int)))) else ((unit_Boundary.f k x0 x1).bind fun t134 => (if t134 = true then ((unit_Prev.f k x0 x1).bind fun t135 => ((unit_At.f k x0 t135).bind fun bt136 => ((unit_At.f k x0 x1).bind fun bt140 => ((cluster_glued.f k bt136.1 bt140.1).bind fun t144 => (some (!t144)))))) else (some false)))
def cluster_Boundary.f (k : Nat) (a0 : ByteArray) (a1 : Int) : Option (Bool) := if a1 ≤ 0 then (cluster_Boundary.j0 k a0 a1 true) else (cluster_Boundary.j0 k a0 a1 (decide (a1 ≥ (a0.size : Int))))
theorem cluster_Boundary.mono_l : ∀ k,(∀ y0 y1 y2,LeO (cluster_Boundary.j0 k y0 y1 y2) (cluster_Boundary.j0 (k + 1) y0 y1 y2))
 | 0 => fun _ _ _ r h => by simp [cluster_Boundary.j0] at h
 | k + 1 => by
  have ih0 := cluster_Boundary.mono_l k
  ·intro y0 y1 y2
   unfold cluster_Boundary.j0
   repeat' first
   | (with_reducible exact ih0 _ _ _)
   | (with_reducible exact cluster_glued.mono _ _ _)
   | (with_reducible exact unit_At.mono _ _ _)
   | (with_reducible exact unit_Boundary.mono _ _ _)
   | (with_reducible exact unit_Prev.mono _ _ _)
   | (with_reducible exact LeO.refl _)
   | (with_reducible exact LeO.none _)
   | (with_reducible refine LeO.ite ?_ ?_)
   | (with_reducible refine LeO.bind ?_ (fun _ => ?_))
   | exact ih0 _ _ _
   | exact cluster_glued.mono _ _ _
   | exact unit_At.mono _ _ _
   | exact unit_Boundary.mono _ _ _
   | exact unit_Prev.mono _ _ _
   | exact LeO.none _
   | refine LeO.ite ?_ ?_
   | refine LeO.bind ?_ (fun _ => ?_)
theorem cluster_Boundary.mono : ∀ a0 a1 k,LeO (cluster_Boundary.f k a0 a1) (cluster_Boundary.f (k + 1) a0 a1) := by
 intro a0 a1 k
 have ih0 := cluster_Boundary.mono_l k
 unfold cluster_Boundary.f
 repeat' first
   | (with_reducible exact ih0 _ _ _)
   | (with_reducible exact cluster_glued.mono _ _ _)
   | (with_reducible exact unit_At.mono _ _ _)
   | (with_reducible exact unit_Boundary.mono _ _ _)
   | (with_reducible exact unit_Prev.mono _ _ _)
   | (with_reducible exact LeO.refl _)
   | (with_reducible exact LeO.none _)
   | (with_reducible refine LeO.ite ?_ ?_)
   | (with_reducible refine LeO.bind ?_ (fun _ => ?_))
   | exact ih0 _ _ _
   | exact cluster_glued.mono _ _ _
   | exact unit_At.mono _ _ _
   | exact unit_Boundary.mono _ _ _
   | exact unit_Prev.mono _ _ _
   | exact LeO.none _
   | refine LeO.ite ?_ ?_
   | refine LeO.bind ?_ (fun _ => ?_)
set_option maxHeartbeats 8000000 in
set_option maxRecDepth 100000 in
theorem cluster_Boundary.calls (k : Nat) (a0 : ByteArray) (a1 : Int) (r : Bool) (w : World) (hT : Lib.Utf8Tabs 1 2 w) (h : cluster_Boundary.f k a0 a1 = some r) :
  Calls Tryd.prog 18 #[.string a0,.int .i64 a1] w fun e w' => e = .returned (.bool r) ∧ Below w.heap.size w w' := by
 have hu65 := Tryd.underlying65
 have HT := Aside0.mk hT
 clear hT
 have HB := Aside0.mk (Below.refl w.heap.size w)
 have H : (if a1 ≤ 0 then (cluster_Boundary.j0 k a0 a1 true) else (cluster_Boundary.j0 k a0 a1 (decide (a1 ≥ (a0.size : Int))))) = some r := h
 clear h
 have HC3 := Aside0.mk H
 clear H
 go_enter Tryd.func18,Tryd.ntmps18
 go_upto_region 1 with (fail)
 go_cut [16] (fun v16 wc => ∃ (kq : Nat) (x16_2 : Bool),v16 = .bool x16_2 ∧ Aside0 (cluster_Boundary.j0 kq a0 a1 x16_2 = some r) ∧ Aside0 (kq ≤ k) ∧ Aside0 (Below w.heap.size w wc))
 case first =>
  have H := HC3.out
  clear HC3
  by_cases c4 : a1 ≤ 0
  ·rw [if_pos c4] at H
   have c4b0 : decide (a1 ≤ 0) = true := decide_eq_true c4
   clear c4
   (first | rw [c4b0] | (simp only [i64_w,i32_w];rw [c4b0]) | skip)
   have H' := Aside0.mk H
   clear H
   go_wp2
   go_meet
   case rel => exact ⟨_,(true),au8,H',⟨by first | omega | exact Nat.le_refl _⟩,⟨au0⟩⟩
  ·rw [if_neg c4] at H
   have c4b0 : decide (a1 ≤ 0) = false := decide_eq_false c4
   clear c4
   (first | rw [c4b0] | (simp only [i64_w,i32_w];rw [c4b0]) | skip)
   have H' := Aside0.mk H
   clear H
   go_wp2
   go_meet
   case rel => exact ⟨_,(decide (a1 ≥ (a0.size : Int))),au8,H',⟨by first | omega | exact Nat.le_refl _⟩,⟨au0⟩⟩
 case rest =>
  clear HC3
  try clear c1
  try clear p2
  try clear c4
  try clear c4b0
  obtain ⟨kq,x16_2,rfl,HA,HJ2,HB⟩ := hcut
  cases kq with
  | zero => exact absurd HA.out (by simp [cluster_Boundary.j0])
  | succ kj2 =>
   have H := HA.out
   clear HA
   simp only [cluster_Boundary.j0] at H
   by_cases c5 : x16_2 = true
   ·subst c5
    have H1 : (if a1 = 0 then (some true) else (some (a1 == (a0.size : Int)))) = some r := by rw [if_pos rfl] at H;exact H
    clear H
    have H := H1
    clear H1
    by_cases c6 : a1 = 0
    ·rw [if_pos c6] at H
     have c6b0 : (a1 == 0) = true := beq_iff_eq.mpr c6
     have c6b1 : (a1 != 0) = false := bne_eq_false_iff_eq.mpr c6
     clear c6
     obtain rfl := Option.some.inj H
     go_wp2
     go_ret
     exact ⟨au2,au0⟩
    ·rw [if_neg c6] at H
     have c6b0 : (a1 == 0) = false := beq_eq_false_iff_ne.mpr c6
     have c6b1 : (a1 != 0) = true := bne_iff_ne.mpr c6
     obtain rfl := Option.some.inj H
     go_wp2
     go_ret
     exact ⟨au2,au0⟩
   ·replace c5 := Bool.eq_false_iff.mpr c5
    subst c5
    have H1 : ((unit_Boundary.f kj2 a0 a1).bind fun t134 => (if t134 = true then ((unit_Prev.f kj2 a0 a1).bind fun t135 => ((unit_At.f kj2 a0 t135).bind fun bt136 => ((unit_At.f kj2 a0 a1).bind fun bt140 => ((cluster_glued.f kj2 bt136.1 bt140.1).bind fun t144 => (some (!t144)))))) else (some false))) = some r := by rw [if_neg (show ¬ (false = true) by decide)] at H;exact H
    clear H
    have H := H1
    clear H1
    replace H := Option.bind_eq_some_iff.mp H
    obtain ⟨t134,A70,H⟩ := H
    replace H : (if t134 = true then ((unit_Prev.f kj2 a0 a1).bind fun t135 => ((unit_At.f kj2 a0 t135).bind fun bt136 => ((unit_At.f kj2 a0 a1).bind fun bt140 => ((cluster_glued.f kj2 bt136.1 bt140.1).bind fun t144 => (some (!t144)))))) else (some false)) = some r := H
    have A7 := Aside0.mk A70
    clear A70
    by_cases c8 : t134 = true
    ·subst c8
     have H1 : ((unit_Prev.f kj2 a0 a1).bind fun t135 => ((unit_At.f kj2 a0 t135).bind fun bt136 => ((unit_At.f kj2 a0 a1).bind fun bt140 => ((cluster_glued.f kj2 bt136.1 bt140.1).bind fun t144 => (some (!t144)))))) = some r := by rw [if_pos rfl] at H;exact H
     clear H
     have H := H1
     clear H1
     replace H := Option.bind_eq_some_iff.mp H
     obtain ⟨t135,A90,H⟩ := H
     replace H : ((unit_At.f kj2 a0 t135).bind fun bt136 => ((unit_At.f kj2 a0 a1).bind fun bt140 => ((cluster_glued.f kj2 bt136.1 bt140.1).bind fun t144 => (some (!t144))))) = some r := H
     have A9 := Aside0.mk A90
     clear A90
     replace H := Option.bind_eq_some_iff.mp H
     obtain ⟨⟨t136,t137,t138⟩,A100,H⟩ := H
     replace H : ((unit_At.f kj2 a0 a1).bind fun bt140 => ((cluster_glued.f kj2 t136 bt140.1).bind fun t144 => (some (!t144)))) = some r := H
     have A10 := Aside0.mk A100
     clear A100
     replace H := Option.bind_eq_some_iff.mp H
     obtain ⟨⟨t140,t141,t142⟩,A110,H⟩ := H
     replace H : ((cluster_glued.f kj2 t136 t140).bind fun t144 => (some (!t144))) = some r := H
     have A11 := Aside0.mk A110
     clear A110
     replace H := Option.bind_eq_some_iff.mp H
     obtain ⟨t144,A120,H⟩ := H
     replace H : (some (!t144)) = some r := H
     have A12 := Aside0.mk A120
     clear A120
     obtain rfl := Option.some.inj H
     go_wp2_with (first | ((with_reducible refine gate_callee (f := 31) rfl ?_);refine goesL_ (some 27) rfl rfl Tryd.func31 (by kernel_rfl) rfl #[.string a0,.int .i64 a1] rfl au1 ?_;(with_reducible refine (unit_Boundary.calls kj2 a0 a1 true _ ?side1 A7.out).mono ?_);(case side1 => exact tabs_below HT.out au0);rintro e w13 ⟨rfl,hb⟩;refine ⟨_,rfl,?_⟩;have n0_ := Aside0.mk (below_step au0 hb);clear HB;have HB := n0_;clear n0_;(try clear hb);(try clear hb2);(try clear hk);(try clear hi)) | ((with_reducible refine gate_callee (f := 33) rfl ?_);refine goesL_ (some 33) rfl rfl Tryd.func33 (by kernel_rfl) rfl #[.string a0,.int .i64 a1] rfl au1 ?_;(with_reducible refine (unit_Prev.calls kj2 a0 a1 t135 _ ?side1 A9.out).mono ?_);(case side1 => exact tabs_below HT.out au0);rintro e w14 ⟨rfl,hb⟩;refine ⟨_,rfl,?_⟩;have n0_ := Aside0.mk (below_step au0 hb);clear HB;have HB := n0_;clear n0_;(try clear hb);(try clear hb2);(try clear hk);(try clear hi)) | ((with_reducible refine gate_callee (f := 32) rfl ?_);refine goesL_ (some 34) rfl rfl Tryd.func32 (by kernel_rfl) rfl #[.string a0,.int .i64 t135] rfl au1 ?_;(with_reducible refine (unit_At.calls kj2 a0 t135 t136 t137 t138 _ ?side1 A10.out).mono ?_);(case side1 => exact tabs_below HT.out au0);rintro e w15 ⟨rfl,hb⟩;refine ⟨_,rfl,?_⟩;have n0_ := Aside0.mk (below_step au0 hb);clear HB;have HB := n0_;clear n0_;(try clear hb);(try clear hb2);(try clear hk);(try clear hi)) | ((with_reducible refine gate_dst (N := 5) rfl ?_);(try (refine gate_guard (by rfl) ?_;dsimp only));refine box_event ?hg (N := 5) ?hd (cs := #[.int .i32 0,.int .i64 0]) (t := 65) ?hr ?_;(case hd => rfl);(case hg => rfl);(case hr => first | (go_simp;done) | (go_simp;rfl));intro gb139 hg w16 hbox hb;have n0_ := Aside0.mk (below_step au0 hb);have n1_ := Aside0.mk (hbox);have n2_ := Aside0.mk ((by rw [hg];exact (below_size au0) : w.heap.size ≤ gb139));have n3_ := Aside0.mk ((by rw [hg];exact (below_size au0) : w.heap.size ≤ gb139));clear HB;have HB := n0_;have BK139 := n1_;have GW139 := n2_;have GE139 := n3_;clear n0_ n1_ n2_ n3_;clear hb hbox hg;have hcz17_0 : w16.cell? ⟨gb139,0,none⟩ = some (.int .i32 0) := (blk_cell BK139.out 0).trans rfl;have hcz17_1 : w16.cell? ⟨gb139,1,none⟩ = some (.int .i64 0) := (blk_cell BK139.out 1).trans rfl;have hfz17_0 := blk_frozen BK139.out 0;have hfz17_1 := blk_frozen BK139.out 1) | ((with_reducible refine gate_callee (f := 32) rfl ?_);refine goesL_ (some 40) rfl rfl Tryd.func32 (by kernel_rfl) rfl #[.string a0,.int .i64 a1] rfl au1 ?_;(with_reducible refine (unit_At.calls kj2 a0 a1 t140 t141 t142 _ ?side1 A11.out).mono ?_);(case side1 => exact tabs_below HT.out (by repeat (first | (with_reducible first | exact HB.out | apply below_alloc | apply pw_below_drewN | apply below_drew1 | refine below_set ?_ GE139.out) | exact HB.out)));rintro e w18 ⟨rfl,hb⟩;refine ⟨_,rfl,?_⟩;have n0_ := Aside0.mk (blk_below (g := gb139) (o := .cells #[.int .i32 t136,.int .i64 t137] 65 (0,0)) (by (with_reducible repeat (first | refine blk_drewN ?_ _ | refine blk_drew ?_ | refine blk_alloc ?_ _));refine blk_put (cs := #[.int .i32 t136,.int .i64 0]) ?_ 1 _ rfl;(with_reducible repeat (first | refine blk_drewN ?_ _ | refine blk_drew ?_ | refine blk_alloc ?_ _));refine blk_put (cs := #[.int .i32 0,.int .i64 0]) ?_ 0 _ rfl;(with_reducible repeat (first | refine blk_drewN ?_ _ | refine blk_drew ?_ | refine blk_alloc ?_ _));exact BK139.out) hb);have n1_ := Aside0.mk (below_step (by repeat (first | (with_reducible first | exact HB.out | apply below_alloc | apply pw_below_drewN | apply below_drew1 | refine below_set ?_ GE139.out) | exact HB.out)) hb);clear BK139;clear HB;have BK139 := n0_;have HB := n1_;clear n0_ n1_;(try clear hb);(try clear hb2);(try clear hk);(try clear hi)) | ((with_reducible refine gate_dst (N := 7) rfl ?_);(try (refine gate_guard (by rfl) ?_;dsimp only));refine box_event ?hg (N := 7) ?hd (cs := #[.int .i32 0,.int .i64 0]) (t := 65) ?hr ?_;(case hd => rfl);(case hg => rfl);(case hr => first | (go_simp;done) | (go_simp;rfl));intro gb143 hg w19 hbox hb;have n0_ := Aside0.mk (blk_below (g := gb139) (o := .cells #[.int .i32 t136,.int .i64 t137] 65 (0,0)) (by (with_reducible repeat (first | refine blk_drewN ?_ _ | refine blk_drew ?_ | refine blk_alloc ?_ _));exact BK139.out) hb);have n1_ := Aside0.mk (below_step (by repeat (first | (with_reducible first | exact HB.out | apply below_alloc | apply pw_below_drewN | apply below_drew1 | refine below_set ?_ GE139.out) | exact HB.out)) hb);have n2_ := Aside0.mk (hbox);have n3_ := Aside0.mk ((by rw [hg];exact (below_size (by repeat (first | (with_reducible first | exact HB.out | apply below_alloc | apply pw_below_drewN | apply below_drew1 | refine below_set ?_ GE139.out) | exact HB.out))) : w.heap.size ≤ gb143));have n4_ := Aside0.mk ((by rw [hg];exact (below_size (by repeat (first | (with_reducible first | exact HB.out | apply below_alloc | apply pw_below_drewN | apply below_drew1 | refine below_set ?_ GE139.out) | exact HB.out))) : w.heap.size ≤ gb143));have n5_ := Aside0.mk ((by rw [hg];exact Nat.ne_of_lt (blk_lt (g := gb139) (o := .cells #[.int .i32 t136,.int .i64 t137] 65 (0,0)) (by (with_reducible repeat (first | refine blk_drewN ?_ _ | refine blk_drew ?_ | refine blk_alloc ?_ _));exact BK139.out)) : gb139 ≠ gb143));have n6_ := Aside0.mk ((by rw [hg];exact Nat.ne_of_gt (blk_lt (g := gb139) (o := .cells #[.int .i32 t136,.int .i64 t137] 65 (0,0)) (by (with_reducible repeat (first | refine blk_drewN ?_ _ | refine blk_drew ?_ | refine blk_alloc ?_ _));exact BK139.out)) : gb143 ≠ gb139));clear BK139;clear HB;have BK139 := n0_;have HB := n1_;have BK143 := n2_;have GW143 := n3_;have GE143 := n4_;have NB139_143 := n5_;have NB143_139 := n6_;clear n0_ n1_ n2_ n3_ n4_ n5_ n6_;clear hb hbox hg;have hnb20 := NB143_139.out;have hnc20 := NB139_143.out;have hcz21_0 : w19.cell? ⟨gb143,0,none⟩ = some (.int .i32 0) := (blk_cell BK143.out 0).trans rfl;have hcz21_1 : w19.cell? ⟨gb143,1,none⟩ = some (.int .i64 0) := (blk_cell BK143.out 1).trans rfl;have hfz21_0 := blk_frozen BK143.out 0;have hfz21_1 := blk_frozen BK143.out 1;have hcz22_0 : w19.cell? ⟨gb139,0,none⟩ = some (.int .i32 t136) := (blk_cell BK139.out 0).trans rfl;have hcz22_1 : w19.cell? ⟨gb139,1,none⟩ = some (.int .i64 t137) := (blk_cell BK139.out 1).trans rfl;have hfz22_0 := blk_frozen BK139.out 0;have hfz22_1 := blk_frozen BK139.out 1) | ((with_reducible refine gate_callee (f := 34) rfl ?_);refine goesL_ (some 47) rfl rfl Tryd.func34 (by kernel_rfl) rfl #[.int .i32 t136,.int .i32 t140] rfl au1 ?_;(with_reducible refine (cluster_glued.calls kj2 t136 t140 t144 _ A12.out).mono ?_);rintro e w23 ⟨rfl,hb⟩;refine ⟨_,rfl,?_⟩;have n0_ := Aside0.mk (blk_below (g := gb139) (o := .cells #[.int .i32 t136,.int .i64 t137] 65 (0,0)) (by (with_reducible repeat (first | refine blk_drewN ?_ _ | refine blk_drew ?_ | refine blk_alloc ?_ _));refine blk_far ?_ NB139_143.out _;(with_reducible repeat (first | refine blk_drewN ?_ _ | refine blk_drew ?_ | refine blk_alloc ?_ _));refine blk_far ?_ NB139_143.out _;(with_reducible repeat (first | refine blk_drewN ?_ _ | refine blk_drew ?_ | refine blk_alloc ?_ _));exact BK139.out) hb);have n1_ := Aside0.mk (blk_below (g := gb143) (o := .cells #[.int .i32 t140,.int .i64 t141] 65 (0,0)) (by (with_reducible repeat (first | refine blk_drewN ?_ _ | refine blk_drew ?_ | refine blk_alloc ?_ _));refine blk_put (cs := #[.int .i32 t140,.int .i64 0]) ?_ 1 _ rfl;(with_reducible repeat (first | refine blk_drewN ?_ _ | refine blk_drew ?_ | refine blk_alloc ?_ _));refine blk_put (cs := #[.int .i32 0,.int .i64 0]) ?_ 0 _ rfl;(with_reducible repeat (first | refine blk_drewN ?_ _ | refine blk_drew ?_ | refine blk_alloc ?_ _));exact BK143.out) hb);have n2_ := Aside0.mk (below_step (by repeat (first | (with_reducible first | exact HB.out | apply below_alloc | apply pw_below_drewN | apply below_drew1 | refine below_set ?_ GE139.out | refine below_set ?_ GE143.out) | exact HB.out)) hb);clear BK139;clear BK143;clear HB;have BK139 := n0_;have BK143 := n1_;have HB := n2_;clear n0_ n1_ n2_;(try clear hb);(try clear hb2);(try clear hk);(try clear hi)))
     go_ret
     exact ⟨au2,by repeat (first | (with_reducible first | exact HB.out | apply below_alloc | apply pw_below_drewN | apply below_drew1 | refine below_set ?_ GE139.out | refine below_set ?_ GE143.out) | exact HB.out)⟩
    ·replace c8 := Bool.eq_false_iff.mpr c8
     subst c8
     have H1 : (some false) = some r := by rw [if_neg (show ¬ (false = true) by decide)] at H;exact H
     clear H
     have H := H1
     clear H1
     obtain rfl := Option.some.inj H
     go_wp2_with (first | ((with_reducible refine gate_callee (f := 31) rfl ?_);refine goesL_ (some 27) rfl rfl Tryd.func31 (by kernel_rfl) rfl #[.string a0,.int .i64 a1] rfl au1 ?_;(with_reducible refine (unit_Boundary.calls kj2 a0 a1 false _ ?side1 A7.out).mono ?_);(case side1 => exact tabs_below HT.out au0);rintro e w24 ⟨rfl,hb⟩;refine ⟨_,rfl,?_⟩;have n0_ := Aside0.mk (below_step au0 hb);clear HB;have HB := n0_;clear n0_;(try clear hb);(try clear hb2);(try clear hk);(try clear hi)))
     go_ret
     exact ⟨au2,au0⟩
def cluster_Next.l0 : Nat → ByteArray → Int → Option (Int)
 | 0,_,_ => none
 | k + 1,x0,x1 => if x1 < (x0.size : Int) then ((unit_Next.f k x0 x1).bind fun t147 => ((cluster_Boundary.f k x0 t147).bind fun t148 => (if t148 = true then (some t147) else (cluster_Next.l0 k x0 t147)))) else (some (x0.size : Int))
def cluster_Next.f (k : Nat) (a0 : ByteArray) (a1 : Int) : Option (Int) := if a1 < 0 then (some 0) else (cluster_Next.l0 k a0 a1)
theorem cluster_Next.mono_l : ∀ k,(∀ y0 y1,LeO (cluster_Next.l0 k y0 y1) (cluster_Next.l0 (k + 1) y0 y1))
 | 0 => fun _ _ r h => by simp [cluster_Next.l0] at h
 | k + 1 => by
  have ih0 := cluster_Next.mono_l k
  ·intro y0 y1
   unfold cluster_Next.l0
   repeat' first
   | (with_reducible exact ih0 _ _)
   | (with_reducible exact cluster_Boundary.mono _ _ _)
   | (with_reducible exact unit_Next.mono _ _ _)
   | (with_reducible exact LeO.refl _)
   | (with_reducible exact LeO.none _)
   | (with_reducible refine LeO.ite ?_ ?_)
   | (with_reducible refine LeO.bind ?_ (fun _ => ?_))
   | exact ih0 _ _
   | exact cluster_Boundary.mono _ _ _
   | exact unit_Next.mono _ _ _
   | exact LeO.none _
   | refine LeO.ite ?_ ?_
   | refine LeO.bind ?_ (fun _ => ?_)
theorem cluster_Next.mono : ∀ a0 a1 k,LeO (cluster_Next.f k a0 a1) (cluster_Next.f (k + 1) a0 a1) := by
 intro a0 a1 k
 have ih0 := cluster_Next.mono_l k
 unfold cluster_Next.f
 repeat' first
   | (with_reducible exact ih0 _ _)
   | (with_reducible exact cluster_Boundary.mono _ _ _)
   | (with_reducible exact unit_Next.mono _ _ _)
   | (with_reducible exact LeO.refl _)
   | (with_reducible exact LeO.none _)
   | (with_reducible refine LeO.ite ?_ ?_)
   | (with_reducible refine LeO.bind ?_ (fun _ => ?_))
   | exact ih0 _ _
   | exact cluster_Boundary.mono _ _ _
   | exact unit_Next.mono _ _ _
   | exact LeO.none _
   | refine LeO.ite ?_ ?_
   | refine LeO.bind ?_ (fun _ => ?_)
set_option maxHeartbeats 8000000 in
set_option maxRecDepth 100000 in
theorem cluster_Next.calls (k : Nat) (a0 : ByteArray) (a1 : Int) (r : Int) (w : World) (hT : Lib.Utf8Tabs 1 2 w) (h : cluster_Next.f k a0 a1 = some r) :
  Calls Tryd.prog 22 #[.string a0,.int .i64 a1] w fun e w' => e = .returned (.int .i64 r) ∧ Below w.heap.size w w' := by
 have HT := Aside0.mk hT
 clear hT
 have HB := Aside0.mk (Below.refl w.heap.size w)
 have H : (if a1 < 0 then (some 0) else (cluster_Next.l0 k a0 a1)) = some r := h
 clear h
 by_cases c3 : a1 < 0
 ·rw [if_pos c3] at H
  have c3b0 : decide (a1 < 0) = true := decide_eq_true c3
  clear c3
  obtain rfl := Option.some.inj H
  go_enter Tryd.func22,Tryd.ntmps22
  go_wp2
  go_ret
  exact ⟨au2,au0⟩
 ·rw [if_neg c3] at H
  have c3b0 : decide (a1 < 0) = false := decide_eq_false c3
  clear c3
  have H' := Aside0.mk H
  clear H
  go_enter Tryd.func22,Tryd.ntmps22
  go_wp2
  go_loopg [1] k (fun kq v1 w' => ∃ (x1_1 : Int),v1 = .int .i64 x1_1 ∧ Aside0 (cluster_Next.l0 kq a0 x1_1 = some r) ∧ Aside0 (kq ≤ k) ∧ Aside0 (Below w.heap.size w w'))
  case atStart => exact ⟨(a1),au8,H',⟨Nat.le_refl _⟩,⟨au0⟩⟩
  case round =>
   clear H'
   try clear c2
   try clear p2
   try clear c3
   try clear c3b0
   obtain ⟨x1_1,rfl,HA,HK1,HB⟩ := hrel
   cases gk with
   | zero => exact absurd HA.out (by simp [cluster_Next.l0])
   | succ k1 =>
    have H := HA.out
    clear HA
    simp only [cluster_Next.l0] at H
    by_cases c4 : x1_1 < (a0.size : Int)
    ·rw [if_pos c4] at H
     have c4b0 : decide (x1_1 < (a0.size : Int)) = true := decide_eq_true c4
     clear c4
     replace H := Option.bind_eq_some_iff.mp H
     obtain ⟨t147,A50,H⟩ := H
     replace H : ((cluster_Boundary.f k1 a0 t147).bind fun t148 => (if t148 = true then (some t147) else (cluster_Next.l0 k1 a0 t147))) = some r := H
     have A5 := Aside0.mk A50
     clear A50
     replace H := Option.bind_eq_some_iff.mp H
     obtain ⟨t148,A60,H⟩ := H
     replace H : (if t148 = true then (some t147) else (cluster_Next.l0 k1 a0 t147)) = some r := H
     have A6 := Aside0.mk A60
     clear A60
     by_cases c7 : t148 = true
     ·subst c7
      have H1 : (some t147) = some r := by rw [if_pos rfl] at H;exact H
      clear H
      have H := H1
      clear H1
      obtain rfl := Option.some.inj H
      go_wp2_with (first | ((with_reducible refine gate_callee (f := 37) rfl ?_);refine goesL_ (some 13) rfl rfl Tryd.func37 (by kernel_rfl) rfl #[.string a0,.int .i64 x1_1] rfl au1 ?_;(with_reducible refine (unit_Next.calls k1 a0 x1_1 t147 _ ?side1 A5.out).mono ?_);(case side1 => exact tabs_below HT.out au0);rintro e w8 ⟨rfl,hb⟩;refine ⟨_,rfl,?_⟩;have n0_ := Aside0.mk (below_step au0 hb);clear HB;have HB := n0_;clear n0_;(try clear hb);(try clear hb2);(try clear hk);(try clear hi)) | ((with_reducible refine gate_callee (f := 18) rfl ?_);refine goesL_ (some 16) rfl rfl Tryd.func18 (by kernel_rfl) rfl #[.string a0,.int .i64 t147] rfl au1 ?_;(with_reducible refine (cluster_Boundary.calls k1 a0 t147 true _ ?side1 A6.out).mono ?_);(case side1 => exact tabs_below HT.out au0);rintro e w9 ⟨rfl,hb⟩;refine ⟨_,rfl,?_⟩;have n0_ := Aside0.mk (below_step au0 hb);clear HB;have HB := n0_;clear n0_;(try clear hb);(try clear hb2);(try clear hk);(try clear hi)))
      go_ret
      exact ⟨au2,au0⟩
     ·replace c7 := Bool.eq_false_iff.mpr c7
      subst c7
      have H1 : (cluster_Next.l0 k1 a0 t147) = some r := by rw [if_neg (show ¬ (false = true) by decide)] at H;exact H
      clear H
      have H := H1
      clear H1
      have H' := Aside0.mk H
      clear H
      go_wp2_with (first | ((with_reducible refine gate_callee (f := 37) rfl ?_);refine goesL_ (some 13) rfl rfl Tryd.func37 (by kernel_rfl) rfl #[.string a0,.int .i64 x1_1] rfl au1 ?_;(with_reducible refine (unit_Next.calls k1 a0 x1_1 t147 _ ?side1 A5.out).mono ?_);(case side1 => exact tabs_below HT.out au0);rintro e w10 ⟨rfl,hb⟩;refine ⟨_,rfl,?_⟩;have n0_ := Aside0.mk (below_step au0 hb);clear HB;have HB := n0_;clear n0_;(try clear hb);(try clear hb2);(try clear hk);(try clear hi)) | ((with_reducible refine gate_callee (f := 18) rfl ?_);refine goesL_ (some 16) rfl rfl Tryd.func18 (by kernel_rfl) rfl #[.string a0,.int .i64 t147] rfl au1 ?_;(with_reducible refine (cluster_Boundary.calls k1 a0 t147 false _ ?side1 A6.out).mono ?_);(case side1 => exact tabs_below HT.out au0);rintro e w11 ⟨rfl,hb⟩;refine ⟨_,rfl,?_⟩;have n0_ := Aside0.mk (below_step au0 hb);clear HB;have HB := n0_;clear n0_;(try clear hb);(try clear hb2);(try clear hk);(try clear hi)))
      go_roundg k1
      case measure => have := HK1.out;omega
      case rel => exact ⟨(t147),au8,H',⟨by have := HK1.out;omega⟩,⟨au0⟩⟩
    ·rw [if_neg c4] at H
     have c4b0 : decide (x1_1 < (a0.size : Int)) = false := decide_eq_false c4
     clear c4
     obtain rfl := Option.some.inj H
     go_wp2
     go_ret
     exact ⟨au2,au0⟩
def width_Cells.f (k : Nat) (a0 : Int) : Option (Int) := (width_Class.f k a0).bind fun t314 => (if t314 = 1 then (some 0) else (if t314 = 4 then (some 2) else (if t314 = 2 then (if a0 ≤ 127 then (some 2) else (some 1)) else (some 1))))
set_option maxHeartbeats 8000000 in
set_option maxRecDepth 100000 in
theorem width_Cells.calls (k : Nat) (a0 : Int) (r : Int) (w : World) (h : width_Cells.f k a0 = some r) :
  Calls Tryd.prog 80 #[.int .i32 a0] w fun e w' => e = .returned (.int .i64 r) ∧ Below w.heap.size w w' := by
 have HB := Aside0.mk (Below.refl w.heap.size w)
 have H : ((width_Class.f k a0).bind fun t314 => (if t314 = 1 then (some 0) else (if t314 = 4 then (some 2) else (if t314 = 2 then (if a0 ≤ 127 then (some 2) else (some 1)) else (some 1))))) = some r := h
 clear h
 replace H := Option.bind_eq_some_iff.mp H
 obtain ⟨t314,A20,H⟩ := H
 replace H : (if t314 = 1 then (some 0) else (if t314 = 4 then (some 2) else (if t314 = 2 then (if a0 ≤ 127 then (some 2) else (some 1)) else (some 1)))) = some r := H
 have A2 := Aside0.mk A20
 clear A20
 by_cases c3 : t314 = 1
 ·rw [if_pos c3] at H
  have c3b0 : (t314 == 1) = true := beq_iff_eq.mpr c3
  have c3b1 : (t314 != 1) = false := bne_eq_false_iff_eq.mpr c3
  clear c3
  obtain rfl := Option.some.inj H
  go_enter Tryd.func80,Tryd.ntmps80
  go_wp2_with (first | ((with_reducible refine gate_callee (f := 65) rfl ?_);refine goesL_ (some 4) rfl rfl Tryd.func65 (by kernel_rfl) rfl #[.int .i32 a0] rfl au1 ?_;(with_reducible refine (width_Class.calls k a0 t314 _ A2.out).mono ?_);rintro e w4 ⟨rfl,hb⟩;refine ⟨_,rfl,?_⟩;have n0_ := Aside0.mk (below_step au0 hb);clear HB;have HB := n0_;clear n0_;(try clear hb);(try clear hb2);(try clear hk);(try clear hi)))
  go_ret
  exact ⟨au2,au0⟩
 ·rw [if_neg c3] at H
  have c3b0 : (t314 == 1) = false := beq_eq_false_iff_ne.mpr c3
  have c3b1 : (t314 != 1) = true := bne_iff_ne.mpr c3
  by_cases c5 : t314 = 4
  ·rw [if_pos c5] at H
   have c5b0 : (t314 == 4) = true := beq_iff_eq.mpr c5
   have c5b1 : (t314 != 4) = false := bne_eq_false_iff_eq.mpr c5
   clear c5
   obtain rfl := Option.some.inj H
   go_enter Tryd.func80,Tryd.ntmps80
   go_wp2_with (first | ((with_reducible refine gate_callee (f := 65) rfl ?_);refine goesL_ (some 4) rfl rfl Tryd.func65 (by kernel_rfl) rfl #[.int .i32 a0] rfl au1 ?_;(with_reducible refine (width_Class.calls k a0 t314 _ A2.out).mono ?_);rintro e w6 ⟨rfl,hb⟩;refine ⟨_,rfl,?_⟩;have n0_ := Aside0.mk (below_step au0 hb);clear HB;have HB := n0_;clear n0_;(try clear hb);(try clear hb2);(try clear hk);(try clear hi)))
   go_ret
   exact ⟨au2,au0⟩
  ·rw [if_neg c5] at H
   have c5b0 : (t314 == 4) = false := beq_eq_false_iff_ne.mpr c5
   have c5b1 : (t314 != 4) = true := bne_iff_ne.mpr c5
   by_cases c7 : t314 = 2
   ·rw [if_pos c7] at H
    have c7b0 : (t314 == 2) = true := beq_iff_eq.mpr c7
    have c7b1 : (t314 != 2) = false := bne_eq_false_iff_eq.mpr c7
    clear c7
    by_cases c8 : a0 ≤ 127
    ·rw [if_pos c8] at H
     have c8b0 : decide (a0 ≤ 127) = true := decide_eq_true c8
     clear c8
     obtain rfl := Option.some.inj H
     go_enter Tryd.func80,Tryd.ntmps80
     go_wp2_with (first | ((with_reducible refine gate_callee (f := 65) rfl ?_);refine goesL_ (some 4) rfl rfl Tryd.func65 (by kernel_rfl) rfl #[.int .i32 a0] rfl au1 ?_;(with_reducible refine (width_Class.calls k a0 t314 _ A2.out).mono ?_);rintro e w9 ⟨rfl,hb⟩;refine ⟨_,rfl,?_⟩;have n0_ := Aside0.mk (below_step au0 hb);clear HB;have HB := n0_;clear n0_;(try clear hb);(try clear hb2);(try clear hk);(try clear hi)))
     go_ret
     exact ⟨au2,au0⟩
    ·rw [if_neg c8] at H
     have c8b0 : decide (a0 ≤ 127) = false := decide_eq_false c8
     clear c8
     obtain rfl := Option.some.inj H
     go_enter Tryd.func80,Tryd.ntmps80
     go_wp2_with (first | ((with_reducible refine gate_callee (f := 65) rfl ?_);refine goesL_ (some 4) rfl rfl Tryd.func65 (by kernel_rfl) rfl #[.int .i32 a0] rfl au1 ?_;(with_reducible refine (width_Class.calls k a0 t314 _ A2.out).mono ?_);rintro e w10 ⟨rfl,hb⟩;refine ⟨_,rfl,?_⟩;have n0_ := Aside0.mk (below_step au0 hb);clear HB;have HB := n0_;clear n0_;(try clear hb);(try clear hb2);(try clear hk);(try clear hi)))
     go_ret
     exact ⟨au2,au0⟩
   ·rw [if_neg c7] at H
    have c7b0 : (t314 == 2) = false := beq_eq_false_iff_ne.mpr c7
    have c7b1 : (t314 != 2) = true := bne_iff_ne.mpr c7
    obtain rfl := Option.some.inj H
    go_enter Tryd.func80,Tryd.ntmps80
    go_wp2_with (first | ((with_reducible refine gate_callee (f := 65) rfl ?_);refine goesL_ (some 4) rfl rfl Tryd.func65 (by kernel_rfl) rfl #[.int .i32 a0] rfl au1 ?_;(with_reducible refine (width_Class.calls k a0 t314 _ A2.out).mono ?_);rintro e w11 ⟨rfl,hb⟩;refine ⟨_,rfl,?_⟩;have n0_ := Aside0.mk (below_step au0 hb);clear HB;have HB := n0_;clear n0_;(try clear hb);(try clear hb2);(try clear hk);(try clear hi)))
    go_ret
    exact ⟨au2,au0⟩
end Go.Proofs.YtfmnmjoofnbnfaaDoor.U
end
section
namespace Go.Proofs.YtfmnmjoofnbnfaaDoor.U
open Go.RowKit Go.Proofs.YtfmnmjoofnbnfaaDoorW.PrintWords Go.Proofs.YtfmnmjoofnbnfaaDoorW.PrintLast Go.Proofs.YtfmnmjoofnbnfaaDoorW.PrintMore
attribute [local go_sem] max2_int min2_int max_two min_two max_three min_three max_four min_four   -- for this text's walks alone
set_option linter.unusedVariables false
set_option linter.unusedSimpArgs false
def change_work_swap.f (a0_0 : ByteArray) (a0_1 : Int) (a0_2 : Int) (a0_3 : Int) (a1 : Int) (a2 : Int) (a3 : Int) (a4 : Int) : Option (Int × Int × ByteArray × Int × ByteArray × Bool × Int) := if 0 ≤ a3 then (if a3 ≤ a4 then (if a4 ≤ (a0_0.size : Int) then (if 0 ≤ a2 then (if a2 ≤ a3 then (if a3 ≤ (a0_0.size : Int) then (if (a0_0.extract (a3 : Int).toNat (a4 : Int).toNat).size + (a0_0.extract (a2 : Int).toNat (a3 : Int).toNat).size ≤ 9223372036854775807 then (if 0 ≤ a1 then (if a1 ≤ a2 then (if a2 ≤ (a0_0.size : Int) then (if ((a0_0.extract (a3 : Int).toNat (a4 : Int).toNat) ++ (a0_0.extract (a2 : Int).toNat (a3 : Int).toNat)).size + (a0_0.extract (a1 : Int).toNat (a2 : Int).toNat).size ≤ 9223372036854775807 then (some (a1,wrap64 (a4 - a1),((a0_0.extract (a3 : Int).toNat (a4 : Int).toNat) ++ (a0_0.extract (a2 : Int).toNat (a3 : Int).toNat)) ++ (a0_0.extract (a1 : Int).toNat (a2 : Int).toNat),a4,(⟨#[]⟩ : ByteArray),false,0)) else (none)) else (none)) else (none)) else (none)) else (none)) else (none)) else (none)) else (none)) else (none)) else (none)) else (none)
set_option maxHeartbeats 8000000 in
set_option maxRecDepth 100000 in
theorem change_work_swap.calls (a0_0 : ByteArray) (a0_1 : Int) (a0_2 : Int) (a0_3 : Int) (a1 : Int) (a2 : Int) (a3 : Int) (a4 : Int) (r1 : Int) (r2 : Int) (r3 : ByteArray) (r4 : Int) (r5 : ByteArray) (r6 : Bool) (r7 : Int) (w : World) (h : change_work_swap.f a0_0 a0_1 a0_2 a0_3 a1 a2 a3 a4 = some (r1,r2,r3,r4,r5,r6,r7)) :
  Calls Tryd.prog 72 #[.agg #[.string a0_0,.int .i64 a0_1,.int .i64 a0_2,.int .i64 a0_3],.int .i64 a1,.int .i64 a2,.int .i64 a3,.int .i64 a4] w fun e w' => e = .returned (.tuple #[.agg #[.int .i64 r1,.int .i64 r2,.string r3,.int .i64 r4,.string r5,.bool r6],.int .i64 r7]) ∧ Below w.heap.size w w' := by
 have hu52 := Tryd.underlying52
 have hu30 := Tryd.underlying30
 have hu28 := Tryd.underlying28
 have HB := Aside0.mk (Below.refl w.heap.size w)
 have H : (if 0 ≤ a3 then (if a3 ≤ a4 then (if a4 ≤ (a0_0.size : Int) then (if 0 ≤ a2 then (if a2 ≤ a3 then (if a3 ≤ (a0_0.size : Int) then (if (a0_0.extract (a3 : Int).toNat (a4 : Int).toNat).size + (a0_0.extract (a2 : Int).toNat (a3 : Int).toNat).size ≤ 9223372036854775807 then (if 0 ≤ a1 then (if a1 ≤ a2 then (if a2 ≤ (a0_0.size : Int) then (if ((a0_0.extract (a3 : Int).toNat (a4 : Int).toNat) ++ (a0_0.extract (a2 : Int).toNat (a3 : Int).toNat)).size + (a0_0.extract (a1 : Int).toNat (a2 : Int).toNat).size ≤ 9223372036854775807 then (some (a1,wrap64 (a4 - a1),((a0_0.extract (a3 : Int).toNat (a4 : Int).toNat) ++ (a0_0.extract (a2 : Int).toNat (a3 : Int).toNat)) ++ (a0_0.extract (a1 : Int).toNat (a2 : Int).toNat),a4,(⟨#[]⟩ : ByteArray),false,0)) else (none)) else (none)) else (none)) else (none)) else (none)) else (none)) else (none)) else (none)) else (none)) else (none)) else (none)) = some (r1,r2,r3,r4,r5,r6,r7) := h
 clear h
 by_cases c6 : 0 ≤ a3
 ·rw [if_pos c6] at H
  have c6b0 := eq_true c6
  have c6b1 : decide (0 ≤ a3) = true := decide_eq_true c6
  clear c6
  by_cases c7 : a3 ≤ a4
  ·rw [if_pos c7] at H
   have c7b0 := eq_true c7
   have c7b1 : decide (a3 ≤ a4) = true := decide_eq_true c7
   clear c7
   by_cases c8 : a4 ≤ (a0_0.size : Int)
   ·rw [if_pos c8] at H
    have c8b0 := eq_true c8
    have c8b1 : decide (a4 ≤ (a0_0.size : Int)) = true := decide_eq_true c8
    clear c8
    by_cases c9 : 0 ≤ a2
    ·rw [if_pos c9] at H
     have c9b0 := eq_true c9
     have c9b1 : decide (0 ≤ a2) = true := decide_eq_true c9
     clear c9
     by_cases c10 : a2 ≤ a3
     ·rw [if_pos c10] at H
      have c10b0 := eq_true c10
      have c10b1 : decide (a2 ≤ a3) = true := decide_eq_true c10
      clear c10
      by_cases c11 : a3 ≤ (a0_0.size : Int)
      ·rw [if_pos c11] at H
       have c11b0 := eq_true c11
       have c11b1 : decide (a3 ≤ (a0_0.size : Int)) = true := decide_eq_true c11
       clear c11
       by_cases c12 : (a0_0.extract (a3 : Int).toNat (a4 : Int).toNat).size + (a0_0.extract (a2 : Int).toNat (a3 : Int).toNat).size ≤ 9223372036854775807
       ·rw [if_pos c12] at H
        have c12b0 := eq_true c12
        have c12b1 : decide ((a0_0.extract (a3 : Int).toNat (a4 : Int).toNat).size + (a0_0.extract (a2 : Int).toNat (a3 : Int).toNat).size ≤ 9223372036854775807) = true := decide_eq_true c12
        try have c12b2 : (9223372036854775807 < (a0_0.extract (a3 : Int).toNat (a4 : Int).toNat).size + (a0_0.extract (a2 : Int).toNat (a3 : Int).toNat).size) = False := eq_false (Nat.not_lt.2 c12)
        by_cases c13 : 0 ≤ a1
        ·rw [if_pos c13] at H
         have c13b0 := eq_true c13
         have c13b1 : decide (0 ≤ a1) = true := decide_eq_true c13
         clear c13
         by_cases c14 : a1 ≤ a2
         ·rw [if_pos c14] at H
          have c14b0 := eq_true c14
          have c14b1 : decide (a1 ≤ a2) = true := decide_eq_true c14
          clear c14
          by_cases c15 : a2 ≤ (a0_0.size : Int)
          ·rw [if_pos c15] at H
           have c15b0 := eq_true c15
           have c15b1 : decide (a2 ≤ (a0_0.size : Int)) = true := decide_eq_true c15
           clear c15
           by_cases c16 : ((a0_0.extract (a3 : Int).toNat (a4 : Int).toNat) ++ (a0_0.extract (a2 : Int).toNat (a3 : Int).toNat)).size + (a0_0.extract (a1 : Int).toNat (a2 : Int).toNat).size ≤ 9223372036854775807
           ·rw [if_pos c16] at H
            have c16b0 := eq_true c16
            have c16b1 : decide (((a0_0.extract (a3 : Int).toNat (a4 : Int).toNat) ++ (a0_0.extract (a2 : Int).toNat (a3 : Int).toNat)).size + (a0_0.extract (a1 : Int).toNat (a2 : Int).toNat).size ≤ 9223372036854775807) = true := decide_eq_true c16
            try have c16b2 : (9223372036854775807 < ((a0_0.extract (a3 : Int).toNat (a4 : Int).toNat) ++ (a0_0.extract (a2 : Int).toNat (a3 : Int).toNat)).size + (a0_0.extract (a1 : Int).toNat (a2 : Int).toNat).size) = False := eq_false (Nat.not_lt.2 c16)
            simp only [Option.some.injEq,Prod.mk.injEq] at H
            obtain ⟨rfl,rfl,rfl,rfl,rfl,rfl,rfl⟩ := H
            go_enter Tryd.func72,Tryd.ntmps72
            go_wp2_with (first | ((with_reducible refine gate_dst (N := 5) rfl ?_);refine box_event ?hg (N := 5) ?hd (cs := #[.string a0_0,.int .i64 a0_1,.int .i64 a0_2,.int .i64 a0_3]) (t := 52) ?hr ?_;(case hd => rfl);(case hg => rfl);(case hr => first | (go_simp;done) | (go_simp;rfl));intro gb340 hg w17 hbox hb;have n0_ := Aside0.mk (below_step au0 hb);have n1_ := Aside0.mk (hbox);have n2_ := Aside0.mk ((by rw [hg];exact (below_size au0) : w.heap.size ≤ gb340));have n3_ := Aside0.mk ((by rw [hg];exact (below_size au0) : w.heap.size ≤ gb340));clear HB;have HB := n0_;have BK340 := n1_;have GW340 := n2_;have GE340 := n3_;clear n0_ n1_ n2_ n3_;clear hb hbox hg) | ((with_reducible refine gate_dst (N := 10) rfl ?_);refine box_event ?hg (N := 10) ?hd (cs := #[.int .i64 0,.int .i64 0,.string (⟨#[]⟩ : ByteArray),.int .i64 0,.string (⟨#[]⟩ : ByteArray),.bool false]) (t := 30) ?hr ?_;(case hd => rfl);(case hg => rfl);(case hr => first | (go_simp;done) | (go_simp;rfl));intro gb341 hg w18 hbox hb;have n0_ := Aside0.mk (blk_below (g := gb340) (o := .cells #[.string a0_0,.int .i64 a0_1,.int .i64 a0_2,.int .i64 a0_3] 52 (0,0)) au24 hb);have n1_ := Aside0.mk (below_step au17 hb);have n2_ := Aside0.mk (hbox);have n3_ := Aside0.mk ((by rw [hg];exact (below_size au17) : w.heap.size ≤ gb341));have n4_ := Aside0.mk ((by rw [hg];exact (below_size au17) : w.heap.size ≤ gb341));have n5_ := Aside0.mk ((by rw [hg];exact Nat.ne_of_lt (blk_lt (g := gb340) (o := .cells #[.string a0_0,.int .i64 a0_1,.int .i64 a0_2,.int .i64 a0_3] 52 (0,0)) au24) : gb340 ≠ gb341));have n6_ := Aside0.mk ((by rw [hg];exact Nat.ne_of_gt (blk_lt (g := gb340) (o := .cells #[.string a0_0,.int .i64 a0_1,.int .i64 a0_2,.int .i64 a0_3] 52 (0,0)) au24) : gb341 ≠ gb340));clear BK340;clear HB;have BK340 := n0_;have HB := n1_;have BK341 := n2_;have GW341 := n3_;have GE341 := n4_;have NB340_341 := n5_;have NB341_340 := n6_;clear n0_ n1_ n2_ n3_ n4_ n5_ n6_;clear hb hbox hg;have hnb19 := NB340_341.out;have hnc19 := NB341_340.out;have hcz20_0 : w18.cell? ⟨gb340,0,none⟩ = some (.string a0_0) := (blk_cell BK340.out 0).trans rfl;have hcz20_1 : w18.cell? ⟨gb340,1,none⟩ = some (.int .i64 a0_1) := (blk_cell BK340.out 1).trans rfl;have hcz20_2 : w18.cell? ⟨gb340,2,none⟩ = some (.int .i64 a0_2) := (blk_cell BK340.out 2).trans rfl;have hcz20_3 : w18.cell? ⟨gb340,3,none⟩ = some (.int .i64 a0_3) := (blk_cell BK340.out 3).trans rfl;have hfz20_0 := blk_frozen BK340.out 0;have hfz20_1 := blk_frozen BK340.out 1;have hfz20_2 := blk_frozen BK340.out 2;have hfz20_3 := blk_frozen BK340.out 3;have hcz21_0 : w18.cell? ⟨gb341,0,none⟩ = some (.int .i64 0) := (blk_cell BK341.out 0).trans rfl;have hcz21_1 : w18.cell? ⟨gb341,1,none⟩ = some (.int .i64 0) := (blk_cell BK341.out 1).trans rfl;have hcz21_2 : w18.cell? ⟨gb341,2,none⟩ = some (.string (⟨#[]⟩ : ByteArray)) := (blk_cell BK341.out 2).trans rfl;have hcz21_3 : w18.cell? ⟨gb341,3,none⟩ = some (.int .i64 0) := (blk_cell BK341.out 3).trans rfl;have hcz21_4 : w18.cell? ⟨gb341,4,none⟩ = some (.string (⟨#[]⟩ : ByteArray)) := (blk_cell BK341.out 4).trans rfl;have hcz21_5 : w18.cell? ⟨gb341,5,none⟩ = some (.bool false) := (blk_cell BK341.out 5).trans rfl;have hfz21_0 := blk_frozen BK341.out 0;have hfz21_1 := blk_frozen BK341.out 1;have hfz21_2 := blk_frozen BK341.out 2;have hfz21_3 := blk_frozen BK341.out 3;have hfz21_4 := blk_frozen BK341.out 4;have hfz21_5 := blk_frozen BK341.out 5))
            repeat (go_quiet (first | ((with_reducible refine gate_dst (N := 5) rfl ?_);refine box_event ?hg (N := 5) ?hd (cs := #[.string a0_0,.int .i64 a0_1,.int .i64 a0_2,.int .i64 a0_3]) (t := 52) ?hr ?_;(case hd => rfl);(case hg => rfl);(case hr => first | (go_simp;done) | (go_simp;rfl));intro gb340 hg w17 hbox hb;have n0_ := Aside0.mk (below_step au0 hb);have n1_ := Aside0.mk (hbox);have n2_ := Aside0.mk ((by rw [hg];exact (below_size au0) : w.heap.size ≤ gb340));have n3_ := Aside0.mk ((by rw [hg];exact (below_size au0) : w.heap.size ≤ gb340));clear HB;have HB := n0_;have BK340 := n1_;have GW340 := n2_;have GE340 := n3_;clear n0_ n1_ n2_ n3_;clear hb hbox hg) | ((with_reducible refine gate_dst (N := 10) rfl ?_);refine box_event ?hg (N := 10) ?hd (cs := #[.int .i64 0,.int .i64 0,.string (⟨#[]⟩ : ByteArray),.int .i64 0,.string (⟨#[]⟩ : ByteArray),.bool false]) (t := 30) ?hr ?_;(case hd => rfl);(case hg => rfl);(case hr => first | (go_simp;done) | (go_simp;rfl));intro gb341 hg w18 hbox hb;have n0_ := Aside0.mk (blk_below (g := gb340) (o := .cells #[.string a0_0,.int .i64 a0_1,.int .i64 a0_2,.int .i64 a0_3] 52 (0,0)) au24 hb);have n1_ := Aside0.mk (below_step au17 hb);have n2_ := Aside0.mk (hbox);have n3_ := Aside0.mk ((by rw [hg];exact (below_size au17) : w.heap.size ≤ gb341));have n4_ := Aside0.mk ((by rw [hg];exact (below_size au17) : w.heap.size ≤ gb341));have n5_ := Aside0.mk ((by rw [hg];exact Nat.ne_of_lt (blk_lt (g := gb340) (o := .cells #[.string a0_0,.int .i64 a0_1,.int .i64 a0_2,.int .i64 a0_3] 52 (0,0)) au24) : gb340 ≠ gb341));have n6_ := Aside0.mk ((by rw [hg];exact Nat.ne_of_gt (blk_lt (g := gb340) (o := .cells #[.string a0_0,.int .i64 a0_1,.int .i64 a0_2,.int .i64 a0_3] 52 (0,0)) au24) : gb341 ≠ gb340));clear BK340;clear HB;have BK340 := n0_;have HB := n1_;have BK341 := n2_;have GW341 := n3_;have GE341 := n4_;have NB340_341 := n5_;have NB341_340 := n6_;clear n0_ n1_ n2_ n3_ n4_ n5_ n6_;clear hb hbox hg;have hnb19 := NB340_341.out;have hnc19 := NB341_340.out;have hcz20_0 : w18.cell? ⟨gb340,0,none⟩ = some (.string a0_0) := (blk_cell BK340.out 0).trans rfl;have hcz20_1 : w18.cell? ⟨gb340,1,none⟩ = some (.int .i64 a0_1) := (blk_cell BK340.out 1).trans rfl;have hcz20_2 : w18.cell? ⟨gb340,2,none⟩ = some (.int .i64 a0_2) := (blk_cell BK340.out 2).trans rfl;have hcz20_3 : w18.cell? ⟨gb340,3,none⟩ = some (.int .i64 a0_3) := (blk_cell BK340.out 3).trans rfl;have hfz20_0 := blk_frozen BK340.out 0;have hfz20_1 := blk_frozen BK340.out 1;have hfz20_2 := blk_frozen BK340.out 2;have hfz20_3 := blk_frozen BK340.out 3;have hcz21_0 : w18.cell? ⟨gb341,0,none⟩ = some (.int .i64 0) := (blk_cell BK341.out 0).trans rfl;have hcz21_1 : w18.cell? ⟨gb341,1,none⟩ = some (.int .i64 0) := (blk_cell BK341.out 1).trans rfl;have hcz21_2 : w18.cell? ⟨gb341,2,none⟩ = some (.string (⟨#[]⟩ : ByteArray)) := (blk_cell BK341.out 2).trans rfl;have hcz21_3 : w18.cell? ⟨gb341,3,none⟩ = some (.int .i64 0) := (blk_cell BK341.out 3).trans rfl;have hcz21_4 : w18.cell? ⟨gb341,4,none⟩ = some (.string (⟨#[]⟩ : ByteArray)) := (blk_cell BK341.out 4).trans rfl;have hcz21_5 : w18.cell? ⟨gb341,5,none⟩ = some (.bool false) := (blk_cell BK341.out 5).trans rfl;have hfz21_0 := blk_frozen BK341.out 0;have hfz21_1 := blk_frozen BK341.out 1;have hfz21_2 := blk_frozen BK341.out 2;have hfz21_3 := blk_frozen BK341.out 3;have hfz21_4 := blk_frozen BK341.out 4;have hfz21_5 := blk_frozen BK341.out 5));try go_wp2_with (first | ((with_reducible refine gate_dst (N := 5) rfl ?_);refine box_event ?hg (N := 5) ?hd (cs := #[.string a0_0,.int .i64 a0_1,.int .i64 a0_2,.int .i64 a0_3]) (t := 52) ?hr ?_;(case hd => rfl);(case hg => rfl);(case hr => first | (go_simp;done) | (go_simp;rfl));intro gb340 hg w17 hbox hb;have n0_ := Aside0.mk (below_step au0 hb);have n1_ := Aside0.mk (hbox);have n2_ := Aside0.mk ((by rw [hg];exact (below_size au0) : w.heap.size ≤ gb340));have n3_ := Aside0.mk ((by rw [hg];exact (below_size au0) : w.heap.size ≤ gb340));clear HB;have HB := n0_;have BK340 := n1_;have GW340 := n2_;have GE340 := n3_;clear n0_ n1_ n2_ n3_;clear hb hbox hg) | ((with_reducible refine gate_dst (N := 10) rfl ?_);refine box_event ?hg (N := 10) ?hd (cs := #[.int .i64 0,.int .i64 0,.string (⟨#[]⟩ : ByteArray),.int .i64 0,.string (⟨#[]⟩ : ByteArray),.bool false]) (t := 30) ?hr ?_;(case hd => rfl);(case hg => rfl);(case hr => first | (go_simp;done) | (go_simp;rfl));intro gb341 hg w18 hbox hb;have n0_ := Aside0.mk (blk_below (g := gb340) (o := .cells #[.string a0_0,.int .i64 a0_1,.int .i64 a0_2,.int .i64 a0_3] 52 (0,0)) au24 hb);have n1_ := Aside0.mk (below_step au17 hb);have n2_ := Aside0.mk (hbox);have n3_ := Aside0.mk ((by rw [hg];exact (below_size au17) : w.heap.size ≤ gb341));have n4_ := Aside0.mk ((by rw [hg];exact (below_size au17) : w.heap.size ≤ gb341));have n5_ := Aside0.mk ((by rw [hg];exact Nat.ne_of_lt (blk_lt (g := gb340) (o := .cells #[.string a0_0,.int .i64 a0_1,.int .i64 a0_2,.int .i64 a0_3] 52 (0,0)) au24) : gb340 ≠ gb341));have n6_ := Aside0.mk ((by rw [hg];exact Nat.ne_of_gt (blk_lt (g := gb340) (o := .cells #[.string a0_0,.int .i64 a0_1,.int .i64 a0_2,.int .i64 a0_3] 52 (0,0)) au24) : gb341 ≠ gb340));clear BK340;clear HB;have BK340 := n0_;have HB := n1_;have BK341 := n2_;have GW341 := n3_;have GE341 := n4_;have NB340_341 := n5_;have NB341_340 := n6_;clear n0_ n1_ n2_ n3_ n4_ n5_ n6_;clear hb hbox hg;have hnb19 := NB340_341.out;have hnc19 := NB341_340.out;have hcz20_0 : w18.cell? ⟨gb340,0,none⟩ = some (.string a0_0) := (blk_cell BK340.out 0).trans rfl;have hcz20_1 : w18.cell? ⟨gb340,1,none⟩ = some (.int .i64 a0_1) := (blk_cell BK340.out 1).trans rfl;have hcz20_2 : w18.cell? ⟨gb340,2,none⟩ = some (.int .i64 a0_2) := (blk_cell BK340.out 2).trans rfl;have hcz20_3 : w18.cell? ⟨gb340,3,none⟩ = some (.int .i64 a0_3) := (blk_cell BK340.out 3).trans rfl;have hfz20_0 := blk_frozen BK340.out 0;have hfz20_1 := blk_frozen BK340.out 1;have hfz20_2 := blk_frozen BK340.out 2;have hfz20_3 := blk_frozen BK340.out 3;have hcz21_0 : w18.cell? ⟨gb341,0,none⟩ = some (.int .i64 0) := (blk_cell BK341.out 0).trans rfl;have hcz21_1 : w18.cell? ⟨gb341,1,none⟩ = some (.int .i64 0) := (blk_cell BK341.out 1).trans rfl;have hcz21_2 : w18.cell? ⟨gb341,2,none⟩ = some (.string (⟨#[]⟩ : ByteArray)) := (blk_cell BK341.out 2).trans rfl;have hcz21_3 : w18.cell? ⟨gb341,3,none⟩ = some (.int .i64 0) := (blk_cell BK341.out 3).trans rfl;have hcz21_4 : w18.cell? ⟨gb341,4,none⟩ = some (.string (⟨#[]⟩ : ByteArray)) := (blk_cell BK341.out 4).trans rfl;have hcz21_5 : w18.cell? ⟨gb341,5,none⟩ = some (.bool false) := (blk_cell BK341.out 5).trans rfl;have hfz21_0 := blk_frozen BK341.out 0;have hfz21_1 := blk_frozen BK341.out 1;have hfz21_2 := blk_frozen BK341.out 2;have hfz21_3 := blk_frozen BK341.out 3;have hfz21_4 := blk_frozen BK341.out 4;have hfz21_5 := blk_frozen BK341.out 5)))
            refine bodyPost_ret (results_ct rfl _ _ gb341 30 #[.int .i64 a1,.int .i64 (wrap64 (a4 - a1)),.string (((a0_0.extract (a3 : Int).toNat (a4 : Int).toNat) ++ (a0_0.extract (a2 : Int).toNat (a3 : Int).toNat)) ++ (a0_0.extract (a1 : Int).toNat (a2 : Int).toNat)),.int .i64 a4,.string (⟨#[]⟩ : ByteArray),.bool false] (0,0) _ rfl (by (with_reducible repeat (first | refine blk_drewN ?_ _ | refine blk_drew ?_ | refine blk_alloc ?_ _));refine blk_put (cs := #[.int .i64 a1,.int .i64 (wrap64 (a4 - a1)),.string (((a0_0.extract (a3 : Int).toNat (a4 : Int).toNat) ++ (a0_0.extract (a2 : Int).toNat (a3 : Int).toNat)) ++ (a0_0.extract (a1 : Int).toNat (a2 : Int).toNat)),.int .i64 a4,.string (⟨#[]⟩ : ByteArray),.bool false]) ?_ 5 _ rfl;(with_reducible repeat (first | refine blk_drewN ?_ _ | refine blk_drew ?_ | refine blk_alloc ?_ _));refine blk_put (cs := #[.int .i64 a1,.int .i64 (wrap64 (a4 - a1)),.string (((a0_0.extract (a3 : Int).toNat (a4 : Int).toNat) ++ (a0_0.extract (a2 : Int).toNat (a3 : Int).toNat)) ++ (a0_0.extract (a1 : Int).toNat (a2 : Int).toNat)),.int .i64 a4,.string (⟨#[]⟩ : ByteArray),.bool false]) ?_ 4 _ rfl;(with_reducible repeat (first | refine blk_drewN ?_ _ | refine blk_drew ?_ | refine blk_alloc ?_ _));refine blk_put (cs := #[.int .i64 a1,.int .i64 (wrap64 (a4 - a1)),.string (((a0_0.extract (a3 : Int).toNat (a4 : Int).toNat) ++ (a0_0.extract (a2 : Int).toNat (a3 : Int).toNat)) ++ (a0_0.extract (a1 : Int).toNat (a2 : Int).toNat)),.int .i64 0,.string (⟨#[]⟩ : ByteArray),.bool false]) ?_ 3 _ rfl;(with_reducible repeat (first | refine blk_drewN ?_ _ | refine blk_drew ?_ | refine blk_alloc ?_ _));refine blk_put (cs := #[.int .i64 a1,.int .i64 (wrap64 (a4 - a1)),.string (⟨#[]⟩ : ByteArray),.int .i64 0,.string (⟨#[]⟩ : ByteArray),.bool false]) ?_ 2 _ rfl;(with_reducible repeat (first | refine blk_drewN ?_ _ | refine blk_drew ?_ | refine blk_alloc ?_ _));refine blk_put (cs := #[.int .i64 a1,.int .i64 0,.string (⟨#[]⟩ : ByteArray),.int .i64 0,.string (⟨#[]⟩ : ByteArray),.bool false]) ?_ 1 _ rfl;(with_reducible repeat (first | refine blk_drewN ?_ _ | refine blk_drew ?_ | refine blk_alloc ?_ _));refine blk_put (cs := #[.int .i64 0,.int .i64 0,.string (⟨#[]⟩ : ByteArray),.int .i64 0,.string (⟨#[]⟩ : ByteArray),.bool false]) ?_ 0 _ rfl;(with_reducible repeat (first | refine blk_drewN ?_ _ | refine blk_drew ?_ | refine blk_alloc ?_ _));exact BK341.out) Tryd.underlying30 rfl (by kernel_rfl)) rfl ?_
            exact ⟨au2,by repeat (first | (with_reducible first | exact HB.out | apply below_alloc | apply pw_below_drewN | apply below_drew1 | refine below_set ?_ GE340.out | refine below_set ?_ GE341.out) | exact HB.out)⟩
           ·rw [if_neg c16] at H
            exact absurd H (by simp)
          ·rw [if_neg c15] at H
           exact absurd H (by simp)
         ·rw [if_neg c14] at H
          exact absurd H (by simp)
        ·rw [if_neg c13] at H
         exact absurd H (by simp)
       ·rw [if_neg c12] at H
        exact absurd H (by simp)
      ·rw [if_neg c11] at H
       exact absurd H (by simp)
     ·rw [if_neg c10] at H
      exact absurd H (by simp)
    ·rw [if_neg c9] at H
     exact absurd H (by simp)
   ·rw [if_neg c8] at H
    exact absurd H (by simp)
  ·rw [if_neg c7] at H
   exact absurd H (by simp)
 ·rw [if_neg c6] at H
  exact absurd H (by simp)
end Go.Proofs.YtfmnmjoofnbnfaaDoor.U
end
section
namespace Go.Proofs.YtfmnmjoofnbnfaaDoor.U
open Go.RowKit Go.Shelf Go.Proofs.YtfmnmjoofnbnfaaDoorW.PrintWords Go.Proofs.YtfmnmjoofnbnfaaDoorW.PrintLast Go.Proofs.YtfmnmjoofnbnfaaDoorW.PrintMore
set_option linter.unusedVariables false
set_option linter.unusedSimpArgs false
def outTab : List Int := [171,180,182,185,187,191,215,215,247,247,8192,8203,8206,8303,11776,11903,12288,12292,12296,12320,12336,12336,65072,65135,65281,65295,65306,65312]
def outIn (c : Int) : List Int → Bool
 | a :: b :: l => (decide (a ≤ c) && decide (c ≤ b)) || outIn c l
 | _ => false
def outB (c : Int) : Bool := outIn c outTab
def word_outside.f (a0 : Int) : Option Bool := some (outB a0)
def outCells : Array Value := (outTab.map (Value.int .i32)).toArray
def outZero : Array Value := Array.replicate 28 (.int .i32 0)
theorem outCells_at (j : Nat) (x : Int) (h : outTab[j]? = some x) : outCells[j]? = some (.int .i32 x) := by
 unfold outCells;simp [h]
theorem outIn_step (c : Int) (j : Nat) (a b : Int) (ha : outTab[2 * j]? = some a) (hb : outTab[2 * j + 1]? = some b) : outIn c (outTab.drop (2 * j)) = ((decide (a ≤ c) && decide (c ≤ b)) || outIn c (outTab.drop (2 * (j + 1)))) := by
 obtain ⟨h1,e1⟩ := List.getElem?_eq_some_iff.1 ha
 obtain ⟨h2,e2⟩ := List.getElem?_eq_some_iff.1 hb
 rw [List.drop_eq_getElem_cons h1,List.drop_eq_getElem_cons h2,e1,e2,outIn,show 2 * j + 1 + 1 = 2 * (j + 1) by omega]
theorem outTab_len : outTab.length = 28 := rfl
set_option maxRecDepth 100000 in
set_option maxHeartbeats 4000000 in
theorem word_outside.calls (a0 : Int) (r : Bool) (w : World) (h : word_outside.f a0 = some r) :
  Calls Tryd.prog 68 #[.int .i32 a0] w fun e w' => e = .returned (.bool r) ∧ Below w.heap.size w w' := by
 obtain rfl := Option.some.inj h
 obtain ⟨G,hG⟩ : ∃ G,outB a0 = G := ⟨_,rfl⟩
 rw [hG]
 clear h
 have hG2 : Hid (outIn a0 (outTab.drop (2 * 0)) = G) := Lib.hid hG
 clear hG
 have hu := Tryd.underlying107
 have hz := Tryd.sizeOf21
 go_enter Tryd.func68,Tryd.ntmps68
 go_upto_region 1 with (fail)
 rename_i K0 hK0
 apply wp_region_lit
 refine wpList_buildFlatArrTo rfl 107 21 28 _ rfl .i32 outTab (some 5) rfl (by kernel_rfl) (by kernel_rfl) (by kernel_rfl) (by kernel_rfl) ?_
 refine Go.Great.wpList_allocTo rfl (some 3) rfl (.pointer (some ⟨w.heap.size,0,none⟩)) (.cells outZero 107) (by kernel_rfl) ?_
 refine wpList_store_rowTo rfl 107 _ _ rfl rfl w.heap.size outCells rfl rfl 107 outZero (heap_alloc_new w _) (by kernel_rfl) (by kernel_rfl) (by kernel_rfl) ?_
 rw [show (w.alloc (.cells outZero 107)).setRow w.heap.size outCells = w.alloc (.cells outCells 107) from World.setRow_alloc_new _ _ _ _]
 apply wpList_nil
 refine hK0 _ _ ?_
 clear hK0 K0
 have hcell : ∀ (j : Nat) (x : Int),outTab[j]? = some x → (w.alloc (.cells outCells 107)).cell? ⟨w.heap.size,j,none⟩ = some (.int .i32 x) := fun j x hx => by rw [World.cell?_alloc_at _ _ _ _ rfl];exact outCells_at j x hx
 have hB : Below w.heap.size w (w.alloc (.cells outCells 107)) := (Below.refl _ w).alloc (Nat.le_refl _) _
 obtain ⟨W0,hW0⟩ : ∃ W0,w.alloc (.cells outCells 107) = W0 := ⟨_,rfl⟩
 rw [hW0] at hcell hB
 rw [hW0]
 clear hW0
 obtain ⟨AG,hAG⟩ : ∃ AG : Value,.agg (outTab.map (Value.int .i32)).toArray = AG := ⟨_,rfl⟩
 rw [hAG]
 clear hAG
 go_wp2
 go_loopw [4] (fun v wr => ∃ j : Nat,v = .int .i64 ((2 * j : Nat) : Int) ∧ j ≤ 14 ∧ Hid (outIn a0 (outTab.drop (2 * j)) = G) ∧ wr = W0)
  (fun v _ => (28 - intOf v).toNat)
 case atStart => exact ⟨0,rfl,by omega,hG2,rfl⟩
 case round =>
  obtain ⟨j,rfl,hj,hI,rfl⟩ := hrel
  by_cases hlt : j < 14
  ·obtain ⟨a,ha⟩ : ∃ a,outTab[2 * j]? = some a := ⟨_,List.getElem?_eq_getElem (by rw [outTab_len];omega)⟩
   obtain ⟨b,hb⟩ : ∃ b,outTab[2 * j + 1]? = some b := ⟨_,List.getElem?_eq_getElem (by rw [outTab_len];omega)⟩
   have hs := outIn_step a0 j a b ha hb
   have hca := hcell _ _ ha
   have hcb := hcell _ _ hb
   have hl1 : ((2 * j : Nat) : Int) < 28 := by omega
   have hn1 : ((2 * j : Nat) : Int).toNat = 2 * j := Int.toNat_natCast _
   have hw1 : IntKind.i64.wrap (((2 * j : Nat) : Int) + 1) = ((2 * j + 1 : Nat) : Int) := (i64_w _).trans (by unfold wrap64;omega)
   have hn2 : ((2 * j + 1 : Nat) : Int).toNat = 2 * j + 1 := Int.toNat_natCast _
   have hw2 : IntKind.i64.wrap (((2 * j : Nat) : Int) + 2) = ((2 * (j + 1) : Nat) : Int) := (i64_w _).trans (by unfold wrap64;omega)
   by_cases c1 : a ≤ a0
   ·by_cases c2 : a0 ≤ b
    ·have hG : Hid (true = G) := Lib.hid (by rw [← hI.out,hs,decide_eq_true c1,decide_eq_true c2];rfl)
     clear hI hs hcell hj hlt ha hb hu hz hG2 hw2
     go_wp2
     go_ret
     exact ⟨by obtain rfl := hG.out;rfl,hB⟩
    ·have hG : Hid (outIn a0 (outTab.drop (2 * (j + 1))) = G) := Lib.hid (by rw [← hI.out,hs,decide_eq_false c2,Bool.and_false,Bool.false_or])
     have hj2 : j + 1 ≤ 14 := by omega
     clear hI hs hcell hj hlt ha hb hu hz hG2
     go_wp2
     go_roundw
     case rel => exact ⟨j + 1,by go_num,hj2,hG,trivial⟩
     case measure => (try clear hw1);(try clear hw2);clear hn1 hn2;simp [intOf];omega
   ·have hG : Hid (outIn a0 (outTab.drop (2 * (j + 1))) = G) := Lib.hid (by rw [← hI.out,hs,decide_eq_false c1,Bool.false_and,Bool.false_or])
    have hj2 : j + 1 ≤ 14 := by omega
    clear hI hs hcell hj hlt ha hb hu hz hG2 hcb
    go_wp2
    go_roundw
    case rel => exact ⟨j + 1,by go_num,hj2,hG,trivial⟩
    case measure => (try clear hw1);(try clear hw2);clear hn1 hn2;simp [intOf];omega
  ·obtain rfl : j = 14 := by omega
   have e : outIn a0 (outTab.drop (2 * 14)) = false := rfl
   rw [e] at hI
   obtain rfl := hI.out
   go_wp2
   go_ret
   exact ⟨rfl,hB⟩
end Go.Proofs.YtfmnmjoofnbnfaaDoor.U
end
section
namespace Go.Proofs.YtfmnmjoofnbnfaaDoor.U
open Go.RowKit Go.Proofs.YtfmnmjoofnbnfaaDoorW.PrintWords Go.Proofs.YtfmnmjoofnbnfaaDoorW.PrintLast Go.Proofs.YtfmnmjoofnbnfaaDoorW.PrintMore
attribute [local go_sem] max2_int min2_int max_two min_two max_three min_three max_four min_four   -- for this text's walks alone
set_option linter.unusedVariables false
set_option linter.unusedSimpArgs false
mutual
def word_IsWord.j0 : Nat → Int → Bool → Option (Bool)
 | 0,_,_ => none
 | k + 1,x0,x3 => if x3 = true then (word_IsWord.j2 k x0 x3) else (if x0 ≥ 65 then (word_IsWord.j1 k x0 (decide (x0 ≤ 90))) else (word_IsWord.j1 k x0 false))
def word_IsWord.j2 : Nat → Int → Bool → Option (Bool)
 | 0,_,_ => none
 | k + 1,x0,x3 => if x3 = true then (some true) else (if x0 < 170 then (some false) else ((width_Class.f k x0).bind fun t443 => (if t443 = 3 then ((word_outside.f x0).bind fun t444 => (some (!t444))) else (if t443 = 4 then ((word_outside.f x0).bind fun t445 => (some (!t445))) else (if t443 = 0 then ((word_outside.f x0).bind fun t446 => (some (!t446))) else (some false))))))
def word_IsWord.j1 : Nat → Int → Bool → Option (Bool)
 | 0,_,_ => none
 | k + 1,x0,x3 => if x3 = true then (word_IsWord.j2 k x0 x3) else (if x0 ≥ 97 then (if x0 ≤ 122 then (word_IsWord.j2 k x0 (decide (x0 ≤ 122))) else (word_IsWord.j2 k x0 (x0 == 95))) else (word_IsWord.j2 k x0 (x0 == 95)))
end
def word_IsWord.f (k : Nat) (a0 : Int) : Option (Bool) := if a0 ≥ 48 then (word_IsWord.j0 k a0 (decide (a0 ≤ 57))) else (word_IsWord.j0 k a0 false)
set_option maxHeartbeats 8000000 in
set_option maxRecDepth 100000 in
theorem word_IsWord.calls (k : Nat) (a0 : Int) (r : Bool) (w : World) (h : word_IsWord.f k a0 = some r) :
  Calls Tryd.prog 36 #[.int .i32 a0] w fun e w' => e = .returned (.bool r) ∧ Below w.heap.size w w' := by
 have HB := Aside0.mk (Below.refl w.heap.size w)
 have H : (if a0 ≥ 48 then (word_IsWord.j0 k a0 (decide (a0 ≤ 57))) else (word_IsWord.j0 k a0 false)) = some r := h
 clear h
 have HC2 := Aside0.mk H
 clear H
 go_enter Tryd.func36,Tryd.ntmps36
 go_upto_region 1 with (fail)
 go_cut [3] (fun v3 wc => ∃ (kq : Nat) (x3_1 : Bool),v3 = .bool x3_1 ∧ Aside0 (word_IsWord.j0 kq a0 x3_1 = some r) ∧ Aside0 (kq ≤ k) ∧ Aside0 (Below w.heap.size w wc))
 case first =>
  have H := HC2.out
  clear HC2
  by_cases c3 : a0 ≥ 48
  ·rw [if_pos c3] at H
   have c3b0 : decide (48 ≤ a0) = true := decide_eq_true c3
   clear c3
   (first | rw [c3b0] | (simp only [i64_w,i32_w];rw [c3b0]) | skip)
   have H' := Aside0.mk H
   clear H
   go_wp2
   go_meet
   case rel => exact ⟨_,(decide (a0 ≤ 57)),au8,H',⟨by first | omega | exact Nat.le_refl _⟩,⟨au0⟩⟩
  ·rw [if_neg c3] at H
   have c3b0 : decide (48 ≤ a0) = false := decide_eq_false c3
   clear c3
   (first | rw [c3b0] | (simp only [i64_w,i32_w];rw [c3b0]) | skip)
   have H' := Aside0.mk H
   clear H
   go_wp2
   go_meet
   case rel => exact ⟨_,(false),au8,H',⟨by first | omega | exact Nat.le_refl _⟩,⟨au0⟩⟩
 case rest =>
  clear HC2
  try clear p2
  try clear c3
  try clear c3b0
  obtain ⟨kq,x3_1,rfl,HA,HJ1,HB⟩ := hcut
  cases kq with
  | zero => exact absurd HA.out (by simp [word_IsWord.j0])
  | succ kj1 =>
   have H := HA.out
   clear HA
   simp only [word_IsWord.j0] at H
   have HC4 := Aside0.mk H
   clear H
   go_upto_if 3 with (fail)
   go_cut [3] (fun v3 wc => ∃ (kq : Nat) (x3_3 : Bool),v3 = .bool x3_3 ∧ Aside0 (word_IsWord.j2 kq a0 x3_3 = some r) ∧ Aside0 (kq ≤ kj1) ∧ Aside0 (Below w.heap.size w wc))
   case first =>
    have H := HC4.out
    clear HC4
    by_cases c5 : x3_1 = true
    ·subst c5
     have H1 : (word_IsWord.j2 kj1 a0 true) = some r := by rw [if_pos rfl] at H;exact H
     clear H
     have H := H1
     clear H1
     have H' := Aside0.mk H
     clear H
     go_wp2
     go_meet
     case rel => exact ⟨_,(true),au8,H',⟨by have := HJ1.out;first | omega | exact Nat.le_refl _⟩,⟨au0⟩⟩
    ·replace c5 := Bool.eq_false_iff.mpr c5
     subst c5
     have H1 : (if a0 ≥ 65 then (word_IsWord.j1 kj1 a0 (decide (a0 ≤ 90))) else (word_IsWord.j1 kj1 a0 false)) = some r := by rw [if_neg (show ¬ (false = true) by decide)] at H;exact H
     clear H
     have H := H1
     clear H1
     have HC6 := Aside0.mk H
     clear H
     go_upto_region 2 with (fail)
     go_cut [3] (fun v3 wc => ∃ (kq : Nat) (x3_5 : Bool),v3 = .bool x3_5 ∧ Aside0 (word_IsWord.j1 kq a0 x3_5 = some r) ∧ Aside0 (kq ≤ kj1) ∧ Aside0 (Below w.heap.size w wc))
     case first =>
      have H := HC6.out
      clear HC6
      by_cases c7 : a0 ≥ 65
      ·rw [if_pos c7] at H
       have c7b0 : decide (65 ≤ a0) = true := decide_eq_true c7
       clear c7
       (first | rw [c7b0] | (simp only [i64_w,i32_w];rw [c7b0]) | skip)
       have H' := Aside0.mk H
       clear H
       go_wp2
       go_meet
       case rel => exact ⟨_,(decide (a0 ≤ 90)),au8,H',⟨by have := HJ1.out;first | omega | exact Nat.le_refl _⟩,⟨au0⟩⟩
      ·rw [if_neg c7] at H
       have c7b0 : decide (65 ≤ a0) = false := decide_eq_false c7
       clear c7
       (first | rw [c7b0] | (simp only [i64_w,i32_w];rw [c7b0]) | skip)
       have H' := Aside0.mk H
       clear H
       go_wp2
       go_meet
       case rel => exact ⟨_,(false),au8,H',⟨by have := HJ1.out;first | omega | exact Nat.le_refl _⟩,⟨au0⟩⟩
     case rest =>
      clear HC6
      try clear p2
      try clear c3
      try clear c3b0
      try clear c5
      try clear c7
      try clear c7b0
      try clear p2
      obtain ⟨kq,x3_5,rfl,HA,HJ5,HB⟩ := hcut
      cases kq with
      | zero => exact absurd HA.out (by simp [word_IsWord.j1])
      | succ kj5 =>
       have H := HA.out
       clear HA
       simp only [word_IsWord.j1] at H
       by_cases c8 : x3_5 = true
       ·subst c8
        have H1 : (word_IsWord.j2 kj5 a0 true) = some r := by rw [if_pos rfl] at H;exact H
        clear H
        have H := H1
        clear H1
        have H' := Aside0.mk H
        clear H
        go_wp2
        go_meet
        case rel => exact ⟨_,(true),au8,H',⟨by have := HJ1.out;have := HJ5.out;first | omega | exact Nat.le_refl _⟩,⟨au0⟩⟩
       ·replace c8 := Bool.eq_false_iff.mpr c8
        subst c8
        have H1 : (if a0 ≥ 97 then (if a0 ≤ 122 then (word_IsWord.j2 kj5 a0 (decide (a0 ≤ 122))) else (word_IsWord.j2 kj5 a0 (a0 == 95))) else (word_IsWord.j2 kj5 a0 (a0 == 95))) = some r := by rw [if_neg (show ¬ (false = true) by decide)] at H;exact H
        clear H
        have H := H1
        clear H1
        by_cases c9 : a0 ≥ 97
        ·rw [if_pos c9] at H
         have c9b0 : decide (97 ≤ a0) = true := decide_eq_true c9
         clear c9
         by_cases c10 : a0 ≤ 122
         ·rw [if_pos c10] at H
          have c10b0 : decide (a0 ≤ 122) = true := decide_eq_true c10
          clear c10
          have H' := Aside0.mk H
          clear H
          go_wp2
          go_meet
          case rel => exact ⟨_,(decide (a0 ≤ 122)),au8,H',⟨by have := HJ1.out;have := HJ5.out;first | omega | exact Nat.le_refl _⟩,⟨au0⟩⟩
         ·rw [if_neg c10] at H
          have c10b0 : decide (a0 ≤ 122) = false := decide_eq_false c10
          clear c10
          have H' := Aside0.mk H
          clear H
          go_wp2
          go_meet
          case rel => exact ⟨_,((a0 == 95)),au8,H',⟨by have := HJ1.out;have := HJ5.out;first | omega | exact Nat.le_refl _⟩,⟨au0⟩⟩
        ·rw [if_neg c9] at H
         have c9b0 : decide (97 ≤ a0) = false := decide_eq_false c9
         clear c9
         have H' := Aside0.mk H
         clear H
         go_wp2
         go_meet
         case rel => exact ⟨_,((a0 == 95)),au8,H',⟨by have := HJ1.out;have := HJ5.out;first | omega | exact Nat.le_refl _⟩,⟨au0⟩⟩
   case rest =>
    clear HC4
    try clear c1
    try clear p2
    try clear c3
    try clear c3b0
    try clear c5
    try clear c7
    try clear c7b0
    try clear c8
    try clear c9
    try clear c9b0
    try clear c10
    try clear c10b0
    try clear p2
    obtain ⟨kq,x3_3,rfl,HA,HJ3,HB⟩ := hcut
    cases kq with
    | zero => exact absurd HA.out (by simp [word_IsWord.j2])
    | succ kj3 =>
     have H := HA.out
     clear HA
     simp only [word_IsWord.j2] at H
     by_cases c11 : x3_3 = true
     ·subst c11
      have H1 : (some true) = some r := by rw [if_pos rfl] at H;exact H
      clear H
      have H := H1
      clear H1
      obtain rfl := Option.some.inj H
      go_wp2
      go_ret
      exact ⟨au2,au0⟩
     ·replace c11 := Bool.eq_false_iff.mpr c11
      subst c11
      have H1 : (if a0 < 170 then (some false) else ((width_Class.f kj3 a0).bind fun t443 => (if t443 = 3 then ((word_outside.f a0).bind fun t444 => (some (!t444))) else (if t443 = 4 then ((word_outside.f a0).bind fun t445 => (some (!t445))) else (if t443 = 0 then ((word_outside.f a0).bind fun t446 => (some (!t446))) else (some false)))))) = some r := by rw [if_neg (show ¬ (false = true) by decide)] at H;exact H
      clear H
      have H := H1
      clear H1
      by_cases c12 : a0 < 170
      ·rw [if_pos c12] at H
       have c12b0 : decide (a0 < 170) = true := decide_eq_true c12
       clear c12
       obtain rfl := Option.some.inj H
       go_wp2
       go_ret
       exact ⟨au2,au0⟩
      ·rw [if_neg c12] at H
       have c12b0 : decide (a0 < 170) = false := decide_eq_false c12
       clear c12
       replace H := Option.bind_eq_some_iff.mp H
       obtain ⟨t443,A130,H⟩ := H
       replace H : (if t443 = 3 then ((word_outside.f a0).bind fun t444 => (some (!t444))) else (if t443 = 4 then ((word_outside.f a0).bind fun t445 => (some (!t445))) else (if t443 = 0 then ((word_outside.f a0).bind fun t446 => (some (!t446))) else (some false)))) = some r := H
       have A13 := Aside0.mk A130
       clear A130
       by_cases c14 : t443 = 3
       ·rw [if_pos c14] at H
        have c14b0 : (t443 == 3) = true := beq_iff_eq.mpr c14
        have c14b1 : (t443 != 3) = false := bne_eq_false_iff_eq.mpr c14
        clear c14
        replace H := Option.bind_eq_some_iff.mp H
        obtain ⟨t444,A150,H⟩ := H
        replace H : (some (!t444)) = some r := H
        have A15 := Aside0.mk A150
        clear A150
        obtain rfl := Option.some.inj H
        go_wp2_with (first | ((with_reducible refine gate_callee (f := 65) rfl ?_);refine goesL_ (some 28) rfl rfl Tryd.func65 (by kernel_rfl) rfl #[.int .i32 a0] rfl au1 ?_;(with_reducible refine (width_Class.calls kj3 a0 t443 _ A13.out).mono ?_);rintro e w16 ⟨rfl,hb⟩;refine ⟨_,rfl,?_⟩;have n0_ := Aside0.mk (below_step au0 hb);clear HB;have HB := n0_;clear n0_;(try clear hb);(try clear hb2);(try clear hk);(try clear hi)) | ((with_reducible refine gate_callee (f := 68) rfl ?_);refine goesL_ (some 34) rfl rfl Tryd.func68 (by kernel_rfl) rfl #[.int .i32 a0] rfl au1 ?_;(with_reducible refine (word_outside.calls a0 t444 _ A15.out).mono ?_);rintro e w17 ⟨rfl,hb⟩;refine ⟨_,rfl,?_⟩;have n0_ := Aside0.mk (below_step au0 hb);clear HB;have HB := n0_;clear n0_;(try clear hb);(try clear hb2);(try clear hk);(try clear hi)))
        go_ret
        exact ⟨au2,au0⟩
       ·rw [if_neg c14] at H
        have c14b0 : (t443 == 3) = false := beq_eq_false_iff_ne.mpr c14
        have c14b1 : (t443 != 3) = true := bne_iff_ne.mpr c14
        by_cases c18 : t443 = 4
        ·rw [if_pos c18] at H
         have c18b0 : (t443 == 4) = true := beq_iff_eq.mpr c18
         have c18b1 : (t443 != 4) = false := bne_eq_false_iff_eq.mpr c18
         clear c18
         replace H := Option.bind_eq_some_iff.mp H
         obtain ⟨t445,A190,H⟩ := H
         replace H : (some (!t445)) = some r := H
         have A19 := Aside0.mk A190
         clear A190
         obtain rfl := Option.some.inj H
         go_wp2_with (first | ((with_reducible refine gate_callee (f := 65) rfl ?_);refine goesL_ (some 28) rfl rfl Tryd.func65 (by kernel_rfl) rfl #[.int .i32 a0] rfl au1 ?_;(with_reducible refine (width_Class.calls kj3 a0 t443 _ A13.out).mono ?_);rintro e w20 ⟨rfl,hb⟩;refine ⟨_,rfl,?_⟩;have n0_ := Aside0.mk (below_step au0 hb);clear HB;have HB := n0_;clear n0_;(try clear hb);(try clear hb2);(try clear hk);(try clear hi)) | ((with_reducible refine gate_callee (f := 68) rfl ?_);refine goesL_ (some 34) rfl rfl Tryd.func68 (by kernel_rfl) rfl #[.int .i32 a0] rfl au1 ?_;(with_reducible refine (word_outside.calls a0 t445 _ A19.out).mono ?_);rintro e w21 ⟨rfl,hb⟩;refine ⟨_,rfl,?_⟩;have n0_ := Aside0.mk (below_step au0 hb);clear HB;have HB := n0_;clear n0_;(try clear hb);(try clear hb2);(try clear hk);(try clear hi)))
         go_ret
         exact ⟨au2,au0⟩
        ·rw [if_neg c18] at H
         have c18b0 : (t443 == 4) = false := beq_eq_false_iff_ne.mpr c18
         have c18b1 : (t443 != 4) = true := bne_iff_ne.mpr c18
         by_cases c22 : t443 = 0
         ·rw [if_pos c22] at H
          have c22b0 : (t443 == 0) = true := beq_iff_eq.mpr c22
          have c22b1 : (t443 != 0) = false := bne_eq_false_iff_eq.mpr c22
          clear c22
          replace H := Option.bind_eq_some_iff.mp H
          obtain ⟨t446,A230,H⟩ := H
          replace H : (some (!t446)) = some r := H
          have A23 := Aside0.mk A230
          clear A230
          obtain rfl := Option.some.inj H
          go_wp2_with (first | ((with_reducible refine gate_callee (f := 65) rfl ?_);refine goesL_ (some 28) rfl rfl Tryd.func65 (by kernel_rfl) rfl #[.int .i32 a0] rfl au1 ?_;(with_reducible refine (width_Class.calls kj3 a0 t443 _ A13.out).mono ?_);rintro e w24 ⟨rfl,hb⟩;refine ⟨_,rfl,?_⟩;have n0_ := Aside0.mk (below_step au0 hb);clear HB;have HB := n0_;clear n0_;(try clear hb);(try clear hb2);(try clear hk);(try clear hi)) | ((with_reducible refine gate_callee (f := 68) rfl ?_);refine goesL_ (some 34) rfl rfl Tryd.func68 (by kernel_rfl) rfl #[.int .i32 a0] rfl au1 ?_;(with_reducible refine (word_outside.calls a0 t446 _ A23.out).mono ?_);rintro e w25 ⟨rfl,hb⟩;refine ⟨_,rfl,?_⟩;have n0_ := Aside0.mk (below_step au0 hb);clear HB;have HB := n0_;clear n0_;(try clear hb);(try clear hb2);(try clear hk);(try clear hi)))
          go_ret
          exact ⟨au2,au0⟩
         ·rw [if_neg c22] at H
          have c22b0 : (t443 == 0) = false := beq_eq_false_iff_ne.mpr c22
          have c22b1 : (t443 != 0) = true := bne_iff_ne.mpr c22
          obtain rfl := Option.some.inj H
          go_wp2_with (first | ((with_reducible refine gate_callee (f := 65) rfl ?_);refine goesL_ (some 28) rfl rfl Tryd.func65 (by kernel_rfl) rfl #[.int .i32 a0] rfl au1 ?_;(with_reducible refine (width_Class.calls kj3 a0 t443 _ A13.out).mono ?_);rintro e w26 ⟨rfl,hb⟩;refine ⟨_,rfl,?_⟩;have n0_ := Aside0.mk (below_step au0 hb);clear HB;have HB := n0_;clear n0_;(try clear hb);(try clear hb2);(try clear hk);(try clear hi)))
          go_ret
          exact ⟨au2,au0⟩
end Go.Proofs.YtfmnmjoofnbnfaaDoor.U
end
