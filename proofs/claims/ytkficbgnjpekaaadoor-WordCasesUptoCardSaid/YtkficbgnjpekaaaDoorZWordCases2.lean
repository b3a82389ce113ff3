/- What the law WordCases reaches of this seat's own texts, merged; what nothing uses is left out. -/
import Derived.Test.YtkficbgnjpekaaaDoorZWordCases0
import Derived.Test.YtkficbgnjpekaaaDoorZWordCases1
section
namespace Go.Proofs.YtkficbgnjpekaaaDoor.U
open Go.RowKit Go.Proofs.YtkficbgnjpekaaaDoorW.PrintWords Go.Proofs.YtkficbgnjpekaaaDoorW.PrintLast Go.Proofs.YtkficbgnjpekaaaDoorW.PrintMore
attribute [local go_sem] max2_int min2_int max_two min_two max_three min_three max_four min_four   -- for this text's walks alone
set_option linter.unusedVariables false
set_option linter.unusedSimpArgs false
mutual
def bodkinref02_Class.j0 : Nat → Int → Bool → Option (Int)
 | 0,_,_ => none
 | k + 1,x0,x3 => if x3 = true then (some 5) else (if x0 = 10 then (some 1) else (if x0 ≤ 31 then (bodkinref02_Class.j1 k x0 true) else (if x0 ≥ 127 then (bodkinref02_Class.j1 k x0 (decide (x0 ≤ 159))) else (bodkinref02_Class.j1 k x0 false))))
def bodkinref02_Class.j1 : Nat → Int → Bool → Option (Int)
 | 0,_,_ => none
 | k + 1,x0,x21 => if x21 = true then (some 2) else (if x0 < 768 then (some 0) else ((bodkinref02_Table.f k (⟨#[51,48,48,32,51,54,70,44,32,52,56,51,32,52,56,57,44,32,53,57,49,32,53,66,68,44,32,53,66,70,32,53,66,70,44,32,53,67,49,32,53,67,50,44,32,54,49,48,32,54,49,65,44,32,54,52,66,32,54,53,70,44,32,54,55,48,32,54,55,48,44,32,54,68,54,32,54,68,67,44,32,57,48,48,32,57,48,50,44,32,57,51,67,32,57,51,67,44,32,57,52,68,32,57,52,68,44,32,69,51,49,32,69,51,49,44,32,69,51,52,32,69,51,65,44,32,69,52,55,32,69,52,69,44,32,49,51,53,68,32,49,51,53,70,44,32,49,65,66,48,32,49,65,70,70,44,32,49,68,67,48,32,49,68,70,70,44,32,50,48,48,67,32,50,48,48,68,44,32,50,48,68,48,32,50,48,70,70,44,32,51,48,50,65,32,51,48,50,70,44,32,51,48,57,57,32,51,48,57,65,44,32,70,69,48,48,32,70,69,48,70,44,32,70,69,50,48,32,70,69,50,70,44,32,49,70,51,70,66,32,49,70,51,70,70,44,32,69,48,49,48,48,32,69,48,49,69,70]⟩ : ByteArray)).bind fun t182 => ((bodkinref02_Within.f k t182 x0).bind fun t185 => (if t185 = true then (some 3) else ((bodkinref02_Table.f k (⟨#[49,49,48,48,32,49,49,53,70,44,32,50,51,49,65,32,50,51,49,66,44,32,50,51,50,57,32,50,51,50,65,44,32,50,51,69,57,32,50,51,69,67,44,32,50,53,70,68,32,50,53,70,69,44,32,50,54,49,52,32,50,54,49,53,44,32,50,54,52,56,32,50,54,53,51,44,32,50,54,65,65,32,50,54,65,66,44,32,50,69,56,48,32,51,48,50,57,44,32,51,48,51,48,32,51,48,51,69,44,32,51,48,52,49,32,51,48,57,56,44,32,51,48,57,66,32,52,68,66,70,44,32,52,69,48,48,32,65,52,67,70,44,32,65,57,54,48,32,65,57,55,70,44,32,65,67,48,48,32,68,55,65,51,44,32,70,57,48,48,32,70,65,70,70,44,32,70,69,51,48,32,70,69,54,70,44,32,70,70,48,49,32,70,70,54,48,44,32,70,70,69,48,32,70,70,69,54,44,32,49,54,70,69,48,32,49,56,65,70,70,44,32,49,66,48,48,48,32,49,66,50,70,70,44,32,49,70,51,48,48,32,49,70,51,70,65,44,32,49,70,52,48,48,32,49,70,54,52,70,44,32,49,70,54,56,48,32,49,70,54,70,70,44,32,49,70,57,48,48,32,49,70,57,70,70,44,32,50,48,48,48,48,32,50,70,70,70,68,44,32,51,48,48,48,48,32,51,70,70,70,68]⟩ : ByteArray)).bind fun t186 => ((bodkinref02_Within.f k t186 x0).bind fun t189 => (if t189 = true then (some 4) else (some 0))))))))
end
def bodkinref02_Class.f (k : Nat) (a0 : Int) : Option (Int) := if a0 < 0 then (bodkinref02_Class.j0 k a0 true) else (if a0 > 1114111 then (bodkinref02_Class.j0 k a0 true) else (if a0 ≥ 55296 then (bodkinref02_Class.j0 k a0 (decide (a0 ≤ 57343))) else (bodkinref02_Class.j0 k a0 false)))
set_option maxHeartbeats 8000000 in
set_option maxRecDepth 100000 in
theorem bodkinref02_Class.calls (k : Nat) (a0 : Int) (r : Int) (w : World) (h : bodkinref02_Class.f k a0 = some r) :
  Calls Tryd.prog 41 #[.int .i32 a0] w fun e w' => e = .returned (.int .i64 r) ∧ Below w.heap.size w w' := by
 have HB := Aside0.mk (Below.refl w.heap.size w)
 have H : (if a0 < 0 then (bodkinref02_Class.j0 k a0 true) else (if a0 > 1114111 then (bodkinref02_Class.j0 k a0 true) else (if a0 ≥ 55296 then (bodkinref02_Class.j0 k a0 (decide (a0 ≤ 57343))) else (bodkinref02_Class.j0 k a0 false)))) = some r := h
 clear h
 have HC2 := Aside0.mk H
 clear H
 go_enter Tryd.func41,Tryd.ntmps41
 go_upto_region 1 with (fail)
 go_cut [3] (fun v3 wc => ∃ (kq : Nat) (x3_1 : Bool),v3 = .bool x3_1 ∧ Aside0 (bodkinref02_Class.j0 kq a0 x3_1 = some r) ∧ Aside0 (kq ≤ k) ∧ Aside0 (Below w.heap.size w wc))
 case first =>
  have H := HC2.out
  clear HC2
  by_cases c3 : a0 < 0
  ·rw [if_pos c3] at H
   have c3b0 : decide (a0 < 0) = true := decide_eq_true c3
   clear c3
   (first | rw [c3b0] | (simp only [i64_w,i32_w];rw [c3b0]) | skip)
   have H' := Aside0.mk H
   clear H
   go_wp2
   go_meet
   case rel => exact ⟨_,(true),au3,H',⟨by first | omega | exact Nat.le_refl _⟩,⟨au0⟩⟩
  ·rw [if_neg c3] at H
   have c3b0 : decide (a0 < 0) = false := decide_eq_false c3
   clear c3
   (first | rw [c3b0] | (simp only [i64_w,i32_w];rw [c3b0]) | skip)
   by_cases c4 : a0 > 1114111
   ·rw [if_pos c4] at H
    have c4b0 : decide (1114111 < a0) = true := decide_eq_true c4
    clear c4
    have H' := Aside0.mk H
    clear H
    go_wp2
    go_meet
    case rel => exact ⟨_,(true),au3,H',⟨by first | omega | exact Nat.le_refl _⟩,⟨au0⟩⟩
   ·rw [if_neg c4] at H
    have c4b0 : decide (1114111 < a0) = false := decide_eq_false c4
    clear c4
    by_cases c5 : a0 ≥ 55296
    ·rw [if_pos c5] at H
     have c5b0 : decide (55296 ≤ a0) = true := decide_eq_true c5
     clear c5
     have H' := Aside0.mk H
     clear H
     go_wp2
     go_meet
     case rel => exact ⟨_,(decide (a0 ≤ 57343)),au3,H',⟨by first | omega | exact Nat.le_refl _⟩,⟨au0⟩⟩
    ·rw [if_neg c5] at H
     have c5b0 : decide (55296 ≤ a0) = false := decide_eq_false c5
     clear c5
     have H' := Aside0.mk H
     clear H
     go_wp2
     go_meet
     case rel => exact ⟨_,(false),au3,H',⟨by first | omega | exact Nat.le_refl _⟩,⟨au0⟩⟩
 case rest =>
  clear HC2
  try clear p2
  try clear c3
  try clear c3b0
  try clear c4
  try clear c4b0
  try clear c5
  try clear c5b0
  obtain ⟨kq,x3_1,rfl,HA,HJ1,HB⟩ := hcut
  cases kq with
  | zero => exact absurd HA.out (by simp [bodkinref02_Class.j0])
  | succ kj1 =>
   have H := HA.out
   clear HA
   simp only [bodkinref02_Class.j0] at H
   by_cases c6 : x3_1 = true
   ·subst c6
    have H1 : (some 5) = some r := by rw [if_pos rfl] at H;exact H
    clear H
    have H := H1
    clear H1
    obtain rfl := Option.some.inj H
    go_wp2
    go_ret
    exact ⟨au2,au0⟩
   ·replace c6 := Bool.eq_false_iff.mpr c6
    subst c6
    have H1 : (if a0 = 10 then (some 1) else (if a0 ≤ 31 then (bodkinref02_Class.j1 kj1 a0 true) else (if a0 ≥ 127 then (bodkinref02_Class.j1 kj1 a0 (decide (a0 ≤ 159))) else (bodkinref02_Class.j1 kj1 a0 false)))) = some r := by rw [if_neg (show ¬ (false = true) by decide)] at H;exact H
    clear H
    have H := H1
    clear H1
    by_cases c7 : a0 = 10
    ·rw [if_pos c7] at H
     have c7b0 : (a0 == 10) = true := beq_iff_eq.mpr c7
     have c7b1 : (a0 != 10) = false := bne_eq_false_iff_eq.mpr c7
     clear c7
     obtain rfl := Option.some.inj H
     go_wp2
     go_ret
     exact ⟨au2,au0⟩
    ·rw [if_neg c7] at H
     have c7b0 : (a0 == 10) = false := beq_eq_false_iff_ne.mpr c7
     have c7b1 : (a0 != 10) = true := bne_iff_ne.mpr c7
     have HC8 := Aside0.mk H
     clear H
     go_upto_region 5 with (fail)
     go_cut [21] (fun v21 wc => ∃ (kq : Nat) (x21_7 : Bool),v21 = .bool x21_7 ∧ Aside0 (bodkinref02_Class.j1 kq a0 x21_7 = some r) ∧ Aside0 (kq ≤ kj1) ∧ Aside0 (Below w.heap.size w wc))
     case first =>
      have H := HC8.out
      clear HC8
      by_cases c9 : a0 ≤ 31
      ·rw [if_pos c9] at H
       have c9b0 : decide (a0 ≤ 31) = true := decide_eq_true c9
       clear c9
       (first | rw [c9b0] | (simp only [i64_w,i32_w];rw [c9b0]) | skip)
       have H' := Aside0.mk H
       clear H
       go_wp2
       go_meet
       case rel => exact ⟨_,(true),au3,H',⟨by have := HJ1.out;first | omega | exact Nat.le_refl _⟩,⟨au0⟩⟩
      ·rw [if_neg c9] at H
       have c9b0 : decide (a0 ≤ 31) = false := decide_eq_false c9
       clear c9
       (first | rw [c9b0] | (simp only [i64_w,i32_w];rw [c9b0]) | skip)
       by_cases c10 : a0 ≥ 127
       ·rw [if_pos c10] at H
        have c10b0 : decide (127 ≤ a0) = true := decide_eq_true c10
        clear c10
        have H' := Aside0.mk H
        clear H
        go_wp2
        go_meet
        case rel => exact ⟨_,(decide (a0 ≤ 159)),au3,H',⟨by have := HJ1.out;first | omega | exact Nat.le_refl _⟩,⟨au0⟩⟩
       ·rw [if_neg c10] at H
        have c10b0 : decide (127 ≤ a0) = false := decide_eq_false c10
        clear c10
        have H' := Aside0.mk H
        clear H
        go_wp2
        go_meet
        case rel => exact ⟨_,(false),au3,H',⟨by have := HJ1.out;first | omega | exact Nat.le_refl _⟩,⟨au0⟩⟩
     case rest =>
      clear HC8
      try clear c1
      try clear p2
      try clear c3
      try clear c3b0
      try clear c4
      try clear c4b0
      try clear c5
      try clear c5b0
      try clear c6
      try clear c7
      try clear c7b0
      try clear c7b1
      try clear c9
      try clear c9b0
      try clear c10
      try clear c10b0
      try clear p2
      obtain ⟨kq,x21_7,rfl,HA,HJ7,HB⟩ := hcut
      cases kq with
      | zero => exact absurd HA.out (by simp [bodkinref02_Class.j1])
      | succ kj7 =>
       have H := HA.out
       clear HA
       simp only [bodkinref02_Class.j1] at H
       by_cases c11 : x21_7 = true
       ·subst c11
        have H1 : (some 2) = some r := by rw [if_pos rfl] at H;exact H
        clear H
        have H := H1
        clear H1
        obtain rfl := Option.some.inj H
        go_wp2
        go_ret
        exact ⟨au2,au0⟩
       ·replace c11 := Bool.eq_false_iff.mpr c11
        subst c11
        have H1 : (if a0 < 768 then (some 0) else ((bodkinref02_Table.f kj7 (⟨#[51,48,48,32,51,54,70,44,32,52,56,51,32,52,56,57,44,32,53,57,49,32,53,66,68,44,32,53,66,70,32,53,66,70,44,32,53,67,49,32,53,67,50,44,32,54,49,48,32,54,49,65,44,32,54,52,66,32,54,53,70,44,32,54,55,48,32,54,55,48,44,32,54,68,54,32,54,68,67,44,32,57,48,48,32,57,48,50,44,32,57,51,67,32,57,51,67,44,32,57,52,68,32,57,52,68,44,32,69,51,49,32,69,51,49,44,32,69,51,52,32,69,51,65,44,32,69,52,55,32,69,52,69,44,32,49,51,53,68,32,49,51,53,70,44,32,49,65,66,48,32,49,65,70,70,44,32,49,68,67,48,32,49,68,70,70,44,32,50,48,48,67,32,50,48,48,68,44,32,50,48,68,48,32,50,48,70,70,44,32,51,48,50,65,32,51,48,50,70,44,32,51,48,57,57,32,51,48,57,65,44,32,70,69,48,48,32,70,69,48,70,44,32,70,69,50,48,32,70,69,50,70,44,32,49,70,51,70,66,32,49,70,51,70,70,44,32,69,48,49,48,48,32,69,48,49,69,70]⟩ : ByteArray)).bind fun t182 => ((bodkinref02_Within.f kj7 t182 a0).bind fun t185 => (if t185 = true then (some 3) else ((bodkinref02_Table.f kj7 (⟨#[49,49,48,48,32,49,49,53,70,44,32,50,51,49,65,32,50,51,49,66,44,32,50,51,50,57,32,50,51,50,65,44,32,50,51,69,57,32,50,51,69,67,44,32,50,53,70,68,32,50,53,70,69,44,32,50,54,49,52,32,50,54,49,53,44,32,50,54,52,56,32,50,54,53,51,44,32,50,54,65,65,32,50,54,65,66,44,32,50,69,56,48,32,51,48,50,57,44,32,51,48,51,48,32,51,48,51,69,44,32,51,48,52,49,32,51,48,57,56,44,32,51,48,57,66,32,52,68,66,70,44,32,52,69,48,48,32,65,52,67,70,44,32,65,57,54,48,32,65,57,55,70,44,32,65,67,48,48,32,68,55,65,51,44,32,70,57,48,48,32,70,65,70,70,44,32,70,69,51,48,32,70,69,54,70,44,32,70,70,48,49,32,70,70,54,48,44,32,70,70,69,48,32,70,70,69,54,44,32,49,54,70,69,48,32,49,56,65,70,70,44,32,49,66,48,48,48,32,49,66,50,70,70,44,32,49,70,51,48,48,32,49,70,51,70,65,44,32,49,70,52,48,48,32,49,70,54,52,70,44,32,49,70,54,56,48,32,49,70,54,70,70,44,32,49,70,57,48,48,32,49,70,57,70,70,44,32,50,48,48,48,48,32,50,70,70,70,68,44,32,51,48,48,48,48,32,51,70,70,70,68]⟩ : ByteArray)).bind fun t186 => ((bodkinref02_Within.f kj7 t186 a0).bind fun t189 => (if t189 = true then (some 4) else (some 0)))))))) = some r := by rw [if_neg (show ¬ (false = true) by decide)] at H;exact H
        clear H
        have H := H1
        clear H1
        by_cases c12 : a0 < 768
        ·rw [if_pos c12] at H
         have c12b0 : decide (a0 < 768) = true := decide_eq_true c12
         clear c12
         obtain rfl := Option.some.inj H
         go_wp2
         go_ret
         exact ⟨au2,au0⟩
        ·rw [if_neg c12] at H
         have c12b0 : decide (a0 < 768) = false := decide_eq_false c12
         clear c12
         replace H := Option.bind_eq_some_iff.mp H
         obtain ⟨t182,A130,H⟩ := H
         replace H : ((bodkinref02_Within.f kj7 t182 a0).bind fun t185 => (if t185 = true then (some 3) else ((bodkinref02_Table.f kj7 (⟨#[49,49,48,48,32,49,49,53,70,44,32,50,51,49,65,32,50,51,49,66,44,32,50,51,50,57,32,50,51,50,65,44,32,50,51,69,57,32,50,51,69,67,44,32,50,53,70,68,32,50,53,70,69,44,32,50,54,49,52,32,50,54,49,53,44,32,50,54,52,56,32,50,54,53,51,44,32,50,54,65,65,32,50,54,65,66,44,32,50,69,56,48,32,51,48,50,57,44,32,51,48,51,48,32,51,48,51,69,44,32,51,48,52,49,32,51,48,57,56,44,32,51,48,57,66,32,52,68,66,70,44,32,52,69,48,48,32,65,52,67,70,44,32,65,57,54,48,32,65,57,55,70,44,32,65,67,48,48,32,68,55,65,51,44,32,70,57,48,48,32,70,65,70,70,44,32,70,69,51,48,32,70,69,54,70,44,32,70,70,48,49,32,70,70,54,48,44,32,70,70,69,48,32,70,70,69,54,44,32,49,54,70,69,48,32,49,56,65,70,70,44,32,49,66,48,48,48,32,49,66,50,70,70,44,32,49,70,51,48,48,32,49,70,51,70,65,44,32,49,70,52,48,48,32,49,70,54,52,70,44,32,49,70,54,56,48,32,49,70,54,70,70,44,32,49,70,57,48,48,32,49,70,57,70,70,44,32,50,48,48,48,48,32,50,70,70,70,68,44,32,51,48,48,48,48,32,51,70,70,70,68]⟩ : ByteArray)).bind fun t186 => ((bodkinref02_Within.f kj7 t186 a0).bind fun t189 => (if t189 = true then (some 4) else (some 0)))))) = some r := H
         have A13 := Aside0.mk A130
         clear A130
         replace H := Option.bind_eq_some_iff.mp H
         obtain ⟨t185,A140,H⟩ := H
         replace H : (if t185 = true then (some 3) else ((bodkinref02_Table.f kj7 (⟨#[49,49,48,48,32,49,49,53,70,44,32,50,51,49,65,32,50,51,49,66,44,32,50,51,50,57,32,50,51,50,65,44,32,50,51,69,57,32,50,51,69,67,44,32,50,53,70,68,32,50,53,70,69,44,32,50,54,49,52,32,50,54,49,53,44,32,50,54,52,56,32,50,54,53,51,44,32,50,54,65,65,32,50,54,65,66,44,32,50,69,56,48,32,51,48,50,57,44,32,51,48,51,48,32,51,48,51,69,44,32,51,48,52,49,32,51,48,57,56,44,32,51,48,57,66,32,52,68,66,70,44,32,52,69,48,48,32,65,52,67,70,44,32,65,57,54,48,32,65,57,55,70,44,32,65,67,48,48,32,68,55,65,51,44,32,70,57,48,48,32,70,65,70,70,44,32,70,69,51,48,32,70,69,54,70,44,32,70,70,48,49,32,70,70,54,48,44,32,70,70,69,48,32,70,70,69,54,44,32,49,54,70,69,48,32,49,56,65,70,70,44,32,49,66,48,48,48,32,49,66,50,70,70,44,32,49,70,51,48,48,32,49,70,51,70,65,44,32,49,70,52,48,48,32,49,70,54,52,70,44,32,49,70,54,56,48,32,49,70,54,70,70,44,32,49,70,57,48,48,32,49,70,57,70,70,44,32,50,48,48,48,48,32,50,70,70,70,68,44,32,51,48,48,48,48,32,51,70,70,70,68]⟩ : ByteArray)).bind fun t186 => ((bodkinref02_Within.f kj7 t186 a0).bind fun t189 => (if t189 = true then (some 4) else (some 0))))) = some r := H
         have A14 := Aside0.mk A140
         clear A140
         by_cases c15 : t185 = true
         ·subst c15
          have H1 : (some 3) = some r := by rw [if_pos rfl] at H;exact H
          clear H
          have H := H1
          clear H1
          obtain rfl := Option.some.inj H
          go_wp2_with (first | ((with_reducible refine gate_callee (f := 40) rfl ?_);refine goesL_ (some 36) rfl rfl Tryd.func40 (by kernel_rfl) rfl #[.string (⟨#[51,48,48,32,51,54,70,44,32,52,56,51,32,52,56,57,44,32,53,57,49,32,53,66,68,44,32,53,66,70,32,53,66,70,44,32,53,67,49,32,53,67,50,44,32,54,49,48,32,54,49,65,44,32,54,52,66,32,54,53,70,44,32,54,55,48,32,54,55,48,44,32,54,68,54,32,54,68,67,44,32,57,48,48,32,57,48,50,44,32,57,51,67,32,57,51,67,44,32,57,52,68,32,57,52,68,44,32,69,51,49,32,69,51,49,44,32,69,51,52,32,69,51,65,44,32,69,52,55,32,69,52,69,44,32,49,51,53,68,32,49,51,53,70,44,32,49,65,66,48,32,49,65,70,70,44,32,49,68,67,48,32,49,68,70,70,44,32,50,48,48,67,32,50,48,48,68,44,32,50,48,68,48,32,50,48,70,70,44,32,51,48,50,65,32,51,48,50,70,44,32,51,48,57,57,32,51,48,57,65,44,32,70,69,48,48,32,70,69,48,70,44,32,70,69,50,48,32,70,69,50,70,44,32,49,70,51,70,66,32,49,70,51,70,70,44,32,69,48,49,48,48,32,69,48,49,69,70]⟩ : ByteArray)] rfl au1 ?_;(with_reducible refine (bodkinref02_Table.calls kj7 (⟨#[51,48,48,32,51,54,70,44,32,52,56,51,32,52,56,57,44,32,53,57,49,32,53,66,68,44,32,53,66,70,32,53,66,70,44,32,53,67,49,32,53,67,50,44,32,54,49,48,32,54,49,65,44,32,54,52,66,32,54,53,70,44,32,54,55,48,32,54,55,48,44,32,54,68,54,32,54,68,67,44,32,57,48,48,32,57,48,50,44,32,57,51,67,32,57,51,67,44,32,57,52,68,32,57,52,68,44,32,69,51,49,32,69,51,49,44,32,69,51,52,32,69,51,65,44,32,69,52,55,32,69,52,69,44,32,49,51,53,68,32,49,51,53,70,44,32,49,65,66,48,32,49,65,70,70,44,32,49,68,67,48,32,49,68,70,70,44,32,50,48,48,67,32,50,48,48,68,44,32,50,48,68,48,32,50,48,70,70,44,32,51,48,50,65,32,51,48,50,70,44,32,51,48,57,57,32,51,48,57,65,44,32,70,69,48,48,32,70,69,48,70,44,32,70,69,50,48,32,70,69,50,70,44,32,49,70,51,70,66,32,49,70,51,70,70,44,32,69,48,49,48,48,32,69,48,49,69,70]⟩ : ByteArray) t182 _ A13.out).mono ?_);rintro e w16 ⟨v183,rfl,ho0,hb⟩;refine ⟨_,rfl,?_⟩;have n0_ := Aside0.mk (Kd.R_lower ho0 (below_size au0));have n1_ := Aside0.mk (below_step au0 hb);clear HB;have HO184 := n0_;have HB := n1_;clear n0_ n1_;(try clear hb);(try clear hb2);(try clear hk);(try clear hi);(try clear ho0);obtain ⟨Ao17,co17,eo17⟩ := Kd.R_slice HO184.out;subst eo17) | ((with_reducible refine gate_callee (f := 39) rfl ?_);refine goesL_ (some 38) rfl rfl Tryd.func39 (by kernel_rfl) rfl #[.slice Ao17 t182.length co17,.int .i32 a0] rfl au1 ?_;(with_reducible refine (bodkinref02_Within.calls kj7 _ _ t182 a0 true _ ?side1 ?side2 A14.out).mono ?_);(case side1 => repeat (first | exact (Kd.R_reads' HO184.out).2.2 | (with_reducible refine Kd.C_alloc ?_ _) | (with_reducible refine Kd.C_drewN ?_ _) | (with_reducible refine Kd.C_drew ?_)));(case side2 => exact (Kd.R_reads' HO184.out).2.1);rintro e w' ⟨rfl,⟨nd,rfl⟩⟩;refine ⟨_,rfl,?_⟩))
          go_ret
          exact ⟨au2,au0⟩
         ·replace c15 := Bool.eq_false_iff.mpr c15
          subst c15
          have H1 : ((bodkinref02_Table.f kj7 (⟨#[49,49,48,48,32,49,49,53,70,44,32,50,51,49,65,32,50,51,49,66,44,32,50,51,50,57,32,50,51,50,65,44,32,50,51,69,57,32,50,51,69,67,44,32,50,53,70,68,32,50,53,70,69,44,32,50,54,49,52,32,50,54,49,53,44,32,50,54,52,56,32,50,54,53,51,44,32,50,54,65,65,32,50,54,65,66,44,32,50,69,56,48,32,51,48,50,57,44,32,51,48,51,48,32,51,48,51,69,44,32,51,48,52,49,32,51,48,57,56,44,32,51,48,57,66,32,52,68,66,70,44,32,52,69,48,48,32,65,52,67,70,44,32,65,57,54,48,32,65,57,55,70,44,32,65,67,48,48,32,68,55,65,51,44,32,70,57,48,48,32,70,65,70,70,44,32,70,69,51,48,32,70,69,54,70,44,32,70,70,48,49,32,70,70,54,48,44,32,70,70,69,48,32,70,70,69,54,44,32,49,54,70,69,48,32,49,56,65,70,70,44,32,49,66,48,48,48,32,49,66,50,70,70,44,32,49,70,51,48,48,32,49,70,51,70,65,44,32,49,70,52,48,48,32,49,70,54,52,70,44,32,49,70,54,56,48,32,49,70,54,70,70,44,32,49,70,57,48,48,32,49,70,57,70,70,44,32,50,48,48,48,48,32,50,70,70,70,68,44,32,51,48,48,48,48,32,51,70,70,70,68]⟩ : ByteArray)).bind fun t186 => ((bodkinref02_Within.f kj7 t186 a0).bind fun t189 => (if t189 = true then (some 4) else (some 0)))) = some r := by rw [if_neg (show ¬ (false = true) by decide)] at H;exact H
          clear H
          have H := H1
          clear H1
          replace H := Option.bind_eq_some_iff.mp H
          obtain ⟨t186,A180,H⟩ := H
          replace H : ((bodkinref02_Within.f kj7 t186 a0).bind fun t189 => (if t189 = true then (some 4) else (some 0))) = some r := H
          have A18 := Aside0.mk A180
          clear A180
          replace H := Option.bind_eq_some_iff.mp H
          obtain ⟨t189,A190,H⟩ := H
          replace H : (if t189 = true then (some 4) else (some 0)) = some r := H
          have A19 := Aside0.mk A190
          clear A190
          by_cases c20 : t189 = true
          ·subst c20
           have H1 : (some 4) = some r := by rw [if_pos rfl] at H;exact H
           clear H
           have H := H1
           clear H1
           obtain rfl := Option.some.inj H
           go_wp2_with (first | ((with_reducible refine gate_callee (f := 40) rfl ?_);refine goesL_ (some 36) rfl rfl Tryd.func40 (by kernel_rfl) rfl #[.string (⟨#[51,48,48,32,51,54,70,44,32,52,56,51,32,52,56,57,44,32,53,57,49,32,53,66,68,44,32,53,66,70,32,53,66,70,44,32,53,67,49,32,53,67,50,44,32,54,49,48,32,54,49,65,44,32,54,52,66,32,54,53,70,44,32,54,55,48,32,54,55,48,44,32,54,68,54,32,54,68,67,44,32,57,48,48,32,57,48,50,44,32,57,51,67,32,57,51,67,44,32,57,52,68,32,57,52,68,44,32,69,51,49,32,69,51,49,44,32,69,51,52,32,69,51,65,44,32,69,52,55,32,69,52,69,44,32,49,51,53,68,32,49,51,53,70,44,32,49,65,66,48,32,49,65,70,70,44,32,49,68,67,48,32,49,68,70,70,44,32,50,48,48,67,32,50,48,48,68,44,32,50,48,68,48,32,50,48,70,70,44,32,51,48,50,65,32,51,48,50,70,44,32,51,48,57,57,32,51,48,57,65,44,32,70,69,48,48,32,70,69,48,70,44,32,70,69,50,48,32,70,69,50,70,44,32,49,70,51,70,66,32,49,70,51,70,70,44,32,69,48,49,48,48,32,69,48,49,69,70]⟩ : ByteArray)] rfl au1 ?_;(with_reducible refine (bodkinref02_Table.calls kj7 (⟨#[51,48,48,32,51,54,70,44,32,52,56,51,32,52,56,57,44,32,53,57,49,32,53,66,68,44,32,53,66,70,32,53,66,70,44,32,53,67,49,32,53,67,50,44,32,54,49,48,32,54,49,65,44,32,54,52,66,32,54,53,70,44,32,54,55,48,32,54,55,48,44,32,54,68,54,32,54,68,67,44,32,57,48,48,32,57,48,50,44,32,57,51,67,32,57,51,67,44,32,57,52,68,32,57,52,68,44,32,69,51,49,32,69,51,49,44,32,69,51,52,32,69,51,65,44,32,69,52,55,32,69,52,69,44,32,49,51,53,68,32,49,51,53,70,44,32,49,65,66,48,32,49,65,70,70,44,32,49,68,67,48,32,49,68,70,70,44,32,50,48,48,67,32,50,48,48,68,44,32,50,48,68,48,32,50,48,70,70,44,32,51,48,50,65,32,51,48,50,70,44,32,51,48,57,57,32,51,48,57,65,44,32,70,69,48,48,32,70,69,48,70,44,32,70,69,50,48,32,70,69,50,70,44,32,49,70,51,70,66,32,49,70,51,70,70,44,32,69,48,49,48,48,32,69,48,49,69,70]⟩ : ByteArray) t182 _ A13.out).mono ?_);rintro e w21 ⟨v183,rfl,ho0,hb⟩;refine ⟨_,rfl,?_⟩;have n0_ := Aside0.mk (Kd.R_lower ho0 (below_size au0));have n1_ := Aside0.mk (below_step au0 hb);clear HB;have HO184 := n0_;have HB := n1_;clear n0_ n1_;(try clear hb);(try clear hb2);(try clear hk);(try clear hi);(try clear ho0);obtain ⟨Ao22,co22,eo22⟩ := Kd.R_slice HO184.out;subst eo22) | ((with_reducible refine gate_callee (f := 39) rfl ?_);refine goesL_ (some 38) rfl rfl Tryd.func39 (by kernel_rfl) rfl #[.slice Ao22 t182.length co22,.int .i32 a0] rfl au1 ?_;(with_reducible refine (bodkinref02_Within.calls kj7 _ _ t182 a0 false _ ?side1 ?side2 A14.out).mono ?_);(case side1 => repeat (first | exact (Kd.R_reads' HO184.out).2.2 | (with_reducible refine Kd.C_alloc ?_ _) | (with_reducible refine Kd.C_drewN ?_ _) | (with_reducible refine Kd.C_drew ?_)));(case side2 => exact (Kd.R_reads' HO184.out).2.1);rintro e w' ⟨rfl,⟨nd,rfl⟩⟩;refine ⟨_,rfl,?_⟩) | ((with_reducible refine gate_callee (f := 40) rfl ?_);refine goesL_ (some 40) rfl rfl Tryd.func40 (by kernel_rfl) rfl #[.string (⟨#[49,49,48,48,32,49,49,53,70,44,32,50,51,49,65,32,50,51,49,66,44,32,50,51,50,57,32,50,51,50,65,44,32,50,51,69,57,32,50,51,69,67,44,32,50,53,70,68,32,50,53,70,69,44,32,50,54,49,52,32,50,54,49,53,44,32,50,54,52,56,32,50,54,53,51,44,32,50,54,65,65,32,50,54,65,66,44,32,50,69,56,48,32,51,48,50,57,44,32,51,48,51,48,32,51,48,51,69,44,32,51,48,52,49,32,51,48,57,56,44,32,51,48,57,66,32,52,68,66,70,44,32,52,69,48,48,32,65,52,67,70,44,32,65,57,54,48,32,65,57,55,70,44,32,65,67,48,48,32,68,55,65,51,44,32,70,57,48,48,32,70,65,70,70,44,32,70,69,51,48,32,70,69,54,70,44,32,70,70,48,49,32,70,70,54,48,44,32,70,70,69,48,32,70,70,69,54,44,32,49,54,70,69,48,32,49,56,65,70,70,44,32,49,66,48,48,48,32,49,66,50,70,70,44,32,49,70,51,48,48,32,49,70,51,70,65,44,32,49,70,52,48,48,32,49,70,54,52,70,44,32,49,70,54,56,48,32,49,70,54,70,70,44,32,49,70,57,48,48,32,49,70,57,70,70,44,32,50,48,48,48,48,32,50,70,70,70,68,44,32,51,48,48,48,48,32,51,70,70,70,68]⟩ : ByteArray)] rfl au1 ?_;(with_reducible refine (bodkinref02_Table.calls kj7 (⟨#[49,49,48,48,32,49,49,53,70,44,32,50,51,49,65,32,50,51,49,66,44,32,50,51,50,57,32,50,51,50,65,44,32,50,51,69,57,32,50,51,69,67,44,32,50,53,70,68,32,50,53,70,69,44,32,50,54,49,52,32,50,54,49,53,44,32,50,54,52,56,32,50,54,53,51,44,32,50,54,65,65,32,50,54,65,66,44,32,50,69,56,48,32,51,48,50,57,44,32,51,48,51,48,32,51,48,51,69,44,32,51,48,52,49,32,51,48,57,56,44,32,51,48,57,66,32,52,68,66,70,44,32,52,69,48,48,32,65,52,67,70,44,32,65,57,54,48,32,65,57,55,70,44,32,65,67,48,48,32,68,55,65,51,44,32,70,57,48,48,32,70,65,70,70,44,32,70,69,51,48,32,70,69,54,70,44,32,70,70,48,49,32,70,70,54,48,44,32,70,70,69,48,32,70,70,69,54,44,32,49,54,70,69,48,32,49,56,65,70,70,44,32,49,66,48,48,48,32,49,66,50,70,70,44,32,49,70,51,48,48,32,49,70,51,70,65,44,32,49,70,52,48,48,32,49,70,54,52,70,44,32,49,70,54,56,48,32,49,70,54,70,70,44,32,49,70,57,48,48,32,49,70,57,70,70,44,32,50,48,48,48,48,32,50,70,70,70,68,44,32,51,48,48,48,48,32,51,70,70,70,68]⟩ : ByteArray) t186 _ A18.out).mono ?_);rintro e w23 ⟨v187,rfl,ho0,hb⟩;refine ⟨_,rfl,?_⟩;have n0_ := Aside0.mk (Kd.R_elder' (by (with_reducible repeat (first | apply Kd.R_alloc | apply Kd.R_drewN | apply Kd.R_drew));exact HO184.out) (Kd.R_base ho0) hb);have n1_ := Aside0.mk (Kd.R_lower (Kd.R_new' ho0 (Kd.R_lt (by (with_reducible repeat (first | apply Kd.R_alloc | apply Kd.R_drewN | apply Kd.R_drew));exact HO184.out))) (below_size au0));have n2_ := Aside0.mk (below_step au0 hb);clear HO184;clear HB;have HO184 := n0_;have HO188 := n1_;have HB := n2_;clear n0_ n1_ n2_;(try clear hb);(try clear hb2);(try clear hk);(try clear hi);(try clear ho0);obtain ⟨Ao24,co24,eo24⟩ := Kd.R_slice HO188.out;subst eo24) | ((with_reducible refine gate_callee (f := 39) rfl ?_);refine goesL_ (some 42) rfl rfl Tryd.func39 (by kernel_rfl) rfl #[.slice Ao24 t186.length co24,.int .i32 a0] rfl au1 ?_;(with_reducible refine (bodkinref02_Within.calls kj7 _ _ t186 a0 true _ ?side1 ?side2 A19.out).mono ?_);(case side1 => repeat (first | exact (Kd.R_reads' HO188.out).2.2 | (with_reducible refine Kd.C_alloc ?_ _) | (with_reducible refine Kd.C_drewN ?_ _) | (with_reducible refine Kd.C_drew ?_)));(case side2 => exact (Kd.R_reads' HO188.out).2.1);rintro e w' ⟨rfl,⟨nd,rfl⟩⟩;refine ⟨_,rfl,?_⟩))
           go_ret
           exact ⟨au2,au0⟩
          ·replace c20 := Bool.eq_false_iff.mpr c20
           subst c20
           have H1 : (some 0) = some r := by rw [if_neg (show ¬ (false = true) by decide)] at H;exact H
           clear H
           have H := H1
           clear H1
           obtain rfl := Option.some.inj H
           go_wp2_with (first | ((with_reducible refine gate_callee (f := 40) rfl ?_);refine goesL_ (some 36) rfl rfl Tryd.func40 (by kernel_rfl) rfl #[.string (⟨#[51,48,48,32,51,54,70,44,32,52,56,51,32,52,56,57,44,32,53,57,49,32,53,66,68,44,32,53,66,70,32,53,66,70,44,32,53,67,49,32,53,67,50,44,32,54,49,48,32,54,49,65,44,32,54,52,66,32,54,53,70,44,32,54,55,48,32,54,55,48,44,32,54,68,54,32,54,68,67,44,32,57,48,48,32,57,48,50,44,32,57,51,67,32,57,51,67,44,32,57,52,68,32,57,52,68,44,32,69,51,49,32,69,51,49,44,32,69,51,52,32,69,51,65,44,32,69,52,55,32,69,52,69,44,32,49,51,53,68,32,49,51,53,70,44,32,49,65,66,48,32,49,65,70,70,44,32,49,68,67,48,32,49,68,70,70,44,32,50,48,48,67,32,50,48,48,68,44,32,50,48,68,48,32,50,48,70,70,44,32,51,48,50,65,32,51,48,50,70,44,32,51,48,57,57,32,51,48,57,65,44,32,70,69,48,48,32,70,69,48,70,44,32,70,69,50,48,32,70,69,50,70,44,32,49,70,51,70,66,32,49,70,51,70,70,44,32,69,48,49,48,48,32,69,48,49,69,70]⟩ : ByteArray)] rfl au1 ?_;(with_reducible refine (bodkinref02_Table.calls kj7 (⟨#[51,48,48,32,51,54,70,44,32,52,56,51,32,52,56,57,44,32,53,57,49,32,53,66,68,44,32,53,66,70,32,53,66,70,44,32,53,67,49,32,53,67,50,44,32,54,49,48,32,54,49,65,44,32,54,52,66,32,54,53,70,44,32,54,55,48,32,54,55,48,44,32,54,68,54,32,54,68,67,44,32,57,48,48,32,57,48,50,44,32,57,51,67,32,57,51,67,44,32,57,52,68,32,57,52,68,44,32,69,51,49,32,69,51,49,44,32,69,51,52,32,69,51,65,44,32,69,52,55,32,69,52,69,44,32,49,51,53,68,32,49,51,53,70,44,32,49,65,66,48,32,49,65,70,70,44,32,49,68,67,48,32,49,68,70,70,44,32,50,48,48,67,32,50,48,48,68,44,32,50,48,68,48,32,50,48,70,70,44,32,51,48,50,65,32,51,48,50,70,44,32,51,48,57,57,32,51,48,57,65,44,32,70,69,48,48,32,70,69,48,70,44,32,70,69,50,48,32,70,69,50,70,44,32,49,70,51,70,66,32,49,70,51,70,70,44,32,69,48,49,48,48,32,69,48,49,69,70]⟩ : ByteArray) t182 _ A13.out).mono ?_);rintro e w25 ⟨v183,rfl,ho0,hb⟩;refine ⟨_,rfl,?_⟩;have n0_ := Aside0.mk (Kd.R_lower ho0 (below_size au0));have n1_ := Aside0.mk (below_step au0 hb);clear HB;have HO184 := n0_;have HB := n1_;clear n0_ n1_;(try clear hb);(try clear hb2);(try clear hk);(try clear hi);(try clear ho0);obtain ⟨Ao26,co26,eo26⟩ := Kd.R_slice HO184.out;subst eo26) | ((with_reducible refine gate_callee (f := 39) rfl ?_);refine goesL_ (some 38) rfl rfl Tryd.func39 (by kernel_rfl) rfl #[.slice Ao26 t182.length co26,.int .i32 a0] rfl au1 ?_;(with_reducible refine (bodkinref02_Within.calls kj7 _ _ t182 a0 false _ ?side1 ?side2 A14.out).mono ?_);(case side1 => repeat (first | exact (Kd.R_reads' HO184.out).2.2 | (with_reducible refine Kd.C_alloc ?_ _) | (with_reducible refine Kd.C_drewN ?_ _) | (with_reducible refine Kd.C_drew ?_)));(case side2 => exact (Kd.R_reads' HO184.out).2.1);rintro e w' ⟨rfl,⟨nd,rfl⟩⟩;refine ⟨_,rfl,?_⟩) | ((with_reducible refine gate_callee (f := 40) rfl ?_);refine goesL_ (some 40) rfl rfl Tryd.func40 (by kernel_rfl) rfl #[.string (⟨#[49,49,48,48,32,49,49,53,70,44,32,50,51,49,65,32,50,51,49,66,44,32,50,51,50,57,32,50,51,50,65,44,32,50,51,69,57,32,50,51,69,67,44,32,50,53,70,68,32,50,53,70,69,44,32,50,54,49,52,32,50,54,49,53,44,32,50,54,52,56,32,50,54,53,51,44,32,50,54,65,65,32,50,54,65,66,44,32,50,69,56,48,32,51,48,50,57,44,32,51,48,51,48,32,51,48,51,69,44,32,51,48,52,49,32,51,48,57,56,44,32,51,48,57,66,32,52,68,66,70,44,32,52,69,48,48,32,65,52,67,70,44,32,65,57,54,48,32,65,57,55,70,44,32,65,67,48,48,32,68,55,65,51,44,32,70,57,48,48,32,70,65,70,70,44,32,70,69,51,48,32,70,69,54,70,44,32,70,70,48,49,32,70,70,54,48,44,32,70,70,69,48,32,70,70,69,54,44,32,49,54,70,69,48,32,49,56,65,70,70,44,32,49,66,48,48,48,32,49,66,50,70,70,44,32,49,70,51,48,48,32,49,70,51,70,65,44,32,49,70,52,48,48,32,49,70,54,52,70,44,32,49,70,54,56,48,32,49,70,54,70,70,44,32,49,70,57,48,48,32,49,70,57,70,70,44,32,50,48,48,48,48,32,50,70,70,70,68,44,32,51,48,48,48,48,32,51,70,70,70,68]⟩ : ByteArray)] rfl au1 ?_;(with_reducible refine (bodkinref02_Table.calls kj7 (⟨#[49,49,48,48,32,49,49,53,70,44,32,50,51,49,65,32,50,51,49,66,44,32,50,51,50,57,32,50,51,50,65,44,32,50,51,69,57,32,50,51,69,67,44,32,50,53,70,68,32,50,53,70,69,44,32,50,54,49,52,32,50,54,49,53,44,32,50,54,52,56,32,50,54,53,51,44,32,50,54,65,65,32,50,54,65,66,44,32,50,69,56,48,32,51,48,50,57,44,32,51,48,51,48,32,51,48,51,69,44,32,51,48,52,49,32,51,48,57,56,44,32,51,48,57,66,32,52,68,66,70,44,32,52,69,48,48,32,65,52,67,70,44,32,65,57,54,48,32,65,57,55,70,44,32,65,67,48,48,32,68,55,65,51,44,32,70,57,48,48,32,70,65,70,70,44,32,70,69,51,48,32,70,69,54,70,44,32,70,70,48,49,32,70,70,54,48,44,32,70,70,69,48,32,70,70,69,54,44,32,49,54,70,69,48,32,49,56,65,70,70,44,32,49,66,48,48,48,32,49,66,50,70,70,44,32,49,70,51,48,48,32,49,70,51,70,65,44,32,49,70,52,48,48,32,49,70,54,52,70,44,32,49,70,54,56,48,32,49,70,54,70,70,44,32,49,70,57,48,48,32,49,70,57,70,70,44,32,50,48,48,48,48,32,50,70,70,70,68,44,32,51,48,48,48,48,32,51,70,70,70,68]⟩ : ByteArray) t186 _ A18.out).mono ?_);rintro e w27 ⟨v187,rfl,ho0,hb⟩;refine ⟨_,rfl,?_⟩;have n0_ := Aside0.mk (Kd.R_elder' (by (with_reducible repeat (first | apply Kd.R_alloc | apply Kd.R_drewN | apply Kd.R_drew));exact HO184.out) (Kd.R_base ho0) hb);have n1_ := Aside0.mk (Kd.R_lower (Kd.R_new' ho0 (Kd.R_lt (by (with_reducible repeat (first | apply Kd.R_alloc | apply Kd.R_drewN | apply Kd.R_drew));exact HO184.out))) (below_size au0));have n2_ := Aside0.mk (below_step au0 hb);clear HO184;clear HB;have HO184 := n0_;have HO188 := n1_;have HB := n2_;clear n0_ n1_ n2_;(try clear hb);(try clear hb2);(try clear hk);(try clear hi);(try clear ho0);obtain ⟨Ao28,co28,eo28⟩ := Kd.R_slice HO188.out;subst eo28) | ((with_reducible refine gate_callee (f := 39) rfl ?_);refine goesL_ (some 42) rfl rfl Tryd.func39 (by kernel_rfl) rfl #[.slice Ao28 t186.length co28,.int .i32 a0] rfl au1 ?_;(with_reducible refine (bodkinref02_Within.calls kj7 _ _ t186 a0 false _ ?side1 ?side2 A19.out).mono ?_);(case side1 => repeat (first | exact (Kd.R_reads' HO188.out).2.2 | (with_reducible refine Kd.C_alloc ?_ _) | (with_reducible refine Kd.C_drewN ?_ _) | (with_reducible refine Kd.C_drew ?_)));(case side2 => exact (Kd.R_reads' HO188.out).2.1);rintro e w' ⟨rfl,⟨nd,rfl⟩⟩;refine ⟨_,rfl,?_⟩))
           go_ret
           exact ⟨au2,au0⟩
def bodkinref05_IsWord.j0 : Nat → Int → Bool → Option (Bool)
 | 0,_,_ => none
 | k + 1,x0,x29 => if x29 = true then (some true) else (if x0 < 170 then (some false) else ((bodkinref02_Table.f k (⟨#[65,66,32,66,52,44,32,66,54,32,66,57,44,32,66,66,32,66,70,44,32,68,55,32,68,55,44,32,70,55,32,70,55,44,32,50,48,48,48,32,50,48,48,66,44,32,50,48,48,69,32,50,48,54,70,44,32,50,69,48,48,32,50,69,55,70,44,32,51,48,48,48,32,51,48,48,52,44,32,51,48,48,56,32,51,48,50,48,44,32,51,48,51,48,32,51,48,51,48,44,32,70,69,51,48,32,70,69,54,70,44,32,70,70,48,49,32,70,70,48,70,44,32,70,70,49,65,32,70,70,50,48]⟩ : ByteArray)).bind fun t190 => ((bodkinref02_Within.f k t190 x0).bind fun t193 => (if t193 = true then (some false) else ((bodkinref02_Class.f k x0).bind fun t194 => (if t194 = 3 then (some true) else (if t194 = 4 then (some true) else (some (t194 == 0)))))))))
def bodkinref05_IsWord.f (k : Nat) (a0 : Int) : Option (Bool) := if a0 ≥ 48 then (if a0 ≤ 57 then (bodkinref05_IsWord.j0 k a0 true) else (if a0 ≥ 65 then (if a0 ≤ 90 then (bodkinref05_IsWord.j0 k a0 true) else (if a0 ≥ 97 then (if a0 ≤ 122 then (bodkinref05_IsWord.j0 k a0 true) else (bodkinref05_IsWord.j0 k a0 (a0 == 95))) else (bodkinref05_IsWord.j0 k a0 (a0 == 95)))) else (if a0 ≥ 97 then (if a0 ≤ 122 then (bodkinref05_IsWord.j0 k a0 true) else (bodkinref05_IsWord.j0 k a0 (a0 == 95))) else (bodkinref05_IsWord.j0 k a0 (a0 == 95))))) else (if a0 ≥ 65 then (if a0 ≤ 90 then (bodkinref05_IsWord.j0 k a0 true) else (if a0 ≥ 97 then (if a0 ≤ 122 then (bodkinref05_IsWord.j0 k a0 true) else (bodkinref05_IsWord.j0 k a0 (a0 == 95))) else (bodkinref05_IsWord.j0 k a0 (a0 == 95)))) else (if a0 ≥ 97 then (if a0 ≤ 122 then (bodkinref05_IsWord.j0 k a0 true) else (bodkinref05_IsWord.j0 k a0 (a0 == 95))) else (bodkinref05_IsWord.j0 k a0 (a0 == 95))))
set_option maxHeartbeats 8000000 in
set_option maxRecDepth 100000 in
theorem bodkinref05_IsWord.calls (k : Nat) (a0 : Int) (r : Bool) (w : World) (h : bodkinref05_IsWord.f k a0 = some r) :
  Calls Tryd.prog 14 #[.int .i32 a0] w fun e w' => e = .returned (.bool r) ∧ Below w.heap.size w w' := by
 have HB := Aside0.mk (Below.refl w.heap.size w)
 have H : (if a0 ≥ 48 then (if a0 ≤ 57 then (bodkinref05_IsWord.j0 k a0 true) else (if a0 ≥ 65 then (if a0 ≤ 90 then (bodkinref05_IsWord.j0 k a0 true) else (if a0 ≥ 97 then (if a0 ≤ 122 then (bodkinref05_IsWord.j0 k a0 true) else (bodkinref05_IsWord.j0 k a0 (a0 == 95))) else (bodkinref05_IsWord.j0 k a0 (a0 == 95)))) else (if a0 ≥ 97 then (if a0 ≤ 122 then (bodkinref05_IsWord.j0 k a0 true) else (bodkinref05_IsWord.j0 k a0 (a0 == 95))) else (bodkinref05_IsWord.j0 k a0 (a0 == 95))))) else (if a0 ≥ 65 then (if a0 ≤ 90 then (bodkinref05_IsWord.j0 k a0 true) else (if a0 ≥ 97 then (if a0 ≤ 122 then (bodkinref05_IsWord.j0 k a0 true) else (bodkinref05_IsWord.j0 k a0 (a0 == 95))) else (bodkinref05_IsWord.j0 k a0 (a0 == 95)))) else (if a0 ≥ 97 then (if a0 ≤ 122 then (bodkinref05_IsWord.j0 k a0 true) else (bodkinref05_IsWord.j0 k a0 (a0 == 95))) else (bodkinref05_IsWord.j0 k a0 (a0 == 95))))) = some r := h
 clear h
 have HC2 := Aside0.mk H
 clear H
 go_enter Tryd.func14,Tryd.ntmps14
 go_upto_region 1 with (fail)
 go_cut [29] (fun v29 wc => ∃ (kq : Nat) (x29_1 : Bool),v29 = .bool x29_1 ∧ Aside0 (bodkinref05_IsWord.j0 kq a0 x29_1 = some r) ∧ Aside0 (kq ≤ k) ∧ Aside0 (Below w.heap.size w wc))
 case first =>
  have H := HC2.out
  clear HC2
  by_cases c3 : a0 ≥ 48
  ·rw [if_pos c3] at H
   have c3b0 : decide (48 ≤ a0) = true := decide_eq_true c3
   clear c3
   (first | rw [c3b0] | (simp only [i64_w,i32_w];rw [c3b0]) | skip)
   by_cases c4 : a0 ≤ 57
   ·rw [if_pos c4] at H
    have c4b0 : decide (a0 ≤ 57) = true := decide_eq_true c4
    clear c4
    have H' := Aside0.mk H
    clear H
    go_wp2
    go_meet
    case rel => exact ⟨_,(true),au3,H',⟨by first | omega | exact Nat.le_refl _⟩,⟨au0⟩⟩
   ·rw [if_neg c4] at H
    have c4b0 : decide (a0 ≤ 57) = false := decide_eq_false c4
    clear c4
    by_cases c5 : a0 ≥ 65
    ·rw [if_pos c5] at H
     have c5b0 : decide (65 ≤ a0) = true := decide_eq_true c5
     clear c5
     by_cases c6 : a0 ≤ 90
     ·rw [if_pos c6] at H
      have c6b0 : decide (a0 ≤ 90) = true := decide_eq_true c6
      clear c6
      have H' := Aside0.mk H
      clear H
      go_wp2
      go_meet
      case rel => exact ⟨_,(true),au3,H',⟨by first | omega | exact Nat.le_refl _⟩,⟨au0⟩⟩
     ·rw [if_neg c6] at H
      have c6b0 : decide (a0 ≤ 90) = false := decide_eq_false c6
      clear c6
      by_cases c7 : a0 ≥ 97
      ·rw [if_pos c7] at H
       have c7b0 : decide (97 ≤ a0) = true := decide_eq_true c7
       clear c7
       by_cases c8 : a0 ≤ 122
       ·rw [if_pos c8] at H
        have c8b0 : decide (a0 ≤ 122) = true := decide_eq_true c8
        clear c8
        have H' := Aside0.mk H
        clear H
        go_wp2
        go_meet
        case rel => exact ⟨_,(true),au3,H',⟨by first | omega | exact Nat.le_refl _⟩,⟨au0⟩⟩
       ·rw [if_neg c8] at H
        have c8b0 : decide (a0 ≤ 122) = false := decide_eq_false c8
        clear c8
        have H' := Aside0.mk H
        clear H
        go_wp2
        go_meet
        case rel => exact ⟨_,((a0 == 95)),au3,H',⟨by first | omega | exact Nat.le_refl _⟩,⟨au0⟩⟩
      ·rw [if_neg c7] at H
       have c7b0 : decide (97 ≤ a0) = false := decide_eq_false c7
       clear c7
       have H' := Aside0.mk H
       clear H
       go_wp2
       go_meet
       case rel => exact ⟨_,((a0 == 95)),au3,H',⟨by first | omega | exact Nat.le_refl _⟩,⟨au0⟩⟩
    ·rw [if_neg c5] at H
     have c5b0 : decide (65 ≤ a0) = false := decide_eq_false c5
     clear c5
     by_cases c9 : a0 ≥ 97
     ·rw [if_pos c9] at H
      have c9b0 : decide (97 ≤ a0) = true := decide_eq_true c9
      clear c9
      by_cases c10 : a0 ≤ 122
      ·rw [if_pos c10] at H
       have c10b0 : decide (a0 ≤ 122) = true := decide_eq_true c10
       clear c10
       have H' := Aside0.mk H
       clear H
       go_wp2
       go_meet
       case rel => exact ⟨_,(true),au3,H',⟨by first | omega | exact Nat.le_refl _⟩,⟨au0⟩⟩
      ·rw [if_neg c10] at H
       have c10b0 : decide (a0 ≤ 122) = false := decide_eq_false c10
       clear c10
       have H' := Aside0.mk H
       clear H
       go_wp2
       go_meet
       case rel => exact ⟨_,((a0 == 95)),au3,H',⟨by first | omega | exact Nat.le_refl _⟩,⟨au0⟩⟩
     ·rw [if_neg c9] at H
      have c9b0 : decide (97 ≤ a0) = false := decide_eq_false c9
      clear c9
      have H' := Aside0.mk H
      clear H
      go_wp2
      go_meet
      case rel => exact ⟨_,((a0 == 95)),au3,H',⟨by first | omega | exact Nat.le_refl _⟩,⟨au0⟩⟩
  ·rw [if_neg c3] at H
   have c3b0 : decide (48 ≤ a0) = false := decide_eq_false c3
   clear c3
   (first | rw [c3b0] | (simp only [i64_w,i32_w];rw [c3b0]) | skip)
   by_cases c11 : a0 ≥ 65
   ·rw [if_pos c11] at H
    have c11b0 : decide (65 ≤ a0) = true := decide_eq_true c11
    clear c11
    by_cases c12 : a0 ≤ 90
    ·rw [if_pos c12] at H
     have c12b0 : decide (a0 ≤ 90) = true := decide_eq_true c12
     clear c12
     have H' := Aside0.mk H
     clear H
     go_wp2
     go_meet
     case rel => exact ⟨_,(true),au3,H',⟨by first | omega | exact Nat.le_refl _⟩,⟨au0⟩⟩
    ·rw [if_neg c12] at H
     have c12b0 : decide (a0 ≤ 90) = false := decide_eq_false c12
     clear c12
     by_cases c13 : a0 ≥ 97
     ·rw [if_pos c13] at H
      have c13b0 : decide (97 ≤ a0) = true := decide_eq_true c13
      clear c13
      by_cases c14 : a0 ≤ 122
      ·rw [if_pos c14] at H
       have c14b0 : decide (a0 ≤ 122) = true := decide_eq_true c14
       clear c14
       have H' := Aside0.mk H
       clear H
       go_wp2
       go_meet
       case rel => exact ⟨_,(true),au3,H',⟨by first | omega | exact Nat.le_refl _⟩,⟨au0⟩⟩
      ·rw [if_neg c14] at H
       have c14b0 : decide (a0 ≤ 122) = false := decide_eq_false c14
       clear c14
       have H' := Aside0.mk H
       clear H
       go_wp2
       go_meet
       case rel => exact ⟨_,((a0 == 95)),au3,H',⟨by first | omega | exact Nat.le_refl _⟩,⟨au0⟩⟩
     ·rw [if_neg c13] at H
      have c13b0 : decide (97 ≤ a0) = false := decide_eq_false c13
      clear c13
      have H' := Aside0.mk H
      clear H
      go_wp2
      go_meet
      case rel => exact ⟨_,((a0 == 95)),au3,H',⟨by first | omega | exact Nat.le_refl _⟩,⟨au0⟩⟩
   ·rw [if_neg c11] at H
    have c11b0 : decide (65 ≤ a0) = false := decide_eq_false c11
    clear c11
    by_cases c15 : a0 ≥ 97
    ·rw [if_pos c15] at H
     have c15b0 : decide (97 ≤ a0) = true := decide_eq_true c15
     clear c15
     by_cases c16 : a0 ≤ 122
     ·rw [if_pos c16] at H
      have c16b0 : decide (a0 ≤ 122) = true := decide_eq_true c16
      clear c16
      have H' := Aside0.mk H
      clear H
      go_wp2
      go_meet
      case rel => exact ⟨_,(true),au3,H',⟨by first | omega | exact Nat.le_refl _⟩,⟨au0⟩⟩
     ·rw [if_neg c16] at H
      have c16b0 : decide (a0 ≤ 122) = false := decide_eq_false c16
      clear c16
      have H' := Aside0.mk H
      clear H
      go_wp2
      go_meet
      case rel => exact ⟨_,((a0 == 95)),au3,H',⟨by first | omega | exact Nat.le_refl _⟩,⟨au0⟩⟩
    ·rw [if_neg c15] at H
     have c15b0 : decide (97 ≤ a0) = false := decide_eq_false c15
     clear c15
     have H' := Aside0.mk H
     clear H
     go_wp2
     go_meet
     case rel => exact ⟨_,((a0 == 95)),au3,H',⟨by first | omega | exact Nat.le_refl _⟩,⟨au0⟩⟩
 case rest =>
  clear HC2
  try clear c1
  try clear p2
  try clear c3
  try clear c3b0
  try clear c4
  try clear c4b0
  try clear c5
  try clear c5b0
  try clear c6
  try clear c6b0
  try clear c7
  try clear c7b0
  try clear c8
  try clear c8b0
  try clear c9
  try clear c9b0
  try clear c10
  try clear c10b0
  try clear c11
  try clear c11b0
  try clear c12
  try clear c12b0
  try clear c13
  try clear c13b0
  try clear c14
  try clear c14b0
  try clear c15
  try clear c15b0
  try clear c16
  try clear c16b0
  obtain ⟨kq,x29_1,rfl,HA,HJ1,HB⟩ := hcut
  cases kq with
  | zero => exact absurd HA.out (by simp [bodkinref05_IsWord.j0])
  | succ kj1 =>
   have H := HA.out
   clear HA
   simp only [bodkinref05_IsWord.j0] at H
   by_cases c17 : x29_1 = true
   ·subst c17
    have H1 : (some true) = some r := by rw [if_pos rfl] at H;exact H
    clear H
    have H := H1
    clear H1
    obtain rfl := Option.some.inj H
    go_wp2
    go_ret
    exact ⟨au2,au0⟩
   ·replace c17 := Bool.eq_false_iff.mpr c17
    subst c17
    have H1 : (if a0 < 170 then (some false) else ((bodkinref02_Table.f kj1 (⟨#[65,66,32,66,52,44,32,66,54,32,66,57,44,32,66,66,32,66,70,44,32,68,55,32,68,55,44,32,70,55,32,70,55,44,32,50,48,48,48,32,50,48,48,66,44,32,50,48,48,69,32,50,48,54,70,44,32,50,69,48,48,32,50,69,55,70,44,32,51,48,48,48,32,51,48,48,52,44,32,51,48,48,56,32,51,48,50,48,44,32,51,48,51,48,32,51,48,51,48,44,32,70,69,51,48,32,70,69,54,70,44,32,70,70,48,49,32,70,70,48,70,44,32,70,70,49,65,32,70,70,50,48]⟩ : ByteArray)).bind fun t190 => ((bodkinref02_Within.f kj1 t190 a0).bind fun t193 => (if t193 = true then (some false) else ((bodkinref02_Class.f kj1 a0).bind fun t194 => (if t194 = 3 then (some true) else (if t194 = 4 then (some true) else (some (t194 == 0))))))))) = some r := by rw [if_neg (show ¬ (false = true) by decide)] at H;exact H
    clear H
    have H := H1
    clear H1
    by_cases c18 : a0 < 170
    ·rw [if_pos c18] at H
     have c18b0 : decide (a0 < 170) = true := decide_eq_true c18
     clear c18
     obtain rfl := Option.some.inj H
     go_wp2
     go_ret
     exact ⟨au2,au0⟩
    ·rw [if_neg c18] at H
     have c18b0 : decide (a0 < 170) = false := decide_eq_false c18
     clear c18
     replace H := Option.bind_eq_some_iff.mp H
     obtain ⟨t190,A190,H⟩ := H
     replace H : ((bodkinref02_Within.f kj1 t190 a0).bind fun t193 => (if t193 = true then (some false) else ((bodkinref02_Class.f kj1 a0).bind fun t194 => (if t194 = 3 then (some true) else (if t194 = 4 then (some true) else (some (t194 == 0))))))) = some r := H
     have A19 := Aside0.mk A190
     clear A190
     replace H := Option.bind_eq_some_iff.mp H
     obtain ⟨t193,A200,H⟩ := H
     replace H : (if t193 = true then (some false) else ((bodkinref02_Class.f kj1 a0).bind fun t194 => (if t194 = 3 then (some true) else (if t194 = 4 then (some true) else (some (t194 == 0)))))) = some r := H
     have A20 := Aside0.mk A200
     clear A200
     by_cases c21 : t193 = true
     ·subst c21
      have H1 : (some false) = some r := by rw [if_pos rfl] at H;exact H
      clear H
      have H := H1
      clear H1
      obtain rfl := Option.some.inj H
      go_wp2_with (first | (go_at_call 40;(with_reducible refine (bodkinref02_Table.calls kj1 (⟨#[65,66,32,66,52,44,32,66,54,32,66,57,44,32,66,66,32,66,70,44,32,68,55,32,68,55,44,32,70,55,32,70,55,44,32,50,48,48,48,32,50,48,48,66,44,32,50,48,48,69,32,50,48,54,70,44,32,50,69,48,48,32,50,69,55,70,44,32,51,48,48,48,32,51,48,48,52,44,32,51,48,48,56,32,51,48,50,48,44,32,51,48,51,48,32,51,48,51,48,44,32,70,69,51,48,32,70,69,54,70,44,32,70,70,48,49,32,70,70,48,70,44,32,70,70,49,65,32,70,70,50,48]⟩ : ByteArray) t190 _ A19.out).mono ?_);rintro e w22 ⟨v191,rfl,ho0,hb⟩;have n0_ := Aside0.mk (Kd.R_lower ho0 (below_size au0));have n1_ := Aside0.mk (below_step au0 hb);clear HB;have HO192 := n0_;have HB := n1_;clear n0_ n1_;(try clear hb);(try clear hb2);(try clear hk);(try clear hi);(try clear ho0);obtain ⟨Ao23,co23,eo23⟩ := Kd.R_slice HO192.out;subst eo23) | (go_at_call 39;(with_reducible refine (bodkinref02_Within.calls kj1 _ _ t190 a0 true _ ?side1 ?side2 A20.out).mono ?_);(case side1 => repeat (first | exact (Kd.R_reads' HO192.out).2.2 | (with_reducible refine Kd.C_alloc ?_ _) | (with_reducible refine Kd.C_drewN ?_ _) | (with_reducible refine Kd.C_drew ?_)));(case side2 => exact (Kd.R_reads' HO192.out).2.1);rintro e w' ⟨rfl,⟨nd,rfl⟩⟩))
      go_ret
      exact ⟨au2,au0⟩
     ·replace c21 := Bool.eq_false_iff.mpr c21
      subst c21
      have H1 : ((bodkinref02_Class.f kj1 a0).bind fun t194 => (if t194 = 3 then (some true) else (if t194 = 4 then (some true) else (some (t194 == 0))))) = some r := by rw [if_neg (show ¬ (false = true) by decide)] at H;exact H
      clear H
      have H := H1
      clear H1
      replace H := Option.bind_eq_some_iff.mp H
      obtain ⟨t194,A240,H⟩ := H
      replace H : (if t194 = 3 then (some true) else (if t194 = 4 then (some true) else (some (t194 == 0)))) = some r := H
      have A24 := Aside0.mk A240
      clear A240
      by_cases c25 : t194 = 3
      ·rw [if_pos c25] at H
       have c25b0 : (t194 == 3) = true := beq_iff_eq.mpr c25
       have c25b1 : (t194 != 3) = false := bne_eq_false_iff_eq.mpr c25
       clear c25
       obtain rfl := Option.some.inj H
       go_wp2_with (first | (go_at_call 40;(with_reducible refine (bodkinref02_Table.calls kj1 (⟨#[65,66,32,66,52,44,32,66,54,32,66,57,44,32,66,66,32,66,70,44,32,68,55,32,68,55,44,32,70,55,32,70,55,44,32,50,48,48,48,32,50,48,48,66,44,32,50,48,48,69,32,50,48,54,70,44,32,50,69,48,48,32,50,69,55,70,44,32,51,48,48,48,32,51,48,48,52,44,32,51,48,48,56,32,51,48,50,48,44,32,51,48,51,48,32,51,48,51,48,44,32,70,69,51,48,32,70,69,54,70,44,32,70,70,48,49,32,70,70,48,70,44,32,70,70,49,65,32,70,70,50,48]⟩ : ByteArray) t190 _ A19.out).mono ?_);rintro e w26 ⟨v191,rfl,ho0,hb⟩;have n0_ := Aside0.mk (Kd.R_lower ho0 (below_size au0));have n1_ := Aside0.mk (below_step au0 hb);clear HB;have HO192 := n0_;have HB := n1_;clear n0_ n1_;(try clear hb);(try clear hb2);(try clear hk);(try clear hi);(try clear ho0);obtain ⟨Ao27,co27,eo27⟩ := Kd.R_slice HO192.out;subst eo27) | (go_at_call 39;(with_reducible refine (bodkinref02_Within.calls kj1 _ _ t190 a0 false _ ?side1 ?side2 A20.out).mono ?_);(case side1 => repeat (first | exact (Kd.R_reads' HO192.out).2.2 | (with_reducible refine Kd.C_alloc ?_ _) | (with_reducible refine Kd.C_drewN ?_ _) | (with_reducible refine Kd.C_drew ?_)));(case side2 => exact (Kd.R_reads' HO192.out).2.1);rintro e w' ⟨rfl,⟨nd,rfl⟩⟩) | ((with_reducible refine gate_callee (f := 41) rfl ?_);refine goesL_ (some 38) rfl rfl Tryd.func41 (by kernel_rfl) rfl #[.int .i32 a0] rfl au1 ?_;(with_reducible refine (bodkinref02_Class.calls kj1 a0 t194 _ A24.out).mono ?_);rintro e w28 ⟨rfl,hb⟩;refine ⟨_,rfl,?_⟩;have n0_ := Aside0.mk (Kd.R_below (by (with_reducible repeat (first | apply Kd.R_alloc | apply Kd.R_drewN | apply Kd.R_drew));exact HO192.out) hb);have n1_ := Aside0.mk (below_step au0 hb);clear HO192;clear HB;have HO192 := n0_;have HB := n1_;clear n0_ n1_;(try clear hb);(try clear hb2);(try clear hk);(try clear hi)))
       go_ret
       exact ⟨au2,au0⟩
      ·rw [if_neg c25] at H
       have c25b0 : (t194 == 3) = false := beq_eq_false_iff_ne.mpr c25
       have c25b1 : (t194 != 3) = true := bne_iff_ne.mpr c25
       by_cases c29 : t194 = 4
       ·rw [if_pos c29] at H
        have c29b0 : (t194 == 4) = true := beq_iff_eq.mpr c29
        have c29b1 : (t194 != 4) = false := bne_eq_false_iff_eq.mpr c29
        clear c29
        obtain rfl := Option.some.inj H
        go_wp2_with (first | (go_at_call 40;(with_reducible refine (bodkinref02_Table.calls kj1 (⟨#[65,66,32,66,52,44,32,66,54,32,66,57,44,32,66,66,32,66,70,44,32,68,55,32,68,55,44,32,70,55,32,70,55,44,32,50,48,48,48,32,50,48,48,66,44,32,50,48,48,69,32,50,48,54,70,44,32,50,69,48,48,32,50,69,55,70,44,32,51,48,48,48,32,51,48,48,52,44,32,51,48,48,56,32,51,48,50,48,44,32,51,48,51,48,32,51,48,51,48,44,32,70,69,51,48,32,70,69,54,70,44,32,70,70,48,49,32,70,70,48,70,44,32,70,70,49,65,32,70,70,50,48]⟩ : ByteArray) t190 _ A19.out).mono ?_);rintro e w30 ⟨v191,rfl,ho0,hb⟩;have n0_ := Aside0.mk (Kd.R_lower ho0 (below_size au0));have n1_ := Aside0.mk (below_step au0 hb);clear HB;have HO192 := n0_;have HB := n1_;clear n0_ n1_;(try clear hb);(try clear hb2);(try clear hk);(try clear hi);(try clear ho0);obtain ⟨Ao31,co31,eo31⟩ := Kd.R_slice HO192.out;subst eo31) | (go_at_call 39;(with_reducible refine (bodkinref02_Within.calls kj1 _ _ t190 a0 false _ ?side1 ?side2 A20.out).mono ?_);(case side1 => repeat (first | exact (Kd.R_reads' HO192.out).2.2 | (with_reducible refine Kd.C_alloc ?_ _) | (with_reducible refine Kd.C_drewN ?_ _) | (with_reducible refine Kd.C_drew ?_)));(case side2 => exact (Kd.R_reads' HO192.out).2.1);rintro e w' ⟨rfl,⟨nd,rfl⟩⟩) | ((with_reducible refine gate_callee (f := 41) rfl ?_);refine goesL_ (some 38) rfl rfl Tryd.func41 (by kernel_rfl) rfl #[.int .i32 a0] rfl au1 ?_;(with_reducible refine (bodkinref02_Class.calls kj1 a0 t194 _ A24.out).mono ?_);rintro e w32 ⟨rfl,hb⟩;refine ⟨_,rfl,?_⟩;have n0_ := Aside0.mk (Kd.R_below (by (with_reducible repeat (first | apply Kd.R_alloc | apply Kd.R_drewN | apply Kd.R_drew));exact HO192.out) hb);have n1_ := Aside0.mk (below_step au0 hb);clear HO192;clear HB;have HO192 := n0_;have HB := n1_;clear n0_ n1_;(try clear hb);(try clear hb2);(try clear hk);(try clear hi)))
        go_ret
        exact ⟨au2,au0⟩
       ·rw [if_neg c29] at H
        have c29b0 : (t194 == 4) = false := beq_eq_false_iff_ne.mpr c29
        have c29b1 : (t194 != 4) = true := bne_iff_ne.mpr c29
        obtain rfl := Option.some.inj H
        go_wp2_with (first | (go_at_call 40;(with_reducible refine (bodkinref02_Table.calls kj1 (⟨#[65,66,32,66,52,44,32,66,54,32,66,57,44,32,66,66,32,66,70,44,32,68,55,32,68,55,44,32,70,55,32,70,55,44,32,50,48,48,48,32,50,48,48,66,44,32,50,48,48,69,32,50,48,54,70,44,32,50,69,48,48,32,50,69,55,70,44,32,51,48,48,48,32,51,48,48,52,44,32,51,48,48,56,32,51,48,50,48,44,32,51,48,51,48,32,51,48,51,48,44,32,70,69,51,48,32,70,69,54,70,44,32,70,70,48,49,32,70,70,48,70,44,32,70,70,49,65,32,70,70,50,48]⟩ : ByteArray) t190 _ A19.out).mono ?_);rintro e w33 ⟨v191,rfl,ho0,hb⟩;have n0_ := Aside0.mk (Kd.R_lower ho0 (below_size au0));have n1_ := Aside0.mk (below_step au0 hb);clear HB;have HO192 := n0_;have HB := n1_;clear n0_ n1_;(try clear hb);(try clear hb2);(try clear hk);(try clear hi);(try clear ho0);obtain ⟨Ao34,co34,eo34⟩ := Kd.R_slice HO192.out;subst eo34) | (go_at_call 39;(with_reducible refine (bodkinref02_Within.calls kj1 _ _ t190 a0 false _ ?side1 ?side2 A20.out).mono ?_);(case side1 => repeat (first | exact (Kd.R_reads' HO192.out).2.2 | (with_reducible refine Kd.C_alloc ?_ _) | (with_reducible refine Kd.C_drewN ?_ _) | (with_reducible refine Kd.C_drew ?_)));(case side2 => exact (Kd.R_reads' HO192.out).2.1);rintro e w' ⟨rfl,⟨nd,rfl⟩⟩) | ((with_reducible refine gate_callee (f := 41) rfl ?_);refine goesL_ (some 38) rfl rfl Tryd.func41 (by kernel_rfl) rfl #[.int .i32 a0] rfl au1 ?_;(with_reducible refine (bodkinref02_Class.calls kj1 a0 t194 _ A24.out).mono ?_);rintro e w35 ⟨rfl,hb⟩;refine ⟨_,rfl,?_⟩;have n0_ := Aside0.mk (Kd.R_below (by (with_reducible repeat (first | apply Kd.R_alloc | apply Kd.R_drewN | apply Kd.R_drew));exact HO192.out) hb);have n1_ := Aside0.mk (below_step au0 hb);clear HO192;clear HB;have HO192 := n0_;have HB := n1_;clear n0_ n1_;(try clear hb);(try clear hb2);(try clear hk);(try clear hi)))
        go_ret
        exact ⟨au2,au0⟩
def word_odd.f (a0 : Int) (a1 : Int) (a2 : Int) : Option (Bool) := if a0 ≥ a1 then (if a0 ≤ a2 then (some ((Int.tmod a0 2) == 1)) else (some false)) else (some false)
set_option maxHeartbeats 8000000 in
set_option maxRecDepth 100000 in
theorem word_odd.calls (a0 : Int) (a1 : Int) (a2 : Int) (r : Bool) (w : World) (h : word_odd.f a0 a1 a2 = some r) :
  Calls Tryd.prog 42 #[.int .i32 a0,.int .i32 a1,.int .i32 a2] w fun e w' => e = .returned (.bool r) ∧ Drawn0 w w' := by
 have H : (if a0 ≥ a1 then (if a0 ≤ a2 then (some ((Int.tmod a0 2) == 1)) else (some false)) else (some false)) = some r := h
 clear h
 by_cases c4 : a0 ≥ a1
 ·rw [if_pos c4] at H
  have c4b0 : decide (a1 ≤ a0) = true := decide_eq_true c4
  clear c4
  by_cases c5 : a0 ≤ a2
  ·rw [if_pos c5] at H
   have c5b0 : decide (a0 ≤ a2) = true := decide_eq_true c5
   clear c5
   obtain rfl := Option.some.inj H
   go_enter Tryd.func42,Tryd.ntmps42
   go_wp2
   go_ret
   exact ⟨by first | rfl | (simp;done) | (simp [*];done),by repeat (first | exact Drawn0.refl _ | apply Drawn0.step)⟩
  ·rw [if_neg c5] at H
   have c5b0 : decide (a0 ≤ a2) = false := decide_eq_false c5
   clear c5
   obtain rfl := Option.some.inj H
   go_enter Tryd.func42,Tryd.ntmps42
   go_wp2
   go_ret
   exact ⟨by first | rfl | (simp;done) | (simp [*];done),by repeat (first | exact Drawn0.refl _ | apply Drawn0.step)⟩
 ·rw [if_neg c4] at H
  have c4b0 : decide (a1 ≤ a0) = false := decide_eq_false c4
  clear c4
  obtain rfl := Option.some.inj H
  go_enter Tryd.func42,Tryd.ntmps42
  go_wp2
  go_ret
  exact ⟨by first | rfl | (simp;done) | (simp [*];done),by repeat (first | exact Drawn0.refl _ | apply Drawn0.step)⟩
end Go.Proofs.YtkficbgnjpekaaaDoor.U
end
