/- What the law WordTiles reaches of this seat's own texts, merged; what nothing uses is left out. -/
import Derived.Test.YtkficbgnjpekaaaDoorZWordTiles0
import Derived.Test.YtkficbgnjpekaaaDoorZWordTiles1
import Derived.Test.YtkficbgnjpekaaaDoorZWordTiles2
import Derived.Test.YtkficbgnjpekaaaDoorZWordTiles3
section
namespace Go.Proofs.YtkficbgnjpekaaaDoor.U
open Go.RowKit Go.Proofs.YtkficbgnjpekaaaDoorW.PrintWords Go.Proofs.YtkficbgnjpekaaaDoorW.PrintLast Go.Proofs.YtkficbgnjpekaaaDoorW.PrintMore
attribute [local go_sem] max2_int min2_int max_two min_two max_three min_three max_four min_four   -- for this text's walks alone
set_option linter.unusedVariables false
set_option linter.unusedSimpArgs false
mutual
def word_UpperOf.j0 : Nat → Int → Bool → Option (Int)
 | 0,_,_ => none
 | k + 1,x0,x3 => if x3 = true then (word_UpperOf.j4 k x0 x3) else (if x0 ≥ 224 then (word_UpperOf.j1 k x0 (decide (x0 ≤ 246))) else (word_UpperOf.j1 k x0 false))
def word_UpperOf.j4 : Nat → Int → Bool → Option (Int)
 | 0,_,_ => none
 | k + 1,x0,x3 => if x3 = true then (some (wrap32 (x0 - 32))) else (if x0 ≥ 1104 then (word_UpperOf.j5 k x0 (decide (x0 ≤ 1119))) else (word_UpperOf.j5 k x0 false))
def word_UpperOf.j5 : Nat → Int → Bool → Option (Int)
 | 0,_,_ => none
 | k + 1,x0,x42 => if x42 = true then (some (wrap32 (x0 - 80))) else (if x0 = 255 then (some 376) else (if x0 = 305 then (word_UpperOf.j6 k x0 false) else ((word_odd.f x0 257 311).bind fun t195 => (word_UpperOf.j6 k x0 t195))))
def word_UpperOf.j6 : Nat → Int → Bool → Option (Int)
 | 0,_,_ => none
 | k + 1,x0,x54 => if x54 = true then (some (wrap32 (x0 - 1))) else ((word_odd.f x0 331 375).bind fun t196 => (if t196 = true then (some (wrap32 (x0 - 1))) else ((word_odd.f x0 1121 1153).bind fun t197 => (if t197 = true then (some (wrap32 (x0 - 1))) else (some x0)))))
def word_UpperOf.j1 : Nat → Int → Bool → Option (Int)
 | 0,_,_ => none
 | k + 1,x0,x3 => if x3 = true then (word_UpperOf.j4 k x0 x3) else (if x0 ≥ 248 then (word_UpperOf.j2 k x0 (decide (x0 ≤ 254))) else (word_UpperOf.j2 k x0 false))
def word_UpperOf.j2 : Nat → Int → Bool → Option (Int)
 | 0,_,_ => none
 | k + 1,x0,x3 => if x3 = true then (word_UpperOf.j4 k x0 x3) else (if x0 ≥ 945 then (word_UpperOf.j3 k x0 (decide (x0 ≤ 961))) else (word_UpperOf.j3 k x0 false))
def word_UpperOf.j3 : Nat → Int → Bool → Option (Int)
 | 0,_,_ => none
 | k + 1,x0,x3 => if x3 = true then (word_UpperOf.j4 k x0 x3) else (if x0 ≥ 963 then (if x0 ≤ 969 then (word_UpperOf.j4 k x0 (decide (x0 ≤ 969))) else (if x0 ≥ 1072 then (word_UpperOf.j4 k x0 (decide (x0 ≤ 1103))) else (word_UpperOf.j4 k x0 false))) else (if x0 ≥ 1072 then (word_UpperOf.j4 k x0 (decide (x0 ≤ 1103))) else (word_UpperOf.j4 k x0 false)))
end
def word_UpperOf.f (k : Nat) (a0 : Int) : Option (Int) := if a0 ≥ 97 then (word_UpperOf.j0 k a0 (decide (a0 ≤ 122))) else (word_UpperOf.j0 k a0 false)
set_option maxHeartbeats 8000000 in
set_option maxRecDepth 100000 in
theorem word_UpperOf.calls (k : Nat) (a0 : Int) (r : Int) (w : World) (h : word_UpperOf.f k a0 = some r) :
  Calls Tryd.prog 15 #[.int .i32 a0] w fun e w' => e = .returned (.int .i32 r) ∧ Drawn0 w w' := by
 have H : (if a0 ≥ 97 then (word_UpperOf.j0 k a0 (decide (a0 ≤ 122))) else (word_UpperOf.j0 k a0 false)) = some r := h
 clear h
 have HC2 := Aside0.mk H
 clear H
 go_enter Tryd.func15,Tryd.ntmps15
 go_upto_region 1 with (fail)
 go_cut [3] (fun v3 wc => ∃ (kq : Nat) (x3_1 : Bool),v3 = .bool x3_1 ∧ Aside0 (word_UpperOf.j0 kq a0 x3_1 = some r) ∧ Aside0 (kq ≤ k) ∧ Drawn0 w wc)
 case first =>
  have H := HC2.out
  clear HC2
  by_cases c3 : a0 ≥ 97
  ·rw [if_pos c3] at H
   have c3b0 : decide (97 ≤ a0) = true := decide_eq_true c3
   clear c3
   (first | rw [c3b0] | (simp only [i64_w,i32_w];rw [c3b0]) | skip)
   have H' := Aside0.mk H
   clear H
   go_wp2
   go_meet
   case rel => exact ⟨_,(decide (a0 ≤ 122)),au3,H',⟨by first | omega | exact Nat.le_refl _⟩,by repeat (first | exact Drawn0.refl _ | apply Drawn0.step)⟩
  ·rw [if_neg c3] at H
   have c3b0 : decide (97 ≤ a0) = false := decide_eq_false c3
   clear c3
   (first | rw [c3b0] | (simp only [i64_w,i32_w];rw [c3b0]) | skip)
   have H' := Aside0.mk H
   clear H
   go_wp2
   go_meet
   case rel => exact ⟨_,(false),au3,H',⟨by first | omega | exact Nat.le_refl _⟩,by repeat (first | exact Drawn0.refl _ | apply Drawn0.step)⟩
 case rest =>
  clear HC2
  try clear c1
  try clear p2
  try clear c3
  try clear c3b0
  obtain ⟨kq,x3_1,rfl,HA,HJ1,⟨mc1,rfl⟩⟩ := hcut
  cases kq with
  | zero => exact absurd HA.out (by simp [word_UpperOf.j0])
  | succ kj1 =>
   have H := HA.out
   clear HA
   simp only [word_UpperOf.j0] at H
   have HC4 := Aside0.mk H
   clear H
   go_upto_if 3 with (fail)
   go_cut [3] (fun v3 wc => ∃ (kq : Nat) (x3_3 : Bool),v3 = .bool x3_3 ∧ Aside0 (word_UpperOf.j4 kq a0 x3_3 = some r) ∧ Aside0 (kq ≤ kj1) ∧ Drawn0 w wc)
   case first =>
    have H := HC4.out
    clear HC4
    by_cases c5 : x3_1 = true
    ·subst c5
     have H1 : (word_UpperOf.j4 kj1 a0 true) = some r := by rw [if_pos rfl] at H;exact H
     clear H
     have H := H1
     clear H1
     have H' := Aside0.mk H
     clear H
     go_wp2
     go_meet
     case rel => exact ⟨_,(true),au3,H',⟨by have := HJ1.out;first | omega | exact Nat.le_refl _⟩,by repeat (first | exact Drawn0.refl _ | apply Drawn0.step)⟩
    ·replace c5 := Bool.eq_false_iff.mpr c5
     subst c5
     have H1 : (if a0 ≥ 224 then (word_UpperOf.j1 kj1 a0 (decide (a0 ≤ 246))) else (word_UpperOf.j1 kj1 a0 false)) = some r := by rw [if_neg (show ¬ (false = true) by decide)] at H;exact H
     clear H
     have H := H1
     clear H1
     have HC6 := Aside0.mk H
     clear H
     go_upto_region 2 with (fail)
     go_cut [3] (fun v3 wc => ∃ (kq : Nat) (x3_5 : Bool),v3 = .bool x3_5 ∧ Aside0 (word_UpperOf.j1 kq a0 x3_5 = some r) ∧ Aside0 (kq ≤ kj1) ∧ Drawn0 w wc)
     case first =>
      have H := HC6.out
      clear HC6
      by_cases c7 : a0 ≥ 224
      ·rw [if_pos c7] at H
       have c7b0 : decide (224 ≤ a0) = true := decide_eq_true c7
       clear c7
       (first | rw [c7b0] | (simp only [i64_w,i32_w];rw [c7b0]) | skip)
       have H' := Aside0.mk H
       clear H
       go_wp2
       go_meet
       case rel => exact ⟨_,(decide (a0 ≤ 246)),au3,H',⟨by have := HJ1.out;first | omega | exact Nat.le_refl _⟩,by repeat (first | exact Drawn0.refl _ | apply Drawn0.step)⟩
      ·rw [if_neg c7] at H
       have c7b0 : decide (224 ≤ a0) = false := decide_eq_false c7
       clear c7
       (first | rw [c7b0] | (simp only [i64_w,i32_w];rw [c7b0]) | skip)
       have H' := Aside0.mk H
       clear H
       go_wp2
       go_meet
       case rel => exact ⟨_,(false),au3,H',⟨by have := HJ1.out;first | omega | exact Nat.le_refl _⟩,by repeat (first | exact Drawn0.refl _ | apply Drawn0.step)⟩
     case rest =>
      clear HC6
      try clear c1
      try clear p2
      try clear c3
      try clear c3b0
      try clear c5
      try clear c7
      try clear c7b0
      try clear p2
      obtain ⟨kq,x3_5,rfl,HA,HJ5,⟨mc5,rfl⟩⟩ := hcut
      cases kq with
      | zero => exact absurd HA.out (by simp [word_UpperOf.j1])
      | succ kj5 =>
       have H := HA.out
       clear HA
       simp only [word_UpperOf.j1] at H
       by_cases c8 : x3_5 = true
       ·subst c8
        have H1 : (word_UpperOf.j4 kj5 a0 true) = some r := by rw [if_pos rfl] at H;exact H
        clear H
        have H := H1
        clear H1
        have H' := Aside0.mk H
        clear H
        go_wp2
        go_meet
        case rel => exact ⟨_,(true),au3,H',⟨by have := HJ1.out;have := HJ5.out;first | omega | exact Nat.le_refl _⟩,by repeat (first | exact Drawn0.refl _ | apply Drawn0.step)⟩
       ·replace c8 := Bool.eq_false_iff.mpr c8
        subst c8
        have H1 : (if a0 ≥ 248 then (word_UpperOf.j2 kj5 a0 (decide (a0 ≤ 254))) else (word_UpperOf.j2 kj5 a0 false)) = some r := by rw [if_neg (show ¬ (false = true) by decide)] at H;exact H
        clear H
        have H := H1
        clear H1
        have HC9 := Aside0.mk H
        clear H
        go_upto_region 3 with (fail)
        go_cut [3] (fun v3 wc => ∃ (kq : Nat) (x3_8 : Bool),v3 = .bool x3_8 ∧ Aside0 (word_UpperOf.j2 kq a0 x3_8 = some r) ∧ Aside0 (kq ≤ kj5) ∧ Drawn0 w wc)
        case first =>
         have H := HC9.out
         clear HC9
         by_cases c10 : a0 ≥ 248
         ·rw [if_pos c10] at H
          have c10b0 : decide (248 ≤ a0) = true := decide_eq_true c10
          clear c10
          (first | rw [c10b0] | (simp only [i64_w,i32_w];rw [c10b0]) | skip)
          have H' := Aside0.mk H
          clear H
          go_wp2
          go_meet
          case rel => exact ⟨_,(decide (a0 ≤ 254)),au3,H',⟨by have := HJ1.out;have := HJ5.out;first | omega | exact Nat.le_refl _⟩,by repeat (first | exact Drawn0.refl _ | apply Drawn0.step)⟩
         ·rw [if_neg c10] at H
          have c10b0 : decide (248 ≤ a0) = false := decide_eq_false c10
          clear c10
          (first | rw [c10b0] | (simp only [i64_w,i32_w];rw [c10b0]) | skip)
          have H' := Aside0.mk H
          clear H
          go_wp2
          go_meet
          case rel => exact ⟨_,(false),au3,H',⟨by have := HJ1.out;have := HJ5.out;first | omega | exact Nat.le_refl _⟩,by repeat (first | exact Drawn0.refl _ | apply Drawn0.step)⟩
        case rest =>
         clear HC9
         try clear c1
         try clear p2
         try clear c3
         try clear c3b0
         try clear c5
         try clear c7
         try clear c7b0
         try clear c8
         try clear c10
         try clear c10b0
         try clear p2
         obtain ⟨kq,x3_8,rfl,HA,HJ8,⟨mc8,rfl⟩⟩ := hcut
         cases kq with
         | zero => exact absurd HA.out (by simp [word_UpperOf.j2])
         | succ kj8 =>
          have H := HA.out
          clear HA
          simp only [word_UpperOf.j2] at H
          by_cases c11 : x3_8 = true
          ·subst c11
           have H1 : (word_UpperOf.j4 kj8 a0 true) = some r := by rw [if_pos rfl] at H;exact H
           clear H
           have H := H1
           clear H1
           have H' := Aside0.mk H
           clear H
           go_wp2
           go_meet
           case rel => exact ⟨_,(true),au3,H',⟨by have := HJ1.out;have := HJ5.out;have := HJ8.out;first | omega | exact Nat.le_refl _⟩,by repeat (first | exact Drawn0.refl _ | apply Drawn0.step)⟩
          ·replace c11 := Bool.eq_false_iff.mpr c11
           subst c11
           have H1 : (if a0 ≥ 945 then (word_UpperOf.j3 kj8 a0 (decide (a0 ≤ 961))) else (word_UpperOf.j3 kj8 a0 false)) = some r := by rw [if_neg (show ¬ (false = true) by decide)] at H;exact H
           clear H
           have H := H1
           clear H1
           have HC12 := Aside0.mk H
           clear H
           go_upto_region 4 with (fail)
           go_cut [3] (fun v3 wc => ∃ (kq : Nat) (x3_11 : Bool),v3 = .bool x3_11 ∧ Aside0 (word_UpperOf.j3 kq a0 x3_11 = some r) ∧ Aside0 (kq ≤ kj8) ∧ Drawn0 w wc)
           case first =>
            have H := HC12.out
            clear HC12
            by_cases c13 : a0 ≥ 945
            ·rw [if_pos c13] at H
             have c13b0 : decide (945 ≤ a0) = true := decide_eq_true c13
             clear c13
             (first | rw [c13b0] | (simp only [i64_w,i32_w];rw [c13b0]) | skip)
             have H' := Aside0.mk H
             clear H
             go_wp2
             go_meet
             case rel => exact ⟨_,(decide (a0 ≤ 961)),au3,H',⟨by have := HJ1.out;have := HJ5.out;have := HJ8.out;first | omega | exact Nat.le_refl _⟩,by repeat (first | exact Drawn0.refl _ | apply Drawn0.step)⟩
            ·rw [if_neg c13] at H
             have c13b0 : decide (945 ≤ a0) = false := decide_eq_false c13
             clear c13
             (first | rw [c13b0] | (simp only [i64_w,i32_w];rw [c13b0]) | skip)
             have H' := Aside0.mk H
             clear H
             go_wp2
             go_meet
             case rel => exact ⟨_,(false),au3,H',⟨by have := HJ1.out;have := HJ5.out;have := HJ8.out;first | omega | exact Nat.le_refl _⟩,by repeat (first | exact Drawn0.refl _ | apply Drawn0.step)⟩
           case rest =>
            clear HC12
            try clear c1
            try clear p2
            try clear c3
            try clear c3b0
            try clear c5
            try clear c7
            try clear c7b0
            try clear c8
            try clear c10
            try clear c10b0
            try clear c11
            try clear c13
            try clear c13b0
            try clear p2
            obtain ⟨kq,x3_11,rfl,HA,HJ11,⟨mc11,rfl⟩⟩ := hcut
            cases kq with
            | zero => exact absurd HA.out (by simp [word_UpperOf.j3])
            | succ kj11 =>
             have H := HA.out
             clear HA
             simp only [word_UpperOf.j3] at H
             by_cases c14 : x3_11 = true
             ·subst c14
              have H1 : (word_UpperOf.j4 kj11 a0 true) = some r := by rw [if_pos rfl] at H;exact H
              clear H
              have H := H1
              clear H1
              have H' := Aside0.mk H
              clear H
              go_wp2
              go_meet
              case rel => exact ⟨_,(true),au3,H',⟨by have := HJ1.out;have := HJ5.out;have := HJ8.out;have := HJ11.out;first | omega | exact Nat.le_refl _⟩,by repeat (first | exact Drawn0.refl _ | apply Drawn0.step)⟩
             ·replace c14 := Bool.eq_false_iff.mpr c14
              subst c14
              have H1 : (if a0 ≥ 963 then (if a0 ≤ 969 then (word_UpperOf.j4 kj11 a0 (decide (a0 ≤ 969))) else (if a0 ≥ 1072 then (word_UpperOf.j4 kj11 a0 (decide (a0 ≤ 1103))) else (word_UpperOf.j4 kj11 a0 false))) else (if a0 ≥ 1072 then (word_UpperOf.j4 kj11 a0 (decide (a0 ≤ 1103))) else (word_UpperOf.j4 kj11 a0 false))) = some r := by rw [if_neg (show ¬ (false = true) by decide)] at H;exact H
              clear H
              have H := H1
              clear H1
              by_cases c15 : a0 ≥ 963
              ·rw [if_pos c15] at H
               have c15b0 : decide (963 ≤ a0) = true := decide_eq_true c15
               clear c15
               by_cases c16 : a0 ≤ 969
               ·rw [if_pos c16] at H
                have c16b0 : decide (a0 ≤ 969) = true := decide_eq_true c16
                clear c16
                have H' := Aside0.mk H
                clear H
                go_wp2
                go_meet
                case rel => exact ⟨_,(decide (a0 ≤ 969)),au3,H',⟨by have := HJ1.out;have := HJ5.out;have := HJ8.out;have := HJ11.out;first | omega | exact Nat.le_refl _⟩,by repeat (first | exact Drawn0.refl _ | apply Drawn0.step)⟩
               ·rw [if_neg c16] at H
                have c16b0 : decide (a0 ≤ 969) = false := decide_eq_false c16
                clear c16
                by_cases c17 : a0 ≥ 1072
                ·rw [if_pos c17] at H
                 have c17b0 : decide (1072 ≤ a0) = true := decide_eq_true c17
                 clear c17
                 have H' := Aside0.mk H
                 clear H
                 go_wp2
                 go_meet
                 case rel => exact ⟨_,(decide (a0 ≤ 1103)),au3,H',⟨by have := HJ1.out;have := HJ5.out;have := HJ8.out;have := HJ11.out;first | omega | exact Nat.le_refl _⟩,by repeat (first | exact Drawn0.refl _ | apply Drawn0.step)⟩
                ·rw [if_neg c17] at H
                 have c17b0 : decide (1072 ≤ a0) = false := decide_eq_false c17
                 clear c17
                 have H' := Aside0.mk H
                 clear H
                 go_wp2
                 go_meet
                 case rel => exact ⟨_,(false),au3,H',⟨by have := HJ1.out;have := HJ5.out;have := HJ8.out;have := HJ11.out;first | omega | exact Nat.le_refl _⟩,by repeat (first | exact Drawn0.refl _ | apply Drawn0.step)⟩
              ·rw [if_neg c15] at H
               have c15b0 : decide (963 ≤ a0) = false := decide_eq_false c15
               clear c15
               by_cases c18 : a0 ≥ 1072
               ·rw [if_pos c18] at H
                have c18b0 : decide (1072 ≤ a0) = true := decide_eq_true c18
                clear c18
                have H' := Aside0.mk H
                clear H
                go_wp2
                go_meet
                case rel => exact ⟨_,(decide (a0 ≤ 1103)),au3,H',⟨by have := HJ1.out;have := HJ5.out;have := HJ8.out;have := HJ11.out;first | omega | exact Nat.le_refl _⟩,by repeat (first | exact Drawn0.refl _ | apply Drawn0.step)⟩
               ·rw [if_neg c18] at H
                have c18b0 : decide (1072 ≤ a0) = false := decide_eq_false c18
                clear c18
                have H' := Aside0.mk H
                clear H
                go_wp2
                go_meet
                case rel => exact ⟨_,(false),au3,H',⟨by have := HJ1.out;have := HJ5.out;have := HJ8.out;have := HJ11.out;first | omega | exact Nat.le_refl _⟩,by repeat (first | exact Drawn0.refl _ | apply Drawn0.step)⟩
   case rest =>
    clear HC4
    try clear c1
    try clear p2
    try clear c3
    try clear c3b0
    try clear c5
    try clear c7
    try clear c7b0
    try clear c8
    try clear c10
    try clear c10b0
    try clear c11
    try clear c13
    try clear c13b0
    try clear c14
    try clear c15
    try clear c15b0
    try clear c16
    try clear c16b0
    try clear c17
    try clear c17b0
    try clear c18
    try clear c18b0
    try clear p2
    obtain ⟨kq,x3_3,rfl,HA,HJ3,⟨mc3,rfl⟩⟩ := hcut
    cases kq with
    | zero => exact absurd HA.out (by simp [word_UpperOf.j4])
    | succ kj3 =>
     have H := HA.out
     clear HA
     simp only [word_UpperOf.j4] at H
     by_cases c19 : x3_3 = true
     ·subst c19
      have H1 : (some (wrap32 (a0 - 32))) = some r := by rw [if_pos rfl] at H;exact H
      clear H
      have H := H1
      clear H1
      obtain rfl := Option.some.inj H
      go_wp2
      go_ret
      exact ⟨by first | rfl | (simp;done) | (simp [*];done),by repeat (first | exact Drawn0.refl _ | apply Drawn0.step)⟩
     ·replace c19 := Bool.eq_false_iff.mpr c19
      subst c19
      have H1 : (if a0 ≥ 1104 then (word_UpperOf.j5 kj3 a0 (decide (a0 ≤ 1119))) else (word_UpperOf.j5 kj3 a0 false)) = some r := by rw [if_neg (show ¬ (false = true) by decide)] at H;exact H
      clear H
      have H := H1
      clear H1
      have HC20 := Aside0.mk H
      clear H
      go_upto_region 8 with (fail)
      go_cut [42] (fun v42 wc => ∃ (kq : Nat) (x42_19 : Bool),v42 = .bool x42_19 ∧ Aside0 (word_UpperOf.j5 kq a0 x42_19 = some r) ∧ Aside0 (kq ≤ kj3) ∧ Drawn0 w wc)
      case first =>
       have H := HC20.out
       clear HC20
       by_cases c21 : a0 ≥ 1104
       ·rw [if_pos c21] at H
        have c21b0 : decide (1104 ≤ a0) = true := decide_eq_true c21
        clear c21
        (first | rw [c21b0] | (simp only [i64_w,i32_w];rw [c21b0]) | skip)
        have H' := Aside0.mk H
        clear H
        go_wp2
        go_meet
        case rel => exact ⟨_,(decide (a0 ≤ 1119)),au3,H',⟨by have := HJ1.out;have := HJ3.out;first | omega | exact Nat.le_refl _⟩,by repeat (first | exact Drawn0.refl _ | apply Drawn0.step)⟩
       ·rw [if_neg c21] at H
        have c21b0 : decide (1104 ≤ a0) = false := decide_eq_false c21
        clear c21
        (first | rw [c21b0] | (simp only [i64_w,i32_w];rw [c21b0]) | skip)
        have H' := Aside0.mk H
        clear H
        go_wp2
        go_meet
        case rel => exact ⟨_,(false),au3,H',⟨by have := HJ1.out;have := HJ3.out;first | omega | exact Nat.le_refl _⟩,by repeat (first | exact Drawn0.refl _ | apply Drawn0.step)⟩
      case rest =>
       clear HC20
       try clear c1
       try clear c2
       try clear p2
       try clear c3
       try clear c3b0
       try clear p3
       try clear c5
       try clear c7
       try clear c7b0
       try clear c8
       try clear c10
       try clear c10b0
       try clear c11
       try clear c13
       try clear c13b0
       try clear c14
       try clear c15
       try clear c15b0
       try clear c16
       try clear c16b0
       try clear c17
       try clear c17b0
       try clear c18
       try clear c18b0
       try clear c19
       try clear c21
       try clear c21b0
       try clear p2
       obtain ⟨kq,x42_19,rfl,HA,HJ19,⟨mc19,rfl⟩⟩ := hcut
       cases kq with
       | zero => exact absurd HA.out (by simp [word_UpperOf.j5])
       | succ kj19 =>
        have H := HA.out
        clear HA
        simp only [word_UpperOf.j5] at H
        by_cases c22 : x42_19 = true
        ·subst c22
         have H1 : (some (wrap32 (a0 - 80))) = some r := by rw [if_pos rfl] at H;exact H
         clear H
         have H := H1
         clear H1
         obtain rfl := Option.some.inj H
         go_wp2
         go_ret
         exact ⟨by first | rfl | (simp;done) | (simp [*];done),by repeat (first | exact Drawn0.refl _ | apply Drawn0.step)⟩
        ·replace c22 := Bool.eq_false_iff.mpr c22
         subst c22
         have H1 : (if a0 = 255 then (some 376) else (if a0 = 305 then (word_UpperOf.j6 kj19 a0 false) else ((word_odd.f a0 257 311).bind fun t195 => (word_UpperOf.j6 kj19 a0 t195)))) = some r := by rw [if_neg (show ¬ (false = true) by decide)] at H;exact H
         clear H
         have H := H1
         clear H1
         by_cases c23 : a0 = 255
         ·rw [if_pos c23] at H
          have c23b0 : (a0 == 255) = true := beq_iff_eq.mpr c23
          have c23b1 : (a0 != 255) = false := bne_eq_false_iff_eq.mpr c23
          clear c23
          obtain rfl := Option.some.inj H
          go_wp2
          go_ret
          exact ⟨by first | rfl | (simp;done) | (simp [*];done),by repeat (first | exact Drawn0.refl _ | apply Drawn0.step)⟩
         ·rw [if_neg c23] at H
          have c23b0 : (a0 == 255) = false := beq_eq_false_iff_ne.mpr c23
          have c23b1 : (a0 != 255) = true := bne_iff_ne.mpr c23
          have HC24 := Aside0.mk H
          clear H
          go_upto_region 12 with (fail)
          go_cut [54] (fun v54 wc => ∃ (kq : Nat) (x54_23 : Bool),v54 = .bool x54_23 ∧ Aside0 (word_UpperOf.j6 kq a0 x54_23 = some r) ∧ Aside0 (kq ≤ kj19) ∧ Drawn0 w wc)
          case first =>
           have H := HC24.out
           clear HC24
           by_cases c25 : a0 = 305
           ·rw [if_pos c25] at H
            have c25b0 : (a0 == 305) = true := beq_iff_eq.mpr c25
            have c25b1 : (a0 != 305) = false := bne_eq_false_iff_eq.mpr c25
            clear c25
            (first | rw [c25b0] | (simp only [i64_w,i32_w];rw [c25b0]) | skip)
            have H' := Aside0.mk H
            clear H
            go_wp2
            go_meet
            case rel => exact ⟨_,(false),au3,H',⟨by have := HJ1.out;have := HJ3.out;have := HJ19.out;first | omega | exact Nat.le_refl _⟩,by repeat (first | exact Drawn0.refl _ | apply Drawn0.step)⟩
           ·rw [if_neg c25] at H
            have c25b0 : (a0 == 305) = false := beq_eq_false_iff_ne.mpr c25
            have c25b1 : (a0 != 305) = true := bne_iff_ne.mpr c25
            (first | rw [c25b0] | (simp only [i64_w,i32_w];rw [c25b0]) | skip)
            replace H := Option.bind_eq_some_iff.mp H
            obtain ⟨t195,A260,H⟩ := H
            replace H : (word_UpperOf.j6 kj19 a0 t195) = some r := H
            have A26 := Aside0.mk A260
            clear A260
            have H' := Aside0.mk H
            clear H
            go_wp2_with (first | (go_at_call 42;(with_reducible refine (word_odd.calls a0 257 311 t195 _ A26.out).mono ?_);rintro e w' ⟨rfl,⟨nd,rfl⟩⟩))
            go_meet
            case rel => exact ⟨_,(t195),au3,H',⟨by have := HJ1.out;have := HJ3.out;have := HJ19.out;first | omega | exact Nat.le_refl _⟩,by repeat (first | exact Drawn0.refl _ | apply Drawn0.step)⟩
          case rest =>
           clear HC24
           try clear c1
           try clear c2
           try clear p2
           try clear c3
           try clear c3b0
           try clear p3
           try clear c5
           try clear c7
           try clear c7b0
           try clear c8
           try clear c10
           try clear c10b0
           try clear c11
           try clear c13
           try clear c13b0
           try clear c14
           try clear c15
           try clear c15b0
           try clear c16
           try clear c16b0
           try clear c17
           try clear c17b0
           try clear c18
           try clear c18b0
           try clear c19
           try clear c21
           try clear c21b0
           try clear c22
           try clear c23
           try clear c23b0
           try clear c23b1
           try clear c25
           try clear c25b0
           try clear c25b1
           try clear p2
           try clear p3
           obtain ⟨kq,x54_23,rfl,HA,HJ23,⟨mc23,rfl⟩⟩ := hcut
           cases kq with
           | zero => exact absurd HA.out (by simp [word_UpperOf.j6])
           | succ kj23 =>
            have H := HA.out
            clear HA
            simp only [word_UpperOf.j6] at H
            by_cases c27 : x54_23 = true
            ·subst c27
             have H1 : (some (wrap32 (a0 - 1))) = some r := by rw [if_pos rfl] at H;exact H
             clear H
             have H := H1
             clear H1
             obtain rfl := Option.some.inj H
             go_wp2
             go_ret
             exact ⟨by first | rfl | (simp;done) | (simp [*];done),by repeat (first | exact Drawn0.refl _ | apply Drawn0.step)⟩
            ·replace c27 := Bool.eq_false_iff.mpr c27
             subst c27
             have H1 : ((word_odd.f a0 331 375).bind fun t196 => (if t196 = true then (some (wrap32 (a0 - 1))) else ((word_odd.f a0 1121 1153).bind fun t197 => (if t197 = true then (some (wrap32 (a0 - 1))) else (some a0))))) = some r := by rw [if_neg (show ¬ (false = true) by decide)] at H;exact H
             clear H
             have H := H1
             clear H1
             replace H := Option.bind_eq_some_iff.mp H
             obtain ⟨t196,A280,H⟩ := H
             replace H : (if t196 = true then (some (wrap32 (a0 - 1))) else ((word_odd.f a0 1121 1153).bind fun t197 => (if t197 = true then (some (wrap32 (a0 - 1))) else (some a0)))) = some r := H
             have A28 := Aside0.mk A280
             clear A280
             by_cases c29 : t196 = true
             ·subst c29
              have H1 : (some (wrap32 (a0 - 1))) = some r := by rw [if_pos rfl] at H;exact H
              clear H
              have H := H1
              clear H1
              obtain rfl := Option.some.inj H
              go_wp2_with (first | ((with_reducible refine gate_callee (f := 42) rfl ?_);refine goesL_ (some 62) rfl rfl Tryd.func42 (by kernel_rfl) rfl #[.int .i32 a0,.int .i32 331,.int .i32 375] rfl au1 ?_;(with_reducible refine (word_odd.calls a0 331 375 true _ A28.out).mono ?_);rintro e w' ⟨rfl,⟨nd,rfl⟩⟩;refine ⟨_,rfl,?_⟩))
              go_ret
              exact ⟨by first | rfl | (simp;done) | (simp [*];done),by repeat (first | exact Drawn0.refl _ | apply Drawn0.step)⟩
             ·replace c29 := Bool.eq_false_iff.mpr c29
              subst c29
              have H1 : ((word_odd.f a0 1121 1153).bind fun t197 => (if t197 = true then (some (wrap32 (a0 - 1))) else (some a0))) = some r := by rw [if_neg (show ¬ (false = true) by decide)] at H;exact H
              clear H
              have H := H1
              clear H1
              replace H := Option.bind_eq_some_iff.mp H
              obtain ⟨t197,A300,H⟩ := H
              replace H : (if t197 = true then (some (wrap32 (a0 - 1))) else (some a0)) = some r := H
              have A30 := Aside0.mk A300
              clear A300
              by_cases c31 : t197 = true
              ·subst c31
               have H1 : (some (wrap32 (a0 - 1))) = some r := by rw [if_pos rfl] at H;exact H
               clear H
               have H := H1
               clear H1
               obtain rfl := Option.some.inj H
               go_wp2_with (first | ((with_reducible refine gate_callee (f := 42) rfl ?_);refine goesL_ (some 62) rfl rfl Tryd.func42 (by kernel_rfl) rfl #[.int .i32 a0,.int .i32 331,.int .i32 375] rfl au1 ?_;(with_reducible refine (word_odd.calls a0 331 375 false _ A28.out).mono ?_);rintro e w' ⟨rfl,⟨nd,rfl⟩⟩;refine ⟨_,rfl,?_⟩) | ((with_reducible refine gate_callee (f := 42) rfl ?_);refine goesL_ (some 64) rfl rfl Tryd.func42 (by kernel_rfl) rfl #[.int .i32 a0,.int .i32 1121,.int .i32 1153] rfl au1 ?_;(with_reducible refine (word_odd.calls a0 1121 1153 true _ A30.out).mono ?_);rintro e w' ⟨rfl,⟨nd,rfl⟩⟩;refine ⟨_,rfl,?_⟩))
               go_ret
               exact ⟨by first | rfl | (simp;done) | (simp [*];done),by repeat (first | exact Drawn0.refl _ | apply Drawn0.step)⟩
              ·replace c31 := Bool.eq_false_iff.mpr c31
               subst c31
               have H1 : (some a0) = some r := by rw [if_neg (show ¬ (false = true) by decide)] at H;exact H
               clear H
               have H := H1
               clear H1
               obtain rfl := Option.some.inj H
               go_wp2_with (first | ((with_reducible refine gate_callee (f := 42) rfl ?_);refine goesL_ (some 62) rfl rfl Tryd.func42 (by kernel_rfl) rfl #[.int .i32 a0,.int .i32 331,.int .i32 375] rfl au1 ?_;(with_reducible refine (word_odd.calls a0 331 375 false _ A28.out).mono ?_);rintro e w' ⟨rfl,⟨nd,rfl⟩⟩;refine ⟨_,rfl,?_⟩) | ((with_reducible refine gate_callee (f := 42) rfl ?_);refine goesL_ (some 64) rfl rfl Tryd.func42 (by kernel_rfl) rfl #[.int .i32 a0,.int .i32 1121,.int .i32 1153] rfl au1 ?_;(with_reducible refine (word_odd.calls a0 1121 1153 false _ A30.out).mono ?_);rintro e w' ⟨rfl,⟨nd,rfl⟩⟩;refine ⟨_,rfl,?_⟩))
               go_ret
               exact ⟨by first | rfl | (simp;done) | (simp [*];done),by repeat (first | exact Drawn0.refl _ | apply Drawn0.step)⟩
end Go.Proofs.YtkficbgnjpekaaaDoor.U
end
section
namespace Go.Proofs.YtkficbgnjpekaaaDoor.U
open Go.RowKit Go.Shelf Go.Proofs.YtkficbgnjpekaaaDoor.Mu Go.Proofs.YtkficbgnjpekaaaDoor.Pu Go.Proofs.YtkficbgnjpekaaaDoorW.PrintWords Go.Proofs.YtkficbgnjpekaaaDoorW.PrintLast Go.Proofs.YtkficbgnjpekaaaDoorW.PrintMore
set_option linter.unusedVariables false
set_option linter.unusedSimpArgs false
def oddB (c a b : Int) : Bool := decide (a ≤ c ∧ c ≤ b ∧ c % 2 = 1)
theorem odd_ans (c a b : Int) (h : 0 ≤ a) : word_odd.f c a b = some (oddB c a b) := by
 unfold word_odd.f oddB
 by_cases h1 : a ≤ c
 ·rw [if_pos h1]
  by_cases h2 : c ≤ b
  ·rw [if_pos h2,Int.tmod_eq_emod_of_nonneg (by omega)]
   congr 1
   rw [Bool.eq_iff_iff]
   simp [h1,h2]
  ·rw [if_neg h2];simp [h2]
 ·rw [if_neg h1];simp [h1]
/-- one below,two alphabets of odd small letters -/
def low1 (c : Int) (b : Bool) : Int := if b = true then c - 1 else if oddB c 331 375 = true then c - 1 else if oddB c 1121 1153 = true then c - 1 else c
def low2 (c : Int) (b : Bool) : Int := if b = true then c - 80 else if c = 255 then 376 else low1 c (decide (c ≠ 305) && oddB c 257 311)
def low3 (c : Int) (b : Bool) : Int := if b = true then c - 32 else low2 c (decide (1104 ≤ c ∧ c ≤ 1119))
def runB (c : Int) : Bool := decide ((97 ≤ c ∧ c ≤ 122) ∨ (224 ≤ c ∧ c ≤ 246) ∨ (248 ≤ c ∧ c ≤ 254) ∨ (945 ≤ c ∧ c ≤ 961) ∨ (963 ≤ c ∧ c ≤ 969) ∨ (1072 ≤ c ∧ c ≤ 1103))
/-- The large letter of a small one. -/
def upC (c : Int) : Int := low3 c (runB c)
theorem up_j6 (k : Nat) (c : Int) (b : Bool) (hb : b = true → 0 ≤ c ∧ c ≤ 2000) : word_UpperOf.j6 (k + 1) c b = some (low1 c b) := by
 rw [word_UpperOf.j6.eq_2]
 unfold low1
 split
 ·rename_i h;have := hb h;rw [w32 (by omega) (by omega)]
 ·rw [odd_ans _ _ _ (by omega),Option.bind_some]
  split
  ·rename_i h;unfold oddB at h;have := of_decide_eq_true h;rw [w32 (by omega) (by omega)]
  ·rw [odd_ans _ _ _ (by omega),Option.bind_some]
   split
   ·rename_i h;unfold oddB at h;have := of_decide_eq_true h;rw [w32 (by omega) (by omega)]
   ·rfl
theorem up_j5 (k : Nat) (c : Int) (b : Bool) (hb : b = true → 0 ≤ c ∧ c ≤ 2000) : word_UpperOf.j5 (k + 2) c b = some (low2 c b) := by
 rw [word_UpperOf.j5.eq_2]
 unfold low2
 split
 ·rename_i h;have := hb h;rw [w32 (by omega) (by omega)]
 ·split
  ·rfl
  ·split
   ·rename_i h
    rw [up_j6 k c false (by simp),show (decide (c ≠ 305) && oddB c 257 311) = false by simp [h]]
   ·rename_i h
    rw [odd_ans _ _ _ (by omega),Option.bind_some,up_j6 k c _ (fun h2 => by unfold oddB at h2;have := of_decide_eq_true h2;omega),show (decide (c ≠ 305) && oddB c 257 311) = oddB c 257 311 by simp [h]]
theorem up_j4 (k : Nat) (c : Int) (b : Bool) (hb : b = true → 0 ≤ c ∧ c ≤ 2000) : word_UpperOf.j4 (k + 3) c b = some (low3 c b) := by
 rw [word_UpperOf.j4.eq_2]
 unfold low3
 split
 ·rename_i h;have := hb h;rw [w32 (by omega) (by omega)]
 ·split
  ·rename_i h
   rw [up_j5 (k + 0) c _ (fun h2 => by have := of_decide_eq_true h2;omega)]
   congr 2
   rw [Bool.eq_iff_iff];simp;omega
  ·rename_i h
   rw [up_j5 (k + 0) c false (by simp)]
   congr 2
   symm;rw [decide_eq_false_iff_not];omega
theorem up_at (k : Nat) (c : Int) (b : Bool) (h : b = runB c) : word_UpperOf.j4 (k + 3) c b = some (upC c) := by
 rw [up_j4 k c b (fun h2 => by rw [h] at h2;unfold runB at h2;have := of_decide_eq_true h2;omega),h];rfl
theorem run_of {c : Int} {b : Bool} (h : b = true ↔ ((97 ≤ c ∧ c ≤ 122) ∨ (224 ≤ c ∧ c ≤ 246) ∨ (248 ≤ c ∧ c ≤ 254) ∨ (945 ≤ c ∧ c ≤ 961) ∨ (963 ≤ c ∧ c ≤ 969) ∨ (1072 ≤ c ∧ c ≤ 1103))) : b = runB c := by
 rw [Bool.eq_iff_iff,h];unfold runB;rw [decide_eq_true_iff]
theorem upper_ans (k : Nat) (c : Int) : word_UpperOf.f (k + 7) c = some (upC c) := by
 have e3 : ∀ b : Bool,(b = true → runB c = true) → (b = false → c < 945 ∨ 961 < c) → (b = false → ¬ (97 ≤ c ∧ c ≤ 122) ∧ ¬ (224 ≤ c ∧ c ≤ 246) ∧ ¬ (248 ≤ c ∧ c ≤ 254)) → word_UpperOf.j3 (k + 4) c b = some (upC c) := by
  intro b h1 h2 h3
  rw [word_UpperOf.j3.eq_2]
  split
  ·rename_i h;exact up_at k c b (by rw [h,h1 h])
  ·rename_i h
   have h := eq_false_of_ne_true h
   have h2 := h2 h;have h3 := h3 h
   repeat' split
   all_goals exact up_at k c _ (run_of (by simp;omega))
 have e2 : ∀ b : Bool,(b = true → runB c = true) → (b = false → ¬ (97 ≤ c ∧ c ≤ 122) ∧ ¬ (224 ≤ c ∧ c ≤ 246) ∧ ¬ (248 ≤ c ∧ c ≤ 254)) → word_UpperOf.j2 (k + 5) c b = some (upC c) := by
  intro b h1 h3
  rw [word_UpperOf.j2.eq_2]
  split
  ·rename_i h;exact up_at (k + 1) c b (by rw [h,h1 h])
  ·rename_i h
   have h3 := h3 (eq_false_of_ne_true h)
   split
   ·exact e3 _ (fun h => by have := of_decide_eq_true h;unfold runB;rw [decide_eq_true_iff];omega) (fun h => by have := of_decide_eq_false h;omega) (fun _ => h3)
   ·exact e3 _ (by simp) (fun _ => by omega) (fun _ => h3)
 have e1 : ∀ b : Bool,(b = true → runB c = true) → (b = false → ¬ (97 ≤ c ∧ c ≤ 122) ∧ ¬ (224 ≤ c ∧ c ≤ 246)) → word_UpperOf.j1 (k + 6) c b = some (upC c) := by
  intro b h1 h3
  rw [word_UpperOf.j1.eq_2]
  split
  ·rename_i h;exact up_at (k + 2) c b (by rw [h,h1 h])
  ·rename_i h
   have h3 := h3 (eq_false_of_ne_true h)
   split
   ·exact e2 _ (fun h => by have := of_decide_eq_true h;unfold runB;rw [decide_eq_true_iff];omega) (fun h => by have := of_decide_eq_false h;omega)
   ·exact e2 _ (by simp) (fun _ => by omega)
 have e0 : ∀ b : Bool,(b = true → runB c = true) → (b = false → ¬ (97 ≤ c ∧ c ≤ 122)) → word_UpperOf.j0 (k + 7) c b = some (upC c) := by
  intro b h1 h3
  rw [word_UpperOf.j0.eq_2]
  split
  ·rename_i h;exact up_at (k + 3) c b (by rw [h,h1 h])
  ·rename_i h
   have h3 := h3 (eq_false_of_ne_true h)
   split
   ·exact e1 _ (fun h => by have := of_decide_eq_true h;unfold runB;rw [decide_eq_true_iff];omega) (fun h => by have := of_decide_eq_false h;omega)
   ·exact e1 _ (by simp) (fun _ => by omega)
 unfold word_UpperOf.f
 split
 ·exact e0 _ (fun h => by have := of_decide_eq_true h;unfold runB;rw [decide_eq_true_iff];omega) (fun h => by have := of_decide_eq_false h;omega)
 ·exact e0 _ (by simp) (fun _ => by omega)
theorem upper7 (c : Int) : word_UpperOf.f 7 c = some (upC c) := upper_ans 0 c
attribute [local irreducible] upC
/-- The small letter of a large one. -/
def lowTry (c f : Int) (r : Int) : Int := if 0 < c ∧ c < 1280 ∧ upC (c + f) = c then c + f else r
def lowC (c : Int) : Int := if c = 376 then 255 else lowTry c 1 (lowTry c 32 (lowTry c 80 c))
def word_LowerOf.f (a0 : Int) : Option Int := some (lowC a0)
set_option maxRecDepth 100000 in
set_option maxHeartbeats 4000000 in
theorem word_LowerOf.calls (a0 : Int) (r : Int) (w : World) (h : word_LowerOf.f a0 = some r) :
  Calls Tryd.prog 17 #[.int .i32 a0] w fun e w' => e = .returned (.int .i32 r) ∧ Below w.heap.size w w' := by
 obtain rfl := Option.some.inj h
 by_cases h0 : a0 = 376
 ·have e : lowC a0 = 255 := by unfold lowC;rw [if_pos h0]
  rw [e,h0]
  go_enter Tryd.func17,Tryd.ntmps17
  go_wp2
  go_ret
  exact ⟨rfl,Below.refl _ _⟩
 ·have e : lowC a0 = lowTry a0 1 (lowTry a0 32 (lowTry a0 80 a0)) := by unfold lowC;rw [if_neg h0]
  rw [e]
  obtain ⟨G,hG⟩ : ∃ G,lowTry a0 1 (lowTry a0 32 (lowTry a0 80 a0)) = G := ⟨_,rfl⟩
  rw [hG]
  have hx0 : ∀ (x y z : Value) (W : World),(Instr.index 56 (.agg #[x,y,z]) (.int .i64 0)).run Tryd.prog W = .ok x W := fun x y z W => by kernel_rfl
  have hx1 : ∀ (x y z : Value) (W : World),(Instr.index 56 (.agg #[x,y,z]) (.int .i64 1)).run Tryd.prog W = .ok y W := fun x y z W => by kernel_rfl
  have hx2 : ∀ (x y z : Value) (W : World),(Instr.index 56 (.agg #[x,y,z]) (.int .i64 2)).run Tryd.prog W = .ok z W := fun x y z W => by kernel_rfl
  go_enter Tryd.func17,Tryd.ntmps17
  go_wp2
  rw [show (a0 == 376) = false by simp [h0]]
  go_loopw [9] (fun v wr => ∃ i : Int,v = .int .i64 i ∧ Hid ((i = 0 ∧ lowTry a0 1 (lowTry a0 32 (lowTry a0 80 a0)) = G) ∨ (i = 1 ∧ lowTry a0 32 (lowTry a0 80 a0) = G) ∨ (i = 2 ∧ lowTry a0 80 a0 = G) ∨ (i = 3 ∧ a0 = G)) ∧ Below w.heap.size w wr)
   (fun v _ => (3 - intOf v).toNat)
  case atStart => exact ⟨0,rfl,Lib.hid (.inl ⟨rfl,hG⟩),Below.refl _ _⟩
  case round =>
   obtain ⟨i,rfl,hI,hb⟩ := hrel
   rcases hI.out with ⟨rfl,hi⟩ | ⟨rfl,hi⟩ | ⟨rfl,hi⟩ | ⟨rfl,hi⟩
   ·clear hI
    by_cases c1 : 0 < a0
    ·by_cases c2 : a0 < 1280
     ·have hw : IntKind.i32.wrap (a0 + 1) = a0 + 1 := (i32_w _).trans (by unfold wrap32;omega)
      by_cases c3 : upC (a0 + 1) = a0
      ·have hn : a0 + 1 = G := by rw [← hi];unfold lowTry;rw [if_pos ⟨c1,c2,c3⟩]
       subst hn
       clear hi hG
       go_wp2_with (go_at_call 15;refine (word_UpperOf.calls 7 (a0 + 1) (upC (a0 + 1)) _ (upper7 (a0 + 1))).mono ?_;rintro e w1 ⟨rfl,q,rfl⟩)
       go_ret
       exact ⟨rfl,pw_below_drewN hb _⟩
      ·have hn : Hid ((lowTry a0 32 (lowTry a0 80 a0)) = G) := Lib.hid (by rw [← hi];conv => rhs;rw [lowTry.eq_def];rw [if_neg (fun h => c3 h.2.2)])
       clear hi hG
       go_wp2_with (go_at_call 15;refine (word_UpperOf.calls 7 (a0 + 1) (upC (a0 + 1)) _ (upper7 (a0 + 1))).mono ?_;rintro e w1 ⟨rfl,q,rfl⟩)
       go_roundw
       case rel => exact ⟨1,rfl,Lib.hid ((.inr (.inl ⟨rfl,hn.out⟩))),pw_below_drewN hb _⟩
       case measure => simp [intOf]
     ·have hn : Hid ((lowTry a0 32 (lowTry a0 80 a0)) = G) := Lib.hid (by rw [← hi];conv => rhs;rw [lowTry.eq_def];rw [if_neg (fun h => c2 h.2.1)])
      clear hi hG
      go_wp2_with (fail)
      go_roundw
      case rel => exact ⟨1,rfl,Lib.hid ((.inr (.inl ⟨rfl,hn.out⟩))),hb⟩
      case measure => simp [intOf]
    ·have hn : Hid ((lowTry a0 32 (lowTry a0 80 a0)) = G) := Lib.hid (by rw [← hi];conv => rhs;rw [lowTry.eq_def];rw [if_neg (fun h => c1 h.1)])
     clear hi hG
     go_wp2_with (fail)
     go_roundw
     case rel => exact ⟨1,rfl,Lib.hid ((.inr (.inl ⟨rfl,hn.out⟩))),hb⟩
     case measure => simp [intOf]
   ·clear hI
    by_cases c1 : 0 < a0
    ·by_cases c2 : a0 < 1280
     ·have hw : IntKind.i32.wrap (a0 + 32) = a0 + 32 := (i32_w _).trans (by unfold wrap32;omega)
      by_cases c3 : upC (a0 + 32) = a0
      ·have hn : a0 + 32 = G := by rw [← hi];unfold lowTry;rw [if_pos ⟨c1,c2,c3⟩]
       subst hn
       clear hi hG
       go_wp2_with (go_at_call 15;refine (word_UpperOf.calls 7 (a0 + 32) (upC (a0 + 32)) _ (upper7 (a0 + 32))).mono ?_;rintro e w1 ⟨rfl,q,rfl⟩)
       go_ret
       exact ⟨rfl,pw_below_drewN hb _⟩
      ·have hn : Hid ((lowTry a0 80 a0) = G) := Lib.hid (by rw [← hi];conv => rhs;rw [lowTry.eq_def];rw [if_neg (fun h => c3 h.2.2)])
       clear hi hG
       go_wp2_with (go_at_call 15;refine (word_UpperOf.calls 7 (a0 + 32) (upC (a0 + 32)) _ (upper7 (a0 + 32))).mono ?_;rintro e w1 ⟨rfl,q,rfl⟩)
       go_roundw
       case rel => exact ⟨2,rfl,Lib.hid ((.inr (.inr (.inl ⟨rfl,hn.out⟩)))),pw_below_drewN hb _⟩
       case measure => simp [intOf]
     ·have hn : Hid ((lowTry a0 80 a0) = G) := Lib.hid (by rw [← hi];conv => rhs;rw [lowTry.eq_def];rw [if_neg (fun h => c2 h.2.1)])
      clear hi hG
      go_wp2_with (fail)
      go_roundw
      case rel => exact ⟨2,rfl,Lib.hid ((.inr (.inr (.inl ⟨rfl,hn.out⟩)))),hb⟩
      case measure => simp [intOf]
    ·have hn : Hid ((lowTry a0 80 a0) = G) := Lib.hid (by rw [← hi];conv => rhs;rw [lowTry.eq_def];rw [if_neg (fun h => c1 h.1)])
     clear hi hG
     go_wp2_with (fail)
     go_roundw
     case rel => exact ⟨2,rfl,Lib.hid ((.inr (.inr (.inl ⟨rfl,hn.out⟩)))),hb⟩
     case measure => simp [intOf]
   ·clear hI
    by_cases c1 : 0 < a0
    ·by_cases c2 : a0 < 1280
     ·have hw : IntKind.i32.wrap (a0 + 80) = a0 + 80 := (i32_w _).trans (by unfold wrap32;omega)
      by_cases c3 : upC (a0 + 80) = a0
      ·have hn : a0 + 80 = G := by rw [← hi];unfold lowTry;rw [if_pos ⟨c1,c2,c3⟩]
       subst hn
       clear hi hG
       go_wp2_with (go_at_call 15;refine (word_UpperOf.calls 7 (a0 + 80) (upC (a0 + 80)) _ (upper7 (a0 + 80))).mono ?_;rintro e w1 ⟨rfl,q,rfl⟩)
       go_ret
       exact ⟨rfl,pw_below_drewN hb _⟩
      ·have hn : Hid (a0 = G) := Lib.hid (by rw [← hi];conv => rhs;rw [lowTry.eq_def];rw [if_neg (fun h => c3 h.2.2)])
       clear hi hG
       go_wp2_with (go_at_call 15;refine (word_UpperOf.calls 7 (a0 + 80) (upC (a0 + 80)) _ (upper7 (a0 + 80))).mono ?_;rintro e w1 ⟨rfl,q,rfl⟩)
       go_roundw
       case rel => exact ⟨3,rfl,Lib.hid ((.inr (.inr (.inr ⟨rfl,hn.out⟩)))),pw_below_drewN hb _⟩
       case measure => simp [intOf]
     ·have hn : Hid (a0 = G) := Lib.hid (by rw [← hi];conv => rhs;rw [lowTry.eq_def];rw [if_neg (fun h => c2 h.2.1)])
      clear hi hG
      go_wp2_with (fail)
      go_roundw
      case rel => exact ⟨3,rfl,Lib.hid ((.inr (.inr (.inr ⟨rfl,hn.out⟩)))),hb⟩
      case measure => simp [intOf]
    ·have hn : Hid (a0 = G) := Lib.hid (by rw [← hi];conv => rhs;rw [lowTry.eq_def];rw [if_neg (fun h => c1 h.1)])
     clear hi hG
     go_wp2_with (fail)
     go_roundw
     case rel => exact ⟨3,rfl,Lib.hid ((.inr (.inr (.inr ⟨rfl,hn.out⟩)))),hb⟩
     case measure => simp [intOf]
   ·subst hi
    clear hI hG
    go_wp2
    go_ret
    exact ⟨rfl,hb⟩
end Go.Proofs.YtkficbgnjpekaaaDoor.U
end
section
namespace Go.Proofs.YtkficbgnjpekaaaDoor.Pu
open Go Go.RowKit Go.Proofs.YtkficbgnjpekaaaDoor.Mu Go.Proofs.YtkficbgnjpekaaaDoor.U Go.Proofs.YtkficbgnjpekaaaDoorW.PrintWords Go.Proofs.YtkficbgnjpekaaaDoorW.PrintLast Go.Proofs.YtkficbgnjpekaaaDoorW.PrintMore
section
variable (t : ByteArray) (ht : t.size ≤ 1099511627776)
include ht
omit ht
include ht
end
theorem drop_cons {α : Type} {l t : List α} {b d : α} {i : Nat} (h : l.drop i = b :: t) : i < l.length ∧ l.getD i d = b ∧ l.drop (i + 1) = t := by
 have h1 : i < l.length := by
  rcases Nat.lt_or_ge i l.length with h2 | h2
  ·exact h2
  ·rw [List.drop_eq_nil_of_le h2] at h;cases h
 rw [List.drop_eq_getElem_cons h1] at h
 injection h with h2 h3
 exact ⟨h1,by rw [List.getD_eq_getElem?_getD,List.getElem?_eq_getElem h1];exact h2,h3⟩
theorem drop_nil_le {α : Type} {l : List α} {i : Nat} (h : l.drop i = []) : l.length ≤ i := List.drop_eq_nil_iff.1 h
theorem rd_nat (B : List Int) (i : Nat) : rd B i = B.getD i 0 := by unfold rd;rw [Int.toNat_natCast]
end Go.Proofs.YtkficbgnjpekaaaDoor.Pu
end
section
namespace Go.Proofs.YtkficbgnjpekaaaDoor.Pu
open Go Go.RowKit Go.Proofs.YtkficbgnjpekaaaDoor.Mu Go.Proofs.YtkficbgnjpekaaaDoor.U Go.Proofs.YtkficbgnjpekaaaDoorW.PrintWords Go.Proofs.YtkficbgnjpekaaaDoorW.PrintLast Go.Proofs.YtkficbgnjpekaaaDoorW.PrintMore
theorem bits192 : ∀ m : Fin 32,Go.bits .or .u8 192 ((m.val : Nat) : Int) = 192 + (m.val : Int) := by decide
theorem bits224 : ∀ m : Fin 16,Go.bits .or .u8 224 ((m.val : Nat) : Int) = 224 + (m.val : Int) := by decide
theorem bits240 : ∀ m : Fin 8,Go.bits .or .u8 240 ((m.val : Nat) : Int) = 240 + (m.val : Int) := by decide
theorem or192 {x : Int} (h : 0 ≤ x) (h2 : x < 32) : Go.bits .or .u8 192 x = 192 + x := by
 have := bits192 ⟨x.toNat,by omega⟩
 rwa [show ((x.toNat : Nat) : Int) = x by omega] at this
theorem or224 {x : Int} (h : 0 ≤ x) (h2 : x < 16) : Go.bits .or .u8 224 x = 224 + x := by
 have := bits224 ⟨x.toNat,by omega⟩
 rwa [show ((x.toNat : Nat) : Int) = x by omega] at this
theorem or240 {x : Int} (h : 0 ≤ x) (h2 : x < 8) : Go.bits .or .u8 240 x = 240 + x := by
 have := bits240 ⟨x.toNat,by omega⟩
 rwa [show ((x.toNat : Nat) : Int) = x by omega] at this
def okC (c : Int) : Prop := 0 ≤ c ∧ c ≤ 1114111 ∧ (c < 55296 ∨ 57343 < c)
instance (c : Int) : Decidable (okC c) := by unfold okC;infer_instance
/-- The bytes of a character. -/
def encI (c : Int) : List Int :=
 if c < 128 then [c] else if c < 2048 then [192 + c / 64,128 + c % 64] else if c < 65536 then [224 + c / 4096,128 + c / 64 % 64,128 + c % 64]
 else [240 + c / 262144,128 + c / 4096 % 64,128 + c / 64 % 64,128 + c % 64]
def encO (c : Int) : List Int := if okC c then encI c else []
theorem encI_len (c : Int) : (encI c).length ≤ 4 := by unfold encI;split <;> (try split) <;> (try split) <;> simp
theorem encO_len (c : Int) : (encO c).length ≤ 4 := by unfold encO;split;exact encI_len c;simp
theorem encI_byte (c : Int) (h : okC c) : ∀ x ∈ encI c,0 ≤ x ∧ x < 256 := by
 unfold okC at h
 intro x hx
 unfold encI at hx
 split at hx
 ·simp at hx;omega
 ·split at hx
  ·simp at hx;omega
  ·split at hx
   ·simp at hx;omega
   ·simp at hx;omega
theorem valid_ans (c : Int) : Ev (fun k => utf8_ValidRune.f k c) (decide (okC c)) := by
 unfold utf8_ValidRune.f
 by_cases h0 : 0 ≤ c
 ·refine ev_pos h0 (Ev.step (fun k => utf8_ValidRune.j0.eq_2 ..) ?_)
  by_cases h1 : c < 55296
  ·exact ev_pos (by simpa using h1) (ev_now (by rw [decide_eq_true (show okC c by unfold okC;omega)]))
  ·refine ev_neg (by simpa using h1) ?_
   by_cases h2 : 57343 < c
   ·refine ev_pos h2 ?_
    by_cases h3 : c ≤ 1114111
    ·exact ev_pos h3 (ev_now (by rw [decide_eq_true (show okC c by unfold okC;omega)]))
    ·exact ev_neg h3 (ev_now (by rw [decide_eq_false (show ¬ okC c by unfold okC;omega)]))
   ·exact ev_neg h2 (ev_now (by rw [decide_eq_false (show ¬ okC c by unfold okC;omega)]))
 ·exact ev_neg h0 (Ev.step (fun k => utf8_ValidRune.j0.eq_2 ..) (ev_neg (by simp) (ev_neg (by omega) (ev_now (by rw [decide_eq_false (show ¬ okC c by unfold okC;omega)])))))
theorem append_ans (l : List Int) (hl : l.length ≤ 17592186044416) (c : Int) (h : okC c) : Ev (fun k => utf8_AppendRune.f k l c) (l ++ encI c) := by
 unfold okC at h
 have e : c % 4294967296 = c := by omega
 unfold utf8_AppendRune.f
 by_cases h1 : c < 128
 ·refine ev_pos (by omega) (ev_pos (by omega) (ev_now ?_))
  unfold encI;rw [if_pos h1,show c % 256 = c by omega]
 refine ev_neg (by omega) (Ev.bind (f := fun _ t => some t) (a := l ++ encI c) ?_ (Ev.now _))
 unfold utf8_appendRuneNonASCII.f
 rw [e]
 by_cases h2 : c < 2048
 ·refine ev_pos (by omega) (ev_some rfl (ev_pos (by simp;omega) (ev_now ?_)))
  unfold encI;rw [if_neg h1,if_pos h2,or192 (by omega) (by omega),show c / 64 % 256 = c / 64 by omega]
 refine ev_neg (by omega) ?_
 have hj3 : c < 65536 → ∀ b,b = true → Ev (fun k => utf8_appendRuneNonASCII.j0 k l c c b) (l ++ encI c) := by
  intro h3 b hb
  refine Ev.step (fun k => utf8_appendRuneNonASCII.j0.eq_2 ..) (ev_pos hb (ev_some rfl (ev_pos (by simp;omega) (ev_now ?_))))
  unfold encI;rw [if_neg h1,if_neg h2,if_pos h3,or224 (by omega) (by omega),show c / 4096 % 256 = c / 4096 by omega]
 by_cases h3 : c < 55296
 ·exact ev_pos h3 (hj3 (by omega) _ (by simpa using h3))
 refine ev_neg h3 (ev_pos (by omega) ?_)
 by_cases h4 : c < 65536
 ·exact hj3 h4 _ (by rw [decide_eq_true_eq];omega)
 ·refine Ev.step (fun k => utf8_appendRuneNonASCII.j0.eq_2 ..) (ev_neg (by rw [decide_eq_true_eq];omega) (ev_pos (by omega) (ev_pos (by omega) (ev_some rfl (ev_pos (by simp;omega) (ev_now ?_))))))
  unfold encI;rw [if_neg h1,if_neg h2,if_neg h4,or240 (by omega) (by omega),show c / 262144 % 256 = c / 262144 by omega]
theorem encode_loop (L : List Int) (hL : L.length ≤ 1099511627776) : ∀ (l : List Int) (i : Nat) (o : List Int),L.drop i = l → o.length + 4 * l.length ≤ 8796093022208 → Ev (fun k => unit_Encode.l0 k o L (L.length : Int) i) (strOfNums (o ++ l.flatMap encO)) := by
 intro l
 induction l with
 | nil => intro i o h _;have := drop_nil_le h;exact Ev.step (fun k => unit_Encode.l0.eq_2 ..) (ev_neg (by omega) (ev_now (by simp)))
 | cons c l ih =>
  intro i o h ho
  rw [List.length_cons] at ho
  obtain ⟨hi,hg,hd⟩ := drop_cons (d := 0) h
  have hv := valid_ans c
  have := encO_len c
  have hgo := ih (i + 1) (o ++ encO c) hd (by rw [List.length_append];omega)
  rw [List.append_assoc] at hgo
  rw [List.flatMap_cons]
  refine Ev.step (fun k => unit_Encode.l0.eq_2 ..) (ev_pos (by omega) (ev_pos (by omega) (ev_pos (by omega) ?_)))
  rw [rd_nat,hg,w64 (by omega) (by omega)]
  refine Ev.bind hv ?_
  by_cases hc : okC c
  ·refine ev_pos (by simpa using hc) (Ev.bind (append_ans o (by omega) c hc) ?_)
   rw [show encO c = encI c by unfold encO;rw [if_pos hc]] at hgo ⊢
   exact hgo
  ·refine ev_neg (by simpa using hc) ?_
   rw [show encO c = [] by unfold encO;rw [if_neg hc]] at hgo ⊢
   rw [List.nil_append] at hgo ⊢
   rw [List.append_nil] at hgo
   exact hgo
theorem encode_ans (l : List Int) (hl : l.length ≤ 1099511627776) : Ev (fun k => unit_Encode.f k l) (strOfNums (l.flatMap encO)) := encode_loop l hl l 0 [] rfl (by simp;omega)
theorem bytesOf_str (l : List Int) (h : ∀ x ∈ l,0 ≤ x ∧ x < 256) : bytesOf (strOfNums l) = l := by
 unfold bytesOf
 rw [strOfNums_data,List.map_map]
 conv => rhs;rw [← List.map_id l]
 apply List.map_congr_left
 intro x hx
 obtain ⟨h0,h1⟩ := h x hx
 show (((UInt8.ofNat x.toNat).toNat : Nat) : Int) = x
 rw [UInt8.toNat_ofNat']
 omega
end Go.Proofs.YtkficbgnjpekaaaDoor.Pu
end
section
namespace Go.Proofs.YtkficbgnjpekaaaDoor.U
open Go.RowKit Go.Shelf Go.Proofs.YtkficbgnjpekaaaDoor.Mu Go.Proofs.YtkficbgnjpekaaaDoor.Pu Go.Proofs.YtkficbgnjpekaaaDoor.Rg Go.Proofs.YtkficbgnjpekaaaDoorW.PrintWords Go.Proofs.YtkficbgnjpekaaaDoorW.PrintLast Go.Proofs.YtkficbgnjpekaaaDoorW.PrintMore
set_option linter.unusedVariables false
set_option linter.unusedSimpArgs false
/-- What a unit becomes. -/
def eachU (s : ByteArray) (F : Int → Int → Int) (i : Nat) : List Int := if uC s i < 0 then bytesOf (s.extract i (i + uN s i)) else encO (F i (uC s i))
def eachL (s : ByteArray) (F : Int → Int → Int) : Nat → Nat → List Int
 | 0,_ => []
 | k + 1,i => if i < s.size then eachU s F i ++ eachL s F k (i + uN s i) else []
theorem encO_byte (c : Int) : ∀ x ∈ encO c,0 ≤ x ∧ x < 256 := by
 unfold encO
 split
 ·rename_i h;exact encI_byte c h
 ·intro x hx;cases hx
theorem eachU_len (s : ByteArray) (F : Int → Int → Int) (i : Nat) (hi : i < s.size) : (eachU s F i).length ≤ 4 * uN s i := by
 have h1 := uN_pos s i
 unfold eachU
 split
 ·rw [bytesOf_length,size_extract _ _ _ (uN_le s i hi)];omega
 ·have := encO_len (F i (uC s i));omega
theorem units_kept {W w9 : World} {b n : Nat} {ok : Nat → Prop} {v5 vu : Value} {xs : List Value} {us : List S42} (hown : W.ownsRow b 5 1 v5 n xs) (hR : Kd.R k42 42 W b ok vu us) (hg : W.grownBy w9 v5.ownBlock) : Kd.R k42 42 w9 b ok vu us := by
 obtain ⟨inner,ho⟩ := Kd.R_own hR
 refine Kd.R_grown2 hR rfl hg (fun k e => ?_)
 rcases own_type_ne hown ho (by decide) with h | h
 ·rw [h] at e;cases e
 ·rw [← e];exact h
theorem unit_box_kept {W w9 : World} {b n B : Nat} {v5 : Value} {xs : List Value} {c m : Int} (hown : W.ownsRow b 5 1 v5 n xs) (hB : W.heap[B]? = some (.cells #[.int .i32 c,.int .i64 m] 42 (0,0))) (hg : W.grownBy w9 v5.ownBlock) : w9.cell? ⟨B,1,none⟩ = some (.int .i64 m) := by
 have hne := own_ne hown hB (by decide)
 have h2 := (hg.block B (Array.getElem?_eq_some_iff.1 hB).1 hne).trans hB
 simp [World.cell?,h2]
theorem lit_one (W : World) (x : Int) : Kd.C (Kd.int .i32) (W.alloc (.cells #[.int .i32 x] 21)) (some ⟨W.heap.size,0,none⟩) [x].length [x] := by
 have ho : (W.alloc (.cells #[.int .i32 x] 21)).ownsRow W.heap.size 21 1 (.slice (some ⟨W.heap.size,0,none⟩) 1 1) [x].length (nums .i32 [x]) := World.ownsRow_lit W #[.int .i32 x] 1 (Nat.le_refl _) (by decide) rfl
 have hR : Kd.R (Kd.int .i32) 21 (W.alloc (.cells #[.int .i32 x] 21)) W.heap.size (fun _ => True) (.slice (some ⟨W.heap.size,0,none⟩) 1 1) [x] := Kd.R_of_own ho (fun _ _ => trivial)
 exact (Kd.R_reads' hR).2.2
theorem eachL_end (s : ByteArray) (F : Int → Int → Int) (k i : Nat) (h : ¬ i < s.size) : eachL s F k i = [] := by
 cases k with
 | zero => rfl
 | succ k => rw [eachL,if_neg h]
/-- One round more: the unit that stands there. -/
theorem each_round {eachT' : List Int} (s : ByteArray) (F : Int → Int → Int) (k i j : Nat) (acc : List Int) (hk : s.size ≤ i + k) (hlt : j < (unitsL s).length) (hU : (unitsL s).drop j = (walkL s k i).map (·.2)) (hI : eachT' = acc ++ eachL s F k i) :
  ∃ k',k = k' + 1 ∧ i < s.size ∧ rd_T42 (unitsL s) (j : Int) = uAt s i ∧ Hid ((unitsL s).drop (j + 1) = (walkL s k' (i + uN s i)).map (·.2)) ∧ Hid (eachT' = (acc ++ eachU s F i) ++ eachL s F k' (i + uN s i)) := by
 cases k with
 | zero => rw [walkL] at hU;have h2 := congrArg List.length hU;rw [List.length_drop] at h2;simp at h2;omega
 | succ k =>
  rw [walkL] at hU
  by_cases hi : i < s.size
  ·rw [if_pos hi,List.map_cons] at hU
   rw [eachL,if_pos hi,← List.append_assoc] at hI
   refine ⟨k,rfl,hi,?_,Lib.hid ?_,Lib.hid hI⟩
   ·unfold rd_T42
    rw [Int.toNat_natCast,List.getD_eq_getElem?_getD,← List.head?_drop,hU]
    rfl
   ·rw [List.drop_add_one_eq_tail_drop,hU];rfl
  ·rw [if_neg hi] at hU;have h2 := congrArg List.length hU;rw [List.length_drop] at h2;simp at h2;omega
/-- The bytes of the changed text. -/
def eachT (s : ByteArray) (F : Int → Int → Int) : List Int := eachL s F s.size 0
set_option maxRecDepth 100000 in
set_option maxHeartbeats 4000000 in
theorem each_any (s : ByteArray) (g : Nat) (lb : Array Value) (F : Int → Int → Int) (w : World) (hs : s.size ≤ 1099511627776) (hT : Lib.Utf8Tabs 0 1 w)
  (eg : ∀ args w,(callFunc g args).run Tryd.prog w = .ok (.enter g args) w)
  (hone : ∀ (W : World) (at_ : Nat) (c : Int),at_ < s.size → Below w.heap.size w W → Calls Tryd.prog g (#[.int .i64 (at_ : Int),.int .i32 c] ++ lb) W fun e w' => e = .returned (.int .i32 (F (at_ : Int) c)) ∧ Below W.heap.size W w') :
  Calls Tryd.prog 54 #[.string s,.func (.func g) #[] lb] w fun e w' => e = .returned (.string (strOfNums (eachT s F))) ∧ Below w.heap.size w w' := by
 have hu : unit_Units.f s = some (unitsL s) := by unfold unit_Units.f;rw [if_pos (by omega)]
 obtain ⟨i5,hi5,hz0,hz1,hz2⟩ := info_parts info5
 obtain ⟨w1,hmk,hown0,hg0⟩ := run_make_own (P := Tryd.prog) w w.heap.size 66 5 i5 (.int .u8 0) 1 Tryd.underlying66 hi5 hz0 hz1 .i64 .i64 s.size (by rw [hz2];omega) (by unfold maxLen;omega) (Nat.le_refl _)
 have hb1 : Below w.heap.size w w1 := (Below.refl _ w).grown hg0 (Nat.le_refl _) (fun k e => by cases e)
 have hT1 := tabs_below hT hb1
 go_enter Tryd.func54,Tryd.ntmps54
 go_wp2_with (go_at_call 74;refine (unit_Units.calls s (unitsL s) w1 hT1 hu).mono ?_;rintro e w2 ⟨v0,rfl,hR,hb2⟩;obtain ⟨A,c,rfl,hcl,hC⟩ := Kd.R_reads hR)
 have hbw2 : Below w.heap.size w w2 := hb1.trans (hb2.mono hb1.size)
 have hn : (unitsL s).length ≤ s.size := by rw [unitsL_len];exact walkL_length s s.size 0
 have hown2 : w2.ownsRow w.heap.size 5 1 (.slice (some ⟨w.heap.size,0,none⟩) 0 s.size) ([] : List Int).length (nums .u8 []) := pw_own_below hown0 hb2
 have hR2 := Kd.R_lower hR hb1.size
 clear hR hown0 hmk hg0 hb1 hb2 hT1 hC hu hi5 hz0 hz1 hz2
 have hI0 : Hid (eachT s F = [] ++ eachL s F s.size 0) := Lib.hid rfl
 have hU0 : Hid ((unitsL s).drop 0 = (walkL s s.size 0).map (·.2)) := Lib.hid rfl
 go_loopw [5,6,15] (fun v5 v6 v15 wr => ∃ (k i j : Nat) (acc : List Int),v6 = .int .i64 i ∧ v15 = .int .i64 j ∧ i ≤ s.size ∧ s.size ≤ i + k ∧ j ≤ (unitsL s).length ∧ Hid ((unitsL s).drop j = (walkL s k i).map (·.2)) ∧ Hid (eachT s F = acc ++ eachL s F k i) ∧ acc.length ≤ 4 * i ∧
   wr.ownsRow w.heap.size 5 1 v5 acc.length (nums .u8 acc) ∧ Kd.R k42 42 wr w.heap.size (fun _ => True) (.slice A (unitsL s).length c) (unitsL s) ∧ Below w.heap.size w wr)
  (fun _ _ v _ => (unitsL s).length - (intOf v).toNat)
 case atStart => exact ⟨s.size,0,0,[],rfl,rfl,Nat.zero_le _,by omega,Nat.zero_le _,hU0,hI0,Nat.zero_le _,hown2,hR2,hbw2⟩
 case round =>
  obtain ⟨k,i,j,acc,rfl,rfl,hi,hk,hj,hU,hI,hacc,hown,hR,hb⟩ := hrel
  clear hI0 hU0 hown2 hR2 hbw2
  by_cases hlt : j < (unitsL s).length
  ·obtain ⟨k,rfl,hiS,hrd,hU2,hI2⟩ := each_round s F k i j acc hk hlt hU.out hI.out
   obtain ⟨A',c',e',_,hC⟩ := Kd.R_reads hR
   obtain ⟨rfl,_,rfl⟩ : A = A' ∧ (unitsL s).length = (unitsL s).length ∧ c = c' := by injection e' with e1 e2 e3;exact ⟨e1,e2,e3⟩
   obtain ⟨ad,rfl,ca0,ca1⟩ := at_T42 hC (j : Int) (by omega) (by omega)
   rw [hrd] at ca0 ca1
   obtain ⟨ch,hch⟩ : ∃ x,uC s i = x := ⟨_,rfl⟩
   obtain ⟨m,hm⟩ : ∃ x,uN s i = x := ⟨_,rfl⟩
   have hm1 : 1 ≤ m := hm ▸ uN_pos s i
   have hm2 : i + m ≤ s.size := hm ▸ uN_le s i hiS
   have hlen := eachU_len s F i hiS
   have e1 : (uAt s i).f0 = ch := hch
   have e2 : (uAt s i).f1 = (m : Int) := by rw [← hm];rfl
   rw [e1] at ca0
   rw [e2] at ca1
   rw [hm] at hU2 hI2 hlen
   simp only [Int.toNat_natCast] at ca0 ca1
   clear hU hI hrd e1 e2
   have hjlt : (j : Int) < ((unitsL s).length : Int) := by omega
   have hu42 := Tryd.underlying42
   have hw1 : IntKind.i64.wrap ((i : Int) + (m : Int)) = ((i + m : Nat) : Int) := (i64_w _).trans (by unfold wrap64;omega)
   have hw2 : IntKind.i64.wrap ((j : Int) + 1) = ((j + 1 : Nat) : Int) := (i64_w _).trans (by unfold wrap64;omega)
   obtain ⟨U,hUe⟩ : ∃ U,eachU s F i = U := ⟨_,rfl⟩
   have hB0 : Below w.heap.size w (wr.alloc (.cells #[.int .i32 ch,.int .i64 m] 42)) := hb.alloc hb.size _
   have hbx : (wr.alloc (.cells #[.int .i32 ch,.int .i64 m] 42)).heap[wr.heap.size]? = some (.cells #[.int .i32 ch,.int .i64 m] 42 (0,0)) := World.alloc_heap_new _ _
   have hownA := own_alloc hown (.cells #[.int .i32 ch,.int .i64 m] 42)
   have hRA := Kd.R_alloc hR (.cells #[.int .i32 ch,.int .i64 m] 42)
   by_cases hneg : ch < 0
   ·have hUb : Hid (bytesOf (s.extract i (i + m)) = U) := Lib.hid (by rw [← hUe];unfold eachU;rw [hch,if_pos hneg,hm])
    rw [hUe] at hI2 hlen
    have hsz : (s.extract i (i + m)).size = m := by rw [size_extract _ _ _ hm2];omega
    clear hUe hch hm
    go_wp2_with (at_builtin;refine print_append_str (w0 := w) w.heap.size rfl (.tmp 22) _ 66 9 5 rfl Tryd.underlying66 Tryd.underlying9 info5 u5 acc (s.extract i (i + m)) rfl rfl hownA hB0 hB0.size (by rw [hsz];omega) ?_;rw [hUb.out];intro v9 w9 ho9 hb9 hg9;have hR9 := units_kept hownA hRA hg9;have hc9 := unit_box_kept hownA hbx hg9)
    go_roundw
    case rel => exact ⟨k,i + m,j + 1,acc ++ U,by go_num,by go_num,hm2,by omega,by omega,hU2,hI2,by rw [List.length_append];omega,ho9,hR9,hb9⟩
    case measure => (try clear hw1);(try clear hw2);simp [intOf];omega
   ·have hUb : Hid (encO (F i ch) = U) := Lib.hid (by rw [← hUe];unfold eachU;rw [hch,if_neg hneg])
    rw [hUe] at hI2 hlen
    clear hUe hch hm
    have hone1 := hone _ i ch hiS hB0
    obtain ⟨fc,hfc⟩ : ∃ x,F i ch = x := ⟨_,rfl⟩
    rw [hfc] at hUb hone1
    clear hfc
    have hkE : Hid (∃ k,unit_Encode.f k [fc] = some (strOfNums U)) := Lib.hid (by
     have := Ev.rounds (encode_ans [fc] (by simp))
     rw [List.flatMap_cons,List.flatMap_nil,List.append_nil,hUb.out] at this
     exact this)
    obtain ⟨kE,hkE⟩ := hkE.out
    have hkE := Lib.hid hkE
    have hUs : Hid (bytesOf (strOfNums U) = U) := Lib.hid (by rw [← hUb.out];exact bytesOf_str _ (encO_byte fc))
    have hsz : (strOfNums U).size = U.length := by rw [← bytesOf_length,hUs.out]
    have hneg' : ¬ (ch < 0) := hneg
    go_wp2_with (fail)
    refine hone1.mono ?_
    rintro e w3 ⟨rfl,hb3⟩
    have hB3 : Below w.heap.size w w3 := hB0.trans (hb3.mono hB0.size)
    have hown3 := pw_own_below hownA hb3
    have hR3 := Kd.R_below hRA hb3
    have hbx3 : w3.heap[wr.heap.size]? = some (.cells #[.int .i32 ch,.int .i64 m] 42 (0,0)) := (hb3.block _ (Array.getElem?_eq_some_iff.1 hbx).1).trans hbx
    have hC3 := lit_one w3 fc
    clear hone1 hownA hRA hbx
    go_wp2_with (first | (go_at_call 29;refine (unit_Encode.calls kE (some ⟨w3.heap.size,0,none⟩) 1 [fc] (strOfNums U) _ hC3 (Nat.le_refl _) hkE.out).mono ?_;rintro e w4 ⟨rfl,hb4⟩;have hb34 : Below w3.heap.size w3 w4 := ((Below.refl _ w3).alloc (Nat.le_refl _) _).trans (hb4.mono (by simp));have hB4 : Below w.heap.size w w4 := hB3.trans (hb34.mono hB3.size);have hown4 := pw_own_below hown3 hb34;have hR4 := Kd.R_below hR3 hb34;have hbx4 : w4.heap[wr.heap.size]? = some (.cells #[.int .i32 ch,.int .i64 m] 42 (0,0)) := (hb34.block _ (Array.getElem?_eq_some_iff.1 hbx3).1).trans hbx3) | (at_builtin;refine print_append_str (w0 := w) w.heap.size rfl (.tmp 31) _ 66 9 5 rfl Tryd.underlying66 Tryd.underlying9 info5 u5 acc (strOfNums U) rfl rfl hown4 hB4 hB4.size (by rw [hsz];omega) ?_;rw [hUs.out];intro v9 w9 ho9 hb9 hg9;have hR9 := units_kept hown4 hR4 hg9;have hc9 := unit_box_kept hown4 hbx4 hg9))
    go_roundw
    case rel => exact ⟨k,i + m,j + 1,acc ++ U,by go_num,by go_num,hm2,by omega,by omega,hU2,hI2,by rw [List.length_append];omega,ho9,hR9,hb9⟩
    case measure => (try clear hw1);(try clear hw2);simp [intOf];omega
  ·have hge : ¬ ((j : Int) < ((unitsL s).length : Int)) := by omega
   have hend : eachT s F = acc := by
    have h1 := hI.out
    have h2 := hU.out
    rw [List.drop_eq_nil_of_le (by omega)] at h2
    have h3 : ¬ i < s.size := fun h => by
     cases k with
     | zero => omega
     | succ k => rw [walkL,if_pos h] at h2;cases h2
    rw [h1,eachL_end s F k i h3,List.append_nil]
   clear hI hU
   have hend := Lib.hid hend
   have hcv := own_string (P := Tryd.prog) Tryd.underlying66 Tryd.underlying5 Tryd.underlying9 hown
   go_wp2
   go_ret
   exact ⟨by first | rfl | (rw [hend.out];rfl),hb⟩
end Go.Proofs.YtkficbgnjpekaaaDoor.U
end
section
namespace Go.Proofs.YtkficbgnjpekaaaDoor.U
open Go.RowKit Go.Shelf Go.Maps Go.Proofs.YtkficbgnjpekaaaDoor.Mu Go.Proofs.YtkficbgnjpekaaaDoor.Pu Go.Proofs.YtkficbgnjpekaaaDoor.Rg Go.Proofs.YtkficbgnjpekaaaDoorW.PrintWords Go.Proofs.YtkficbgnjpekaaaDoorW.PrintLast Go.Proofs.YtkficbgnjpekaaaDoorW.PrintMore
set_option linter.unusedVariables false
set_option linter.unusedSimpArgs false
theorem spF_range (s : ByteArray) (B : Int) : ∀ (n : Nat) (cs : List S61),cs.length = n → (∀ c ∈ cs,0 ≤ c.f0 ∧ c.f0 ≤ B) → ∀ sp ∈ (spF s cs).2,0 ≤ sp.f0 ∧ sp.f0 ≤ B
 | 0,cs,hn,_,sp,hsp => by
  obtain rfl := List.length_eq_zero_iff.1 hn
  cases hsp
 | n + 1,cs,hn,hc,sp,hsp => by
  rcases List.eq_nil_or_concat cs with rfl | ⟨l,c,rfl⟩
  ·cases hn
  rw [List.concat_eq_append] at hn hsp hc
  rw [spF_snoc] at hsp
  have ih := spF_range s B n l (by simpa using hn) (fun c hm => hc c (by simp [hm]))
  obtain ⟨_,h2⟩ := spF_shape s l
  have hcc := hc c (by simp)
  obtain ⟨⟨i,L⟩,hL⟩ : ∃ st,spF s l = st := ⟨_,rfl⟩
  rw [hL] at hsp ih h2
  cases hw : wAt s c.f0.toNat with
  | false => rw [spStep_off s i L c hw] at hsp;exact ih sp hsp
  | true =>
   cases i with
   | false =>
    rw [spStep_new s L c hw] at hsp
    rcases List.mem_append.1 hsp with h | h
    ·exact ih sp h
    ·rw [List.mem_singleton] at h;subst h;exact hcc
   | true =>
    obtain ⟨p,a,b,rfl⟩ := h2 rfl
    rw [spStep_on s p a b c hw] at hsp
    rcases List.mem_append.1 hsp with h | h
    ·exact ih sp (List.mem_append.2 (.inl h))
    ·rw [List.mem_singleton] at h;subst h;exact ih ⟨a,b⟩ (by simp)
theorem spans_range (s : ByteArray) : ∀ sp ∈ spansL s,0 ≤ sp.f0 ∧ sp.f0 ≤ s.size :=
 spF_range s s.size _ (clusL s) rfl (fun c hc => by
  obtain ⟨i,_,hi,rfl⟩ := clus_mem' s s.size 0 (cb_zero s) c hc
  exact ⟨Int.natCast_nonneg i,Int.ofNat_le.2 (by omega)⟩)
theorem spans_len (s : ByteArray) : (spansL s).length ≤ s.size := Nat.le_trans (spF_shape s (clusL s)).1 (clusL_length s)
/-- What the map says of the words so far. -/
structure MapI (D : DataW Unit) (l : List S32) : Prop where
 map : IsMap D
 at_ : ∀ k : Int,∃ c : Int,D.atKey (.int .i64 k) (.lit (.int .i64 0)) = .lit (.int .i64 c) ∧ (0 < c ↔ ∃ sp ∈ l,sp.f0 = k)
theorem MapI.nil : MapI (.map []) [] := ⟨isMap_empty,fun k => ⟨0,rfl,by simp⟩⟩
theorem MapI.step {D : DataW Unit} {l : List S32} (h : MapI D l) (sp : S32) (j : Int) (hj : 0 < j) : MapI (D.put (.int .i64 sp.f0) (.lit (.int .i64 j))) (l ++ [sp]) := by
 refine ⟨h.map.put _ _,fun k => ?_⟩
 by_cases e : k = sp.f0
 ·subst e
  exact ⟨j,atKey_put_same h.map (by trivial) _ _,⟨fun _ => ⟨sp,by simp,rfl⟩,fun _ => hj⟩⟩
 ·obtain ⟨c,h1,h2⟩ := h.at_ k
  refine ⟨c,(atKey_put_other (fun h => e (by injection h)) _ _).trans h1,h2.trans ⟨fun ⟨x,hx,hk⟩ => ⟨x,by simp [hx],hk⟩,fun ⟨x,hx,hk⟩ => ?_⟩⟩
  rcases List.mem_append.1 hx with h3 | h3
  ·exact ⟨x,h3,hk⟩
  ·rw [List.mem_singleton] at h3;subst h3;exact absurd hk.symm e
/-- What a character at an offset becomes. -/
def capF (s : ByteArray) (at_ c : Int) : Int := if (spansL s).any (fun sp => decide (sp.f0 = at_)) = true then upC c else lowC c
theorem zero_int (w : World) : (zeroValue 3).run Tryd.prog w = .ok (.int .i64 0) w := by kernel_rfl
set_option maxRecDepth 100000 in
set_option maxHeartbeats 4000000 in
theorem capital1_calls (s : ByteArray) (W : World) (bm Bb n : Nat) (D : DataW Unit) (hbox : Boxed W Bb 71 (.map (some bm))) (hown : W.ownsMap Tryd.prog 3 (plainElem Tryd.prog 3) bm n D) (hD : MapI D (spansL s)) (at_ : Nat) (c : Int) (hat : at_ < 1099511627776) :
  Calls Tryd.prog 58 (#[.int .i64 (at_ : Int),.int .i32 c] ++ #[.pointer (some ⟨Bb,0,none⟩)]) W fun e w' => e = .returned (.int .i32 (capF s at_ c)) ∧ Below W.heap.size W w' := by
 show Calls Tryd.prog 58 #[.int .i64 (at_ : Int),.int .i32 c,.pointer (some ⟨Bb,0,none⟩)] W _
 have hF : Hid (∀ cap : Int,D.atKey (.int .i64 (at_ : Int)) (.lit (.int .i64 0)) = .lit (.int .i64 cap) → capF s at_ c = if 0 < cap then upC c else lowC c) := Lib.hid (fun cap h => by
  obtain ⟨cap',h1,h2⟩ := hD.at_ at_
  have e : cap' = cap := by rw [h1] at h;injection h with h;injection h
  subst e
  unfold capF
  by_cases h3 : 0 < cap'
  ·rw [if_pos h3,if_pos]
   obtain ⟨sp,hm,he⟩ := h2.1 h3
   exact List.any_eq_true.2 ⟨sp,hm,decide_eq_true he⟩
  ·rw [if_neg h3,if_neg]
   intro h4
   obtain ⟨sp,hm,he⟩ := List.any_eq_true.1 h4
   exact h3 (h2.2 ⟨sp,hm,of_decide_eq_true he⟩))
 obtain ⟨G,hG⟩ : ∃ G,capF s at_ c = G := ⟨_,rfl⟩
 rw [hG] at hF
 rw [hG]
 clear hG hD
 have hc := hbox.cell
 go_enter Tryd.func58,Tryd.ntmps58
 go_wp2_with (first | (at_lookup;refine wpList_lookup_own_int _ rfl _ _ 71 rfl 3 3 .i64 (int_keyed Tryd.underlying3) Tryd.underlying71 Tryd.underlying3 (zero_int _) bm n _ rfl hown _ _ rfl (keyOf_int_mk Tryd.underlying3 (WalkArith.wf_i64 (by omega))) ?_;intro cap hcap hwc) | (go_at_call 15;refine (word_UpperOf.calls 7 c (upC c) _ (upper7 c)).mono ?_;rintro e w1 ⟨rfl,q,rfl⟩) | (go_at_call 17;refine (word_LowerOf.calls c (lowC c) _ rfl).mono ?_;rintro e w1 ⟨rfl,hb1⟩))
 all_goals (
  go_ret
  refine ⟨?_,by first | exact hb1 | exact pw_below_drewN (Below.refl _ _) _⟩
  rw [hF.out cap hcap]
  first
  | (rw [if_pos (by omega)];rfl)
  | (rw [if_neg (by omega)];rfl))
set_option maxRecDepth 100000 in
set_option maxHeartbeats 4000000 in
theorem capital_any (s : ByteArray) (w : World) (hs : s.size ≤ 1099511627775) (hT : Lib.Utf8Tabs 0 1 w) :
  Calls Tryd.prog 34 #[.string s] w fun e w' => e = .returned (.string (strOfNums (eachT s (capF s)))) ∧ Below w.heap.size w w' := by
 have hu : word_Spans.f s = some (spansL s) := by unfold word_Spans.f;rw [if_pos (by omega)]
 have hrg := spans_range s
 have hnl := spans_len s
 have hmm := @run_makeMap Tryd.prog
 have hM0 : (w.alloc (.map #[] 0)).ownsMap Tryd.prog 3 (plainElem (H := Unit) Tryd.prog 3) w.heap.size 0 (.map []) := World.ownsMap_made _ _ _ _
 have hM1 := hM0.alloc (.cells #[.map (some w.heap.size)] 71)
 have hB1 := Boxed.new (w.alloc (.map #[] 0)) 71 (.map (some w.heap.size))
 rw [World.size_alloc] at hB1
 have hb1 : Below w.heap.size w ((w.alloc (.map #[] 0)).alloc (.cells #[.map (some w.heap.size)] 71)) := ((Below.refl _ w).alloc (Nat.le_refl _) _).alloc (by simp) _
 have hsz1 : ((w.alloc (.map #[] 0)).alloc (.cells #[.map (some w.heap.size)] 71)).heap.size = w.heap.size + 2 := by simp
 have hT1 := tabs_below hT hb1
 go_enter Tryd.func34,Tryd.ntmps34
 go_wp2_with (go_at_call 20;refine (word_Spans.calls s (spansL s) _ hT1 hu).mono ?_;rintro e w2 ⟨v0,rfl,hR,hb2⟩;obtain ⟨A,c,rfl,hcl,hC⟩ := Kd.R_reads hR)
 rw [hsz1] at hR
 have hg2 : ((w.alloc (.map #[] 0)).alloc (.cells #[.map (some w.heap.size)] 71)).grownBy w2 none := ⟨hb2.os,hb2.tape,hb2.output,hb2.size,fun i hi _ => hb2.block i hi⟩
 have hM2 := hM1.kept hg2 (by simp)
 have hB2 := boxed_below hB1 hb2
 have hbw2 : Below w.heap.size w w2 := hb1.trans (hb2.mono hb1.size)
 clear hM0 hM1 hB1 hb1 hT1 hb2 hg2 hC hsz1
 go_loopw [10] (fun v wr => ∃ (j : Nat) (D : DataW Unit),v = .int .i64 j ∧ j ≤ (spansL s).length ∧ wr.ownsMap Tryd.prog 3 (plainElem (H := Unit) Tryd.prog 3) w.heap.size j D ∧ Hid (MapI D ((spansL s).take j)) ∧ Boxed wr (w.heap.size + 1) 71 (.map (some w.heap.size)) ∧
   Kd.R k32 32 wr (w.heap.size + 2) (fun _ => True) (.slice A (spansL s).length c) (spansL s) ∧ Below w.heap.size w wr)
  (fun v _ => (spansL s).length - (intOf v).toNat)
 case atStart => exact ⟨0,_,rfl,Nat.zero_le _,hM2,Lib.hid (by rw [List.take_zero];exact MapI.nil),hB2,hR,hbw2⟩
 case round =>
  obtain ⟨j,D,rfl,hj,hM,hI,hB,hR,hb⟩ := hrel
  clear hM2 hB2 hbw2
  by_cases hlt : j < (spansL s).length
  ·obtain ⟨A',c',e',_,hC⟩ := Kd.R_reads hR
   obtain ⟨rfl,_,rfl⟩ : A = A' ∧ (spansL s).length = (spansL s).length ∧ c = c' := by injection e' with e1 e2 e3;exact ⟨e1,e2,e3⟩
   obtain ⟨ad,rfl,ca0,ca1⟩ := at_T32 hC (j : Int) (by omega) (by omega)
   have hrd : rd_T32 (spansL s) (j : Int) = (spansL s)[j] := by unfold rd_T32;rw [Int.toNat_natCast,List.getD_eq_getElem?_getD,List.getElem?_eq_getElem hlt];rfl
   rw [hrd] at ca0 ca1
   have hin := hrg _ (List.getElem_mem hlt)
   have htk : (spansL s).take (j + 1) = (spansL s).take j ++ [(spansL s)[j]] := (List.take_append_getElem hlt).symm
   have hstep : Hid (∀ v : Int,0 < v → MapI (D.put (.int .i64 (spansL s)[j].f0) (.lit (.int .i64 v))) ((spansL s).take (j + 1))) := Lib.hid (fun v hv => by rw [htk];exact hI.out.step _ v hv)
   obtain ⟨⟨x0,x1⟩,hx⟩ : ∃ x,(spansL s)[j] = x := ⟨_,rfl⟩
   rw [hx] at ca0 ca1 hin hstep
   simp only [Int.toNat_natCast] at ca0 ca1
   clear hx hrd htk hI hC
   have hjlt : (j : Int) < ((spansL s).length : Int) := by omega
   have hu32 := Tryd.underlying32
   have hw2 : IntKind.i64.wrap ((j : Int) + 1) = ((j + 1 : Nat) : Int) := (i64_w _).trans (by unfold wrap64;omega)
   have hin' : 0 ≤ x0 ∧ x0 ≤ s.size := hin
   have hM' := hM.alloc (.cells #[.int .i64 x0,.int .i64 x1] 32)
   have hB' := hB.alloc (.cells #[.int .i64 x0,.int .i64 x1] 32)
   have hcB := hB'.cell
   have hR' := Kd.R_alloc hR (.cells #[.int .i64 x0,.int .i64 x1] 32)
   have hb' : Below w.heap.size w (wr.alloc (.cells #[.int .i64 x0,.int .i64 x1] 32)) := hb.alloc hb.size _
   have hwf0 : (Lit.int .i64 x0).wf = true := WalkArith.wf_i64 (by omega)
   have hwf1 : (Lit.int .i64 ((j + 1 : Nat) : Int)).wf = true := WalkArith.wf_i64 (by omega)
   go_wp2_with (at_mapUpdate;refine wpList_mapUpdate_own _ rfl _ _ _ 71 rfl 3 3 (int_keyed Tryd.underlying3) Tryd.underlying71 _ w.heap.size j _ rfl hM' (by unfold maxLen;omega) _ _ _ rfl rfl (keyOf_int_mk Tryd.underlying3 hwf0) _ [] (plainElem_int Tryd.underlying3 (a := ((j + 1 : Nat) : Int)) hwf1) ?_;intro w3 hown3 hg3)
   go_roundw
   case rel =>
    refine ⟨j + 1,_,by go_num,by omega,hown3,Lib.hid (hstep.out _ (by omega)),?_,?_,hb'.grown hg3 hb'.size (fun k e => by cases e;exact Nat.le_refl _)⟩
    ·exact hB'.kept hg3 (by simp)
    ·refine Kd.R_grown2 hR' rfl hg3 (fun k e => ?_)
     cases e
     obtain ⟨inner,ho⟩ := Kd.R_own hR'
     intro h
     have := own_base ho _ h.symm
     omega
   case measure => clear hw2;simp [intOf];omega
  ·have hge : ¬ ((j : Int) < ((spansL s).length : Int)) := by omega
   have hIa : MapI D (spansL s) := by have := hI.out;rwa [List.take_of_length_le (by omega)] at this
   have he := each_any s 58 #[.pointer (some ⟨w.heap.size + 1,0,none⟩)] (capF s) wr (by omega) (tabs_below hT hb) (enters_of Tryd.func58 (by kernel_rfl) rfl) (fun W at_ c hat hbW =>
    capital1_calls s W w.heap.size (w.heap.size + 1) j D (boxed_below hB hbW) (hM.kept (row := none) ⟨hbW.os,hbW.tape,hbW.output,hbW.size,fun i hi _ => hbW.block i hi⟩ (by simp)) hIa at_ c (by omega))
   clear hIa hI hrg
   go_wp2_with (go_at_call 54;refine he.mono ?_;rintro e w4 ⟨rfl,hb4⟩)
   go_ret
   exact ⟨rfl,hb.trans (hb4.mono hb.size)⟩
def word_Capital.f (a0 : ByteArray) : Option ByteArray := if a0.size ≤ 1099511627775 then some (strOfNums (eachT a0 (capF a0))) else none
theorem word_Capital.calls (a0 : ByteArray) (r : ByteArray) (w : World) (hT : Lib.Utf8Tabs 0 1 w) (h : word_Capital.f a0 = some r) :
  Calls Tryd.prog 34 #[.string a0] w fun e w' => e = .returned (.string r) ∧ Below w.heap.size w w' := by
 unfold word_Capital.f at h
 split at h
 ·obtain rfl := Option.some.inj h
  rename_i hs
  exact capital_any a0 w hs hT
 ·cases h
end Go.Proofs.YtkficbgnjpekaaaDoor.U
end
section
namespace Go.Proofs.YtkficbgnjpekaaaDoor.U
open Go.RowKit Go.Proofs.YtkficbgnjpekaaaDoorW.PrintWords Go.Proofs.YtkficbgnjpekaaaDoorW.PrintLast Go.Proofs.YtkficbgnjpekaaaDoorW.PrintMore
attribute [local go_sem] max2_int min2_int max_two min_two max_three min_three max_four min_four   -- for this text's walks alone
set_option linter.unusedVariables false
set_option linter.unusedSimpArgs false
attribute [local go_sem high] eqA32
def word_Ahead.l0 : Nat → ByteArray → Int → List (S32) → Int → Int → Option (Int)
 | 0,_,_,_,_,_ => none
 | k + 1,x0,x1,x13,x14,x15 => if x15 < x14 then (if 0 ≤ x15 then (if x15 < (x13.length : Int) then (if ((rd_T32 x13 x15).f1) > x1 then (some ((rd_T32 x13 x15).f1)) else (word_Ahead.l0 k x0 x1 x13 x14 (wrap64 (x15 + 1)))) else (none)) else (none)) else (some (x0.size : Int))
def word_Ahead.f (k : Nat) (a0 : ByteArray) (a1 : Int) : Option (Int) := (word_Spans.f a0).bind fun t101 => (word_Ahead.l0 k a0 (mn (mx a1 0) (a0.size : Int)) t101 (t101.length : Int) 0)
theorem word_Ahead.mono_l : ∀ k,(∀ y0 y1 y2 y3 y4,LeO (word_Ahead.l0 k y0 y1 y2 y3 y4) (word_Ahead.l0 (k + 1) y0 y1 y2 y3 y4))
 | 0 => fun _ _ _ _ _ r h => by simp [word_Ahead.l0] at h
 | k + 1 => by
  have ih0 := word_Ahead.mono_l k
  ·intro y0 y1 y2 y3 y4
   unfold word_Ahead.l0
   repeat' first
   | (with_reducible exact ih0 _ _ _ _ _)
   | (with_reducible exact LeO.refl _)
   | (with_reducible exact LeO.none _)
   | (with_reducible refine LeO.ite ?_ ?_)
   | (with_reducible refine LeO.bind ?_ (fun _ => ?_))
   | exact ih0 _ _ _ _ _
   | exact LeO.none _
   | refine LeO.ite ?_ ?_
   | refine LeO.bind ?_ (fun _ => ?_)
theorem word_Ahead.mono : ∀ a0 a1 k,LeO (word_Ahead.f k a0 a1) (word_Ahead.f (k + 1) a0 a1) := by
 intro a0 a1 k
 have ih0 := word_Ahead.mono_l k
 unfold word_Ahead.f
 repeat' first
   | (with_reducible exact ih0 _ _ _ _ _)
   | (with_reducible exact LeO.refl _)
   | (with_reducible exact LeO.none _)
   | (with_reducible refine LeO.ite ?_ ?_)
   | (with_reducible refine LeO.bind ?_ (fun _ => ?_))
   | exact ih0 _ _ _ _ _
   | exact LeO.none _
   | refine LeO.ite ?_ ?_
   | refine LeO.bind ?_ (fun _ => ?_)
set_option maxHeartbeats 8000000 in
set_option maxRecDepth 100000 in
theorem word_Ahead.calls (k : Nat) (a0 : ByteArray) (a1 : Int) (r : Int) (w : World) (hT : Lib.Utf8Tabs 0 1 w) (h : word_Ahead.f k a0 a1 = some r) :
  Calls Tryd.prog 22 #[.string a0,.int .i64 a1] w fun e w' => e = .returned (.int .i64 r) ∧ Below w.heap.size w w' := by
 have hu32 := Tryd.underlying32
 have HT := Aside0.mk hT
 clear hT
 have HB := Aside0.mk (Below.refl w.heap.size w)
 have H : ((word_Spans.f a0).bind fun t101 => (word_Ahead.l0 k a0 (mn (mx a1 0) (a0.size : Int)) t101 (t101.length : Int) 0)) = some r := h
 clear h
 obtain ⟨ji3,hji3⟩ : ∃ j_ : Int,(mx a1 0) = j_ := ⟨_,rfl⟩
 replace H : ((word_Spans.f a0).bind fun t101 => (word_Ahead.l0 k a0 (mn (ji3) (a0.size : Int)) t101 (t101.length : Int) 0)) = some r := by first | (rw [hji3] at H;exact H) | (simp only [hji3] at H ⊢;exact H)
 (try (have hji3l : 0 ≤ ji3 := by (rw [← hji3];unfold mx;(repeat' split) <;> omega)))
 (try (have hji3m : 0 ≤ ji3 := by omega))
 have hji3_ : (if a1 < 0 then 0 else a1) = ji3 := hji3
 obtain ⟨ji4,hji4⟩ : ∃ j_ : Int,(mn (ji3) (a0.size : Int)) = j_ := ⟨_,rfl⟩
 replace H : ((word_Spans.f a0).bind fun t101 => (word_Ahead.l0 k a0 ji4 t101 (t101.length : Int) 0)) = some r := by first | (rw [hji4] at H;exact H) | (simp only [hji4] at H ⊢;exact H)
 have hji4_ : (if (a0.size : Int) < (ji3) then (a0.size : Int) else (ji3)) = ji4 := hji4
 replace H := Option.bind_eq_some_iff.mp H
 obtain ⟨t101,A50,H⟩ := H
 replace H : (word_Ahead.l0 k a0 ji4 t101 (t101.length : Int) 0) = some r := H
 have A5 := Aside0.mk A50
 clear A50
 have H' := Aside0.mk H
 clear H
 go_enter Tryd.func22,Tryd.ntmps22
 go_wp2_with (first | ((with_reducible refine gate_callee (f := 20) rfl ?_);refine goesL_ (some 13) rfl rfl Tryd.func20 (by kernel_rfl) rfl #[.string a0] rfl au1 ?_;(with_reducible refine (word_Spans.calls a0 t101 _ ?side1 A5.out).mono ?_);(case side1 => exact tabs_below HT.out au0);rintro e w6 ⟨v102,rfl,ho0,hb⟩;refine ⟨_,rfl,?_⟩;have n0_ := Aside0.mk (Kd.R_lower ho0 (below_size au0));have n1_ := Aside0.mk (below_step au0 hb);clear HB;have HO103 := n0_;have HB := n1_;clear n0_ n1_;(try clear hb);(try clear hb2);(try clear hk);(try clear hi);(try clear ho0);obtain ⟨Ao7,co7,eo7⟩ := Kd.R_slice HO103.out;subst eo7))
 go_loopg [15] k (fun kq v15 w' => ∃ (x15_1 : Int),v15 = .int .i64 x15_1 ∧ Aside0 (word_Ahead.l0 kq a0 ji4 t101 (t101.length : Int) x15_1 = some r) ∧ Aside0 (kq ≤ k) ∧ Aside0 (Kd.R k32 32 w' w.heap.size (fun _ => True) (.slice Ao7 t101.length co7) t101) ∧ Aside0 (Below w.heap.size w w'))
 case atStart => exact ⟨(0),au3,H',⟨Nat.le_refl _⟩,⟨by (with_reducible repeat (first | apply Kd.R_alloc | apply Kd.R_drewN | apply Kd.R_drew));exact HO103.out⟩,⟨au0⟩⟩
 case round =>
  clear H'
  try clear c2
  try clear p2
  obtain ⟨x15_1,rfl,HA,HK1,HO_13,HB⟩ := hrel
  cases gk with
  | zero => exact absurd HA.out (by simp [word_Ahead.l0])
  | succ k1 =>
   have H := HA.out
   clear HA
   simp only [word_Ahead.l0] at H
   by_cases c8 : x15_1 < (t101.length : Int)
   ·rw [if_pos c8] at H
    have c8b0 : decide (x15_1 < (t101.length : Int)) = true := decide_eq_true c8
    clear c8
    by_cases c9 : 0 ≤ x15_1
    ·rw [if_pos c9] at H
     have c9b0 : decide (0 ≤ x15_1) = true := decide_eq_true c9
     clear c9
     by_cases c10 : x15_1 < (t101.length : Int)
     ·rw [if_pos c10] at H
      have c10b0 : decide (x15_1 < (t101.length : Int)) = true := decide_eq_true c10
      clear c10
      by_cases c11 : ((rd_T32 t101 x15_1).f1) > ji4
      ·rw [if_pos c11] at H
       have c11b0 : decide (ji4 < ((rd_T32 t101 x15_1).f1)) = true := decide_eq_true c11
       clear c11
       obtain rfl := Option.some.inj H
       have p104 : 0 ≤ (x15_1 : Int) := of_decide_eq_true au11
       have q104 : x15_1 < (t101.length : Int) := of_decide_eq_true au11
       obtain ⟨ad104,e104,hx104_0,hx104_1⟩ := at_T32 (Kd.R_reads' HO_13.out).2.2 x15_1 p104 q104
       cases e104
       replace p104 := eq_true p104
       replace q104 := eq_true q104
       go_wp2_with (first | ((with_reducible refine gate_dst (N := 6) rfl ?_);refine box_event ?hg (N := 6) ?hd (cs := #[.int .i64 0,.int .i64 0]) (t := 32) ?hr ?_;(case hd => rfl);(case hg => rfl);(case hr => first | (go_simp;done) | (go_simp;rfl));intro gb105 hg w12 hbox hb;have n0_ := Aside0.mk (Kd.R_below (Kd.R_elderB (by (with_reducible repeat (first | apply Kd.R_alloc | apply Kd.R_drewN | apply Kd.R_drew));exact HO_13.out) gb105 (Nat.le_of_eq hg.symm)) hb);have n1_ := Aside0.mk (below_step au0 hb);have n2_ := Aside0.mk (hbox);have n3_ := Aside0.mk ((by rw [hg];exact (below_size au0) : w.heap.size ≤ gb105));have n4_ := Aside0.mk ((by rw [hg];exact (below_size au0) : w.heap.size ≤ gb105));clear HO_13;clear HB;have HO_13 := n0_;have HB := n1_;have BK105 := n2_;have GW105 := n3_;have GE105 := n4_;clear n0_ n1_ n2_ n3_ n4_;clear hb hbox hg;have hcz13_0 : w12.cell? ⟨gb105,0,none⟩ = some (.int .i64 0) := (blk_cell BK105.out 0).trans rfl;have hcz13_1 : w12.cell? ⟨gb105,1,none⟩ = some (.int .i64 0) := (blk_cell BK105.out 1).trans rfl;have hfz13_0 := blk_frozen BK105.out 0;have hfz13_1 := blk_frozen BK105.out 1))
       go_ret
       exact ⟨by first | rfl | (simp [errW_none,errW_some] <;> rfl) | (simp only [← hji3,← hji4];first | rfl | (simp [errW_none,errW_some] <;> rfl)) | (simp [*,errW_none,errW_some] <;> rfl),by repeat (first | (with_reducible first | exact HB.out | apply below_alloc | apply pw_below_drewN | apply below_drew1 | refine below_set ?_ GE105.out) | exact HB.out)⟩
      ·rw [if_neg c11] at H
       have c11b0 : decide (ji4 < ((rd_T32 t101 x15_1).f1)) = false := decide_eq_false c11
       clear c11
       have H' := Aside0.mk H
       clear H
       have p104 : 0 ≤ (x15_1 : Int) := of_decide_eq_true au11
       have q104 : x15_1 < (t101.length : Int) := of_decide_eq_true au11
       obtain ⟨ad104,e104,hx104_0,hx104_1⟩ := at_T32 (Kd.R_reads' HO_13.out).2.2 x15_1 p104 q104
       cases e104
       replace p104 := eq_true p104
       replace q104 := eq_true q104
       go_wp2_with (first | ((with_reducible refine gate_dst (N := 6) rfl ?_);refine box_event ?hg (N := 6) ?hd (cs := #[.int .i64 0,.int .i64 0]) (t := 32) ?hr ?_;(case hd => rfl);(case hg => rfl);(case hr => first | (go_simp;done) | (go_simp;rfl));intro gb105 hg w14 hbox hb;have n0_ := Aside0.mk (Kd.R_below (Kd.R_elderB (by (with_reducible repeat (first | apply Kd.R_alloc | apply Kd.R_drewN | apply Kd.R_drew));exact HO_13.out) gb105 (Nat.le_of_eq hg.symm)) hb);have n1_ := Aside0.mk (below_step au0 hb);have n2_ := Aside0.mk (hbox);have n3_ := Aside0.mk ((by rw [hg];exact (below_size au0) : w.heap.size ≤ gb105));have n4_ := Aside0.mk ((by rw [hg];exact (below_size au0) : w.heap.size ≤ gb105));clear HO_13;clear HB;have HO_13 := n0_;have HB := n1_;have BK105 := n2_;have GW105 := n3_;have GE105 := n4_;clear n0_ n1_ n2_ n3_ n4_;clear hb hbox hg;have hcz15_0 : w14.cell? ⟨gb105,0,none⟩ = some (.int .i64 0) := (blk_cell BK105.out 0).trans rfl;have hcz15_1 : w14.cell? ⟨gb105,1,none⟩ = some (.int .i64 0) := (blk_cell BK105.out 1).trans rfl;have hfz15_0 := blk_frozen BK105.out 0;have hfz15_1 := blk_frozen BK105.out 1))
       go_roundg k1
       case measure => have := HK1.out;omega
       case rel => exact ⟨(wrap64 (x15_1 + 1)),au3,H',⟨by have := HK1.out;omega⟩,⟨by (with_reducible repeat (first | apply Kd.R_alloc | apply Kd.R_drewN | apply Kd.R_drew));exact Kd.R_mono (Kd.R_far (p := ⟨gb105,1,none⟩) (Kd.R_far (p := ⟨gb105,0,none⟩) (Kd.R_mono HO_13.out (fun k_ hk => (⟨hk,hk.2⟩ : _ ∧ k_ ≠ gb105))) (fun _ hk => hk.2) (.int .i64 ((rd_T32 t101 x15_1).f0))) (fun _ hk => hk.2) (.int .i64 ((rd_T32 t101 x15_1).f1))) (fun _ hk => trivial)⟩,⟨by repeat (first | (with_reducible first | exact HB.out | apply below_alloc | apply pw_below_drewN | apply below_drew1 | refine below_set ?_ GE105.out) | exact HB.out)⟩⟩
     ·rw [if_neg c10] at H
      exact absurd H (by simp)
    ·rw [if_neg c9] at H
     exact absurd H (by simp)
   ·rw [if_neg c8] at H
    have c8b0 : decide (x15_1 < (t101.length : Int)) = false := decide_eq_false c8
    clear c8
    obtain rfl := Option.some.inj H
    go_wp2
    go_ret
    exact ⟨by first | rfl | (simp [errW_none,errW_some] <;> rfl) | (simp only [← hji3,← hji4];first | rfl | (simp [errW_none,errW_some] <;> rfl)) | (simp [*,errW_none,errW_some] <;> rfl),au0⟩
def word_Behind.l0 : Nat → Int → Int → List (S32) → Int → Int → Option (Int)
 | 0,_,_,_,_,_ => none
 | k + 1,x1,x5,x14,x15,x16 => if x16 < x15 then (if 0 ≤ x16 then (if x16 < (x14.length : Int) then (if ((rd_T32 x14 x16).f0) < x1 then (word_Behind.l0 k x1 ((rd_T32 x14 x16).f0) x14 x15 (wrap64 (x16 + 1))) else (word_Behind.l0 k x1 x5 x14 x15 (wrap64 (x16 + 1)))) else (none)) else (none)) else (some x5)
def word_Behind.f (k : Nat) (a0 : ByteArray) (a1 : Int) : Option (Int) := (word_Spans.f a0).bind fun t106 => (word_Behind.l0 k (mn (mx a1 0) (a0.size : Int)) 0 t106 (t106.length : Int) 0)
theorem word_Behind.mono_l : ∀ k,(∀ y0 y1 y2 y3 y4,LeO (word_Behind.l0 k y0 y1 y2 y3 y4) (word_Behind.l0 (k + 1) y0 y1 y2 y3 y4))
 | 0 => fun _ _ _ _ _ r h => by simp [word_Behind.l0] at h
 | k + 1 => by
  have ih0 := word_Behind.mono_l k
  ·intro y0 y1 y2 y3 y4
   unfold word_Behind.l0
   repeat' first
   | (with_reducible exact ih0 _ _ _ _ _)
   | (with_reducible exact LeO.refl _)
   | (with_reducible exact LeO.none _)
   | (with_reducible refine LeO.ite ?_ ?_)
   | (with_reducible refine LeO.bind ?_ (fun _ => ?_))
   | exact ih0 _ _ _ _ _
   | exact LeO.none _
   | refine LeO.ite ?_ ?_
   | refine LeO.bind ?_ (fun _ => ?_)
theorem word_Behind.mono : ∀ a0 a1 k,LeO (word_Behind.f k a0 a1) (word_Behind.f (k + 1) a0 a1) := by
 intro a0 a1 k
 have ih0 := word_Behind.mono_l k
 unfold word_Behind.f
 repeat' first
   | (with_reducible exact ih0 _ _ _ _ _)
   | (with_reducible exact LeO.refl _)
   | (with_reducible exact LeO.none _)
   | (with_reducible refine LeO.ite ?_ ?_)
   | (with_reducible refine LeO.bind ?_ (fun _ => ?_))
   | exact ih0 _ _ _ _ _
   | exact LeO.none _
   | refine LeO.ite ?_ ?_
   | refine LeO.bind ?_ (fun _ => ?_)
set_option maxHeartbeats 8000000 in
set_option maxRecDepth 100000 in
theorem word_Behind.calls (k : Nat) (a0 : ByteArray) (a1 : Int) (r : Int) (w : World) (hT : Lib.Utf8Tabs 0 1 w) (h : word_Behind.f k a0 a1 = some r) :
  Calls Tryd.prog 24 #[.string a0,.int .i64 a1] w fun e w' => e = .returned (.int .i64 r) ∧ Below w.heap.size w w' := by
 have hu32 := Tryd.underlying32
 have HT := Aside0.mk hT
 clear hT
 have HB := Aside0.mk (Below.refl w.heap.size w)
 have H : ((word_Spans.f a0).bind fun t106 => (word_Behind.l0 k (mn (mx a1 0) (a0.size : Int)) 0 t106 (t106.length : Int) 0)) = some r := h
 clear h
 obtain ⟨ji3,hji3⟩ : ∃ j_ : Int,(mx a1 0) = j_ := ⟨_,rfl⟩
 replace H : ((word_Spans.f a0).bind fun t106 => (word_Behind.l0 k (mn (ji3) (a0.size : Int)) 0 t106 (t106.length : Int) 0)) = some r := by first | (rw [hji3] at H;exact H) | (simp only [hji3] at H ⊢;exact H)
 (try (have hji3l : 0 ≤ ji3 := by (rw [← hji3];unfold mx;(repeat' split) <;> omega)))
 (try (have hji3m : 0 ≤ ji3 := by omega))
 have hji3_ : (if a1 < 0 then 0 else a1) = ji3 := hji3
 obtain ⟨ji4,hji4⟩ : ∃ j_ : Int,(mn (ji3) (a0.size : Int)) = j_ := ⟨_,rfl⟩
 replace H : ((word_Spans.f a0).bind fun t106 => (word_Behind.l0 k ji4 0 t106 (t106.length : Int) 0)) = some r := by first | (rw [hji4] at H;exact H) | (simp only [hji4] at H ⊢;exact H)
 have hji4_ : (if (a0.size : Int) < (ji3) then (a0.size : Int) else (ji3)) = ji4 := hji4
 replace H := Option.bind_eq_some_iff.mp H
 obtain ⟨t106,A50,H⟩ := H
 replace H : (word_Behind.l0 k ji4 0 t106 (t106.length : Int) 0) = some r := H
 have A5 := Aside0.mk A50
 clear A50
 have H' := Aside0.mk H
 clear H
 go_enter Tryd.func24,Tryd.ntmps24
 go_wp2_with (first | ((with_reducible refine gate_callee (f := 20) rfl ?_);refine goesL_ (some 14) rfl rfl Tryd.func20 (by kernel_rfl) rfl #[.string a0] rfl au1 ?_;(with_reducible refine (word_Spans.calls a0 t106 _ ?side1 A5.out).mono ?_);(case side1 => exact tabs_below HT.out au0);rintro e w6 ⟨v107,rfl,ho0,hb⟩;refine ⟨_,rfl,?_⟩;have n0_ := Aside0.mk (Kd.R_lower ho0 (below_size au0));have n1_ := Aside0.mk (below_step au0 hb);clear HB;have HO108 := n0_;have HB := n1_;clear n0_ n1_;(try clear hb);(try clear hb2);(try clear hk);(try clear hi);(try clear ho0);obtain ⟨Ao7,co7,eo7⟩ := Kd.R_slice HO108.out;subst eo7))
 go_loopg [5,16] k (fun kq v5 v16 w' => ∃ (x5_1 : Int) (x16_1 : Int),v5 = .int .i64 x5_1 ∧ v16 = .int .i64 x16_1 ∧ Aside0 (word_Behind.l0 kq ji4 x5_1 t106 (t106.length : Int) x16_1 = some r) ∧ Aside0 (kq ≤ k) ∧ Aside0 (Kd.R k32 32 w' w.heap.size (fun _ => True) (.slice Ao7 t106.length co7) t106) ∧ Aside0 (Below w.heap.size w w'))
 case atStart => exact ⟨(0),(0),au3,au3,H',⟨Nat.le_refl _⟩,⟨by (with_reducible repeat (first | apply Kd.R_alloc | apply Kd.R_drewN | apply Kd.R_drew));exact HO108.out⟩,⟨au0⟩⟩
 case round =>
  clear H'
  try clear c2
  try clear p2
  obtain ⟨x5_1,x16_1,rfl,rfl,HA,HK1,HO_14,HB⟩ := hrel
  cases gk with
  | zero => exact absurd HA.out (by simp [word_Behind.l0])
  | succ k1 =>
   have H := HA.out
   clear HA
   simp only [word_Behind.l0] at H
   by_cases c8 : x16_1 < (t106.length : Int)
   ·rw [if_pos c8] at H
    have c8b0 : decide (x16_1 < (t106.length : Int)) = true := decide_eq_true c8
    clear c8
    by_cases c9 : 0 ≤ x16_1
    ·rw [if_pos c9] at H
     have c9b0 : decide (0 ≤ x16_1) = true := decide_eq_true c9
     clear c9
     by_cases c10 : x16_1 < (t106.length : Int)
     ·rw [if_pos c10] at H
      have c10b0 : decide (x16_1 < (t106.length : Int)) = true := decide_eq_true c10
      clear c10
      by_cases c11 : ((rd_T32 t106 x16_1).f0) < ji4
      ·rw [if_pos c11] at H
       have c11b0 : decide (((rd_T32 t106 x16_1).f0) < ji4) = true := decide_eq_true c11
       clear c11
       have H' := Aside0.mk H
       clear H
       have p109 : 0 ≤ (x16_1 : Int) := of_decide_eq_true au11
       have q109 : x16_1 < (t106.length : Int) := of_decide_eq_true au11
       obtain ⟨ad109,e109,hx109_0,hx109_1⟩ := at_T32 (Kd.R_reads' HO_14.out).2.2 x16_1 p109 q109
       cases e109
       replace p109 := eq_true p109
       replace q109 := eq_true q109
       go_wp2_with (first | ((with_reducible refine gate_dst (N := 7) rfl ?_);refine box_event ?hg (N := 7) ?hd (cs := #[.int .i64 0,.int .i64 0]) (t := 32) ?hr ?_;(case hd => rfl);(case hg => rfl);(case hr => first | (go_simp;done) | (go_simp;rfl));intro gb110 hg w12 hbox hb;have n0_ := Aside0.mk (Kd.R_below (Kd.R_elderB (by (with_reducible repeat (first | apply Kd.R_alloc | apply Kd.R_drewN | apply Kd.R_drew));exact HO_14.out) gb110 (Nat.le_of_eq hg.symm)) hb);have n1_ := Aside0.mk (below_step au0 hb);have n2_ := Aside0.mk (hbox);have n3_ := Aside0.mk ((by rw [hg];exact (below_size au0) : w.heap.size ≤ gb110));have n4_ := Aside0.mk ((by rw [hg];exact (below_size au0) : w.heap.size ≤ gb110));clear HO_14;clear HB;have HO_14 := n0_;have HB := n1_;have BK110 := n2_;have GW110 := n3_;have GE110 := n4_;clear n0_ n1_ n2_ n3_ n4_;clear hb hbox hg;have hcz13_0 : w12.cell? ⟨gb110,0,none⟩ = some (.int .i64 0) := (blk_cell BK110.out 0).trans rfl;have hcz13_1 : w12.cell? ⟨gb110,1,none⟩ = some (.int .i64 0) := (blk_cell BK110.out 1).trans rfl;have hfz13_0 := blk_frozen BK110.out 0;have hfz13_1 := blk_frozen BK110.out 1))
       go_roundg k1
       case measure => have := HK1.out;omega
       case rel => exact ⟨((rd_T32 t106 x16_1).f0),(wrap64 (x16_1 + 1)),au3,au3,H',⟨by have := HK1.out;omega⟩,⟨by (with_reducible repeat (first | apply Kd.R_alloc | apply Kd.R_drewN | apply Kd.R_drew));exact Kd.R_mono (Kd.R_far (p := ⟨gb110,1,none⟩) (Kd.R_far (p := ⟨gb110,0,none⟩) (Kd.R_mono HO_14.out (fun k_ hk => (⟨hk,hk.2⟩ : _ ∧ k_ ≠ gb110))) (fun _ hk => hk.2) (.int .i64 ((rd_T32 t106 x16_1).f0))) (fun _ hk => hk.2) (.int .i64 ((rd_T32 t106 x16_1).f1))) (fun _ hk => trivial)⟩,⟨by repeat (first | (with_reducible first | exact HB.out | apply below_alloc | apply pw_below_drewN | apply below_drew1 | refine below_set ?_ GE110.out) | exact HB.out)⟩⟩
      ·rw [if_neg c11] at H
       have c11b0 : decide (((rd_T32 t106 x16_1).f0) < ji4) = false := decide_eq_false c11
       clear c11
       have H' := Aside0.mk H
       clear H
       have p109 : 0 ≤ (x16_1 : Int) := of_decide_eq_true au11
       have q109 : x16_1 < (t106.length : Int) := of_decide_eq_true au11
       obtain ⟨ad109,e109,hx109_0,hx109_1⟩ := at_T32 (Kd.R_reads' HO_14.out).2.2 x16_1 p109 q109
       cases e109
       replace p109 := eq_true p109
       replace q109 := eq_true q109
       go_wp2_with (first | ((with_reducible refine gate_dst (N := 7) rfl ?_);refine box_event ?hg (N := 7) ?hd (cs := #[.int .i64 0,.int .i64 0]) (t := 32) ?hr ?_;(case hd => rfl);(case hg => rfl);(case hr => first | (go_simp;done) | (go_simp;rfl));intro gb110 hg w14 hbox hb;have n0_ := Aside0.mk (Kd.R_below (Kd.R_elderB (by (with_reducible repeat (first | apply Kd.R_alloc | apply Kd.R_drewN | apply Kd.R_drew));exact HO_14.out) gb110 (Nat.le_of_eq hg.symm)) hb);have n1_ := Aside0.mk (below_step au0 hb);have n2_ := Aside0.mk (hbox);have n3_ := Aside0.mk ((by rw [hg];exact (below_size au0) : w.heap.size ≤ gb110));have n4_ := Aside0.mk ((by rw [hg];exact (below_size au0) : w.heap.size ≤ gb110));clear HO_14;clear HB;have HO_14 := n0_;have HB := n1_;have BK110 := n2_;have GW110 := n3_;have GE110 := n4_;clear n0_ n1_ n2_ n3_ n4_;clear hb hbox hg;have hcz15_0 : w14.cell? ⟨gb110,0,none⟩ = some (.int .i64 0) := (blk_cell BK110.out 0).trans rfl;have hcz15_1 : w14.cell? ⟨gb110,1,none⟩ = some (.int .i64 0) := (blk_cell BK110.out 1).trans rfl;have hfz15_0 := blk_frozen BK110.out 0;have hfz15_1 := blk_frozen BK110.out 1))
       go_roundg k1
       case measure => have := HK1.out;omega
       case rel => exact ⟨(x5_1),(wrap64 (x16_1 + 1)),au3,au3,H',⟨by have := HK1.out;omega⟩,⟨by (with_reducible repeat (first | apply Kd.R_alloc | apply Kd.R_drewN | apply Kd.R_drew));exact Kd.R_mono (Kd.R_far (p := ⟨gb110,1,none⟩) (Kd.R_far (p := ⟨gb110,0,none⟩) (Kd.R_mono HO_14.out (fun k_ hk => (⟨hk,hk.2⟩ : _ ∧ k_ ≠ gb110))) (fun _ hk => hk.2) (.int .i64 ((rd_T32 t106 x16_1).f0))) (fun _ hk => hk.2) (.int .i64 ((rd_T32 t106 x16_1).f1))) (fun _ hk => trivial)⟩,⟨by repeat (first | (with_reducible first | exact HB.out | apply below_alloc | apply pw_below_drewN | apply below_drew1 | refine below_set ?_ GE110.out) | exact HB.out)⟩⟩
     ·rw [if_neg c10] at H
      exact absurd H (by simp)
    ·rw [if_neg c9] at H
     exact absurd H (by simp)
   ·rw [if_neg c8] at H
    have c8b0 : decide (x16_1 < (t106.length : Int)) = false := decide_eq_false c8
    clear c8
    obtain rfl := Option.some.inj H
    go_wp2
    go_ret
    exact ⟨by first | rfl | (simp [errW_none,errW_some] <;> rfl) | (simp only [← hji3,← hji4];first | rfl | (simp [errW_none,errW_some] <;> rfl)) | (simp [*,errW_none,errW_some] <;> rfl),au0⟩
def bodkinlaw05_awake.f (k : Nat)  : Option (Bool) := (cluster_Next.f k (⟨#[97]⟩ : ByteArray) 0).bind fun t159 => (if t159 = 1 then ((word_Spans.f (⟨#[97,98,44,32,99,95,49,32,32]⟩ : ByteArray)).bind fun t160 => (if (t160.length : Int) = 2 then (if 1 < (t160.length : Int) then (if (((rd_T32 t160 1).f0) == 4 && (((rd_T32 t160 1).f1) == 7)) = true then ((word_Ahead.f k (⟨#[97,98,32,99,100]⟩ : ByteArray) 2).bind fun t164 => (if t164 = 5 then ((word_Behind.f k (⟨#[97,98,32,99,100]⟩ : ByteArray) 4).bind fun t165 => (if t165 = 3 then ((word_Capital.f (⟨#[104,101,76,76,79,32,49,119,79,82,76,68,32,97,95,98]⟩ : ByteArray)).bind fun t166 => (some (t166.toList == ([72,101,108,108,111,32,49,119,111,114,108,100,32,65,95,98] : List UInt8)))) else (some false))) else (some false))) else (some false)) else (none)) else (some false))) else (some false))
theorem bodkinlaw05_awake.mono : ∀ k,LeO (bodkinlaw05_awake.f k ) (bodkinlaw05_awake.f (k + 1) ) := by
 intro  k
 unfold bodkinlaw05_awake.f
 repeat' first
   | (with_reducible exact cluster_Next.mono _ _ _)
   | (with_reducible exact word_Ahead.mono _ _ _)
   | (with_reducible exact word_Behind.mono _ _ _)
   | (with_reducible exact LeO.refl _)
   | (with_reducible exact LeO.none _)
   | (with_reducible refine LeO.ite ?_ ?_)
   | (with_reducible refine LeO.bind ?_ (fun _ => ?_))
   | exact cluster_Next.mono _ _ _
   | exact word_Ahead.mono _ _ _
   | exact word_Behind.mono _ _ _
   | exact LeO.none _
   | refine LeO.ite ?_ ?_
   | refine LeO.bind ?_ (fun _ => ?_)
set_option maxHeartbeats 8000000 in
set_option maxRecDepth 100000 in
theorem bodkinlaw05_awake.calls (k : Nat)  (r : Bool) (hr_ : r = true) (w : World) (hT : Lib.Utf8Tabs 0 1 w) (h : bodkinlaw05_awake.f k  = some r) :
  Calls Tryd.prog 12 #[] w fun e w' => e = .returned (.bool r) ∧ Below w.heap.size w w' := by
 have hu32 := Tryd.underlying32
 have HT := Aside0.mk hT
 clear hT
 have HB := Aside0.mk (Below.refl w.heap.size w)
 have H : ((cluster_Next.f k (⟨#[97]⟩ : ByteArray) 0).bind fun t159 => (if t159 = 1 then ((word_Spans.f (⟨#[97,98,44,32,99,95,49,32,32]⟩ : ByteArray)).bind fun t160 => (if (t160.length : Int) = 2 then (if 1 < (t160.length : Int) then (if (((rd_T32 t160 1).f0) == 4 && (((rd_T32 t160 1).f1) == 7)) = true then ((word_Ahead.f k (⟨#[97,98,32,99,100]⟩ : ByteArray) 2).bind fun t164 => (if t164 = 5 then ((word_Behind.f k (⟨#[97,98,32,99,100]⟩ : ByteArray) 4).bind fun t165 => (if t165 = 3 then ((word_Capital.f (⟨#[104,101,76,76,79,32,49,119,79,82,76,68,32,97,95,98]⟩ : ByteArray)).bind fun t166 => (some (t166.toList == ([72,101,108,108,111,32,49,119,111,114,108,100,32,65,95,98] : List UInt8)))) else (some false))) else (some false))) else (some false)) else (none)) else (some false))) else (some false))) = some r := h
 clear h
 replace H := Option.bind_eq_some_iff.mp H
 obtain ⟨t159,A10,H⟩ := H
 replace H : (if t159 = 1 then ((word_Spans.f (⟨#[97,98,44,32,99,95,49,32,32]⟩ : ByteArray)).bind fun t160 => (if (t160.length : Int) = 2 then (if 1 < (t160.length : Int) then (if (((rd_T32 t160 1).f0) == 4 && (((rd_T32 t160 1).f1) == 7)) = true then ((word_Ahead.f k (⟨#[97,98,32,99,100]⟩ : ByteArray) 2).bind fun t164 => (if t164 = 5 then ((word_Behind.f k (⟨#[97,98,32,99,100]⟩ : ByteArray) 4).bind fun t165 => (if t165 = 3 then ((word_Capital.f (⟨#[104,101,76,76,79,32,49,119,79,82,76,68,32,97,95,98]⟩ : ByteArray)).bind fun t166 => (some (t166.toList == ([72,101,108,108,111,32,49,119,111,114,108,100,32,65,95,98] : List UInt8)))) else (some false))) else (some false))) else (some false)) else (none)) else (some false))) else (some false)) = some r := H
 have A1 := Aside0.mk A10
 clear A10
 by_cases c2 : t159 = 1
 ·rw [if_pos c2] at H
  have c2b0 : (t159 == 1) = true := beq_iff_eq.mpr c2
  have c2b1 : (t159 != 1) = false := bne_eq_false_iff_eq.mpr c2
  clear c2
  replace H := Option.bind_eq_some_iff.mp H
  obtain ⟨t160,A30,H⟩ := H
  replace H : (if (t160.length : Int) = 2 then (if 1 < (t160.length : Int) then (if (((rd_T32 t160 1).f0) == 4 && (((rd_T32 t160 1).f1) == 7)) = true then ((word_Ahead.f k (⟨#[97,98,32,99,100]⟩ : ByteArray) 2).bind fun t164 => (if t164 = 5 then ((word_Behind.f k (⟨#[97,98,32,99,100]⟩ : ByteArray) 4).bind fun t165 => (if t165 = 3 then ((word_Capital.f (⟨#[104,101,76,76,79,32,49,119,79,82,76,68,32,97,95,98]⟩ : ByteArray)).bind fun t166 => (some (t166.toList == ([72,101,108,108,111,32,49,119,111,114,108,100,32,65,95,98] : List UInt8)))) else (some false))) else (some false))) else (some false)) else (none)) else (some false)) = some r := H
  have A3 := Aside0.mk A30
  clear A30
  by_cases c4 : (t160.length : Int) = 2
  ·rw [if_pos c4] at H
   have c4b0 : ((t160.length : Int) == 2) = true := beq_iff_eq.mpr c4
   have c4b1 : ((t160.length : Int) != 2) = false := bne_eq_false_iff_eq.mpr c4
   clear c4
   by_cases c5 : 1 < (t160.length : Int)
   ·rw [if_pos c5] at H
    have c5b0 : decide (1 < (t160.length : Int)) = true := decide_eq_true c5
    have c5b1 : decide (1 < t160.length) = true := decide_eq_true (by omega)
    clear c5
    by_cases c6 : (((rd_T32 t160 1).f0) == 4 && (((rd_T32 t160 1).f1) == 7)) = true
    ·rw [if_pos c6] at H
     have c6b0 : (((rd_T32 t160 1).f0) == 4 && (((rd_T32 t160 1).f1) == 7)) = true := c6
     (try (have c6b1 : decide (((rd_T32 t160 1).f0) = 4 && (((rd_T32 t160 1).f1) == 7)) = true := by simpa using c6))
     (try (have c6b2 : (((rd_T32 t160 1).f0) == 4 && (((rd_T32 t160 1).f1) == 7)) = true := by simpa using c6))
     clear c6
     replace H := Option.bind_eq_some_iff.mp H
     obtain ⟨t164,A70,H⟩ := H
     replace H : (if t164 = 5 then ((word_Behind.f k (⟨#[97,98,32,99,100]⟩ : ByteArray) 4).bind fun t165 => (if t165 = 3 then ((word_Capital.f (⟨#[104,101,76,76,79,32,49,119,79,82,76,68,32,97,95,98]⟩ : ByteArray)).bind fun t166 => (some (t166.toList == ([72,101,108,108,111,32,49,119,111,114,108,100,32,65,95,98] : List UInt8)))) else (some false))) else (some false)) = some r := H
     have A7 := Aside0.mk A70
     clear A70
     by_cases c8 : t164 = 5
     ·rw [if_pos c8] at H
      have c8b0 : (t164 == 5) = true := beq_iff_eq.mpr c8
      have c8b1 : (t164 != 5) = false := bne_eq_false_iff_eq.mpr c8
      clear c8
      replace H := Option.bind_eq_some_iff.mp H
      obtain ⟨t165,A90,H⟩ := H
      replace H : (if t165 = 3 then ((word_Capital.f (⟨#[104,101,76,76,79,32,49,119,79,82,76,68,32,97,95,98]⟩ : ByteArray)).bind fun t166 => (some (t166.toList == ([72,101,108,108,111,32,49,119,111,114,108,100,32,65,95,98] : List UInt8)))) else (some false)) = some r := H
      have A9 := Aside0.mk A90
      clear A90
      by_cases c10 : t165 = 3
      ·rw [if_pos c10] at H
       have c10b0 : (t165 == 3) = true := beq_iff_eq.mpr c10
       have c10b1 : (t165 != 3) = false := bne_eq_false_iff_eq.mpr c10
       clear c10
       replace H := Option.bind_eq_some_iff.mp H
       obtain ⟨t166,A110,H⟩ := H
       replace H : (some (t166.toList == ([72,101,108,108,111,32,49,119,111,114,108,100,32,65,95,98] : List UInt8))) = some r := H
       have A11 := Aside0.mk A110
       clear A110
       obtain rfl := Option.some.inj H
       go_enter Tryd.func12,Tryd.ntmps12
       go_wp2_with (first | ((with_reducible refine gate_callee (f := 27) rfl ?_);refine goesL_ (some 2) rfl rfl Tryd.func27 (by kernel_rfl) rfl #[.string (⟨#[97]⟩ : ByteArray),.int .i64 0] rfl au1 ?_;(with_reducible refine (cluster_Next.calls k (⟨#[97]⟩ : ByteArray) 0 t159 _ ?side1 A1.out).mono ?_);(case side1 => exact tabs_below HT.out au0);rintro e w12 ⟨rfl,hb⟩;refine ⟨_,rfl,?_⟩;have n0_ := Aside0.mk (below_step au0 hb);clear HB;have HB := n0_;clear n0_;(try clear hb);(try clear hb2);(try clear hk);(try clear hi)) | ((with_reducible refine gate_callee (f := 20) rfl ?_);refine goesL_ (some 4) rfl rfl Tryd.func20 (by kernel_rfl) rfl #[.string (⟨#[97,98,44,32,99,95,49,32,32]⟩ : ByteArray)] rfl au1 ?_;(with_reducible refine (word_Spans.calls (⟨#[97,98,44,32,99,95,49,32,32]⟩ : ByteArray) t160 _ ?side1 A3.out).mono ?_);(case side1 => exact tabs_below HT.out au0);rintro e w13 ⟨v161,rfl,ho0,hb⟩;refine ⟨_,rfl,?_⟩;have n0_ := Aside0.mk (Kd.R_lower ho0 (below_size au0));have n1_ := Aside0.mk (below_step au0 hb);clear HB;have HO162 := n0_;have HB := n1_;clear n0_ n1_;(try clear hb);(try clear hb2);(try clear hk);(try clear hi);(try clear ho0);obtain ⟨Ao14,co14,eo14⟩ := Kd.R_slice HO162.out;subst eo14;have p163 : 0 ≤ (1 : Int) := (by omega);have q163 : 1 < (t160.length : Int) := of_decide_eq_true au11;obtain ⟨ad163,e163,hx163_0,hx163_1⟩ := at_T32 (Kd.R_reads' HO162.out).2.2 1 p163 q163;cases e163;(try simp only [show (1 : Int).toNat = 1 from rfl,Nat.reduceMul,Nat.reduceEqDiff,Go.Addr.add,↓reduceIte] at hx163_0);(try simp only [show (1 : Int).toNat = 1 from rfl,Nat.reduceMul,Nat.reduceEqDiff,Go.Addr.add,↓reduceIte] at hx163_1);have qi163 : (1 < t160.length) = True := eq_true (by omega);(try rw [show ((1 : Int)).toNat = 1 from rfl] at hx163_0);(try rw [show 1 * 2 = 2 from rfl] at hx163_0);(try rw [show ((1 : Int)).toNat = 1 from rfl] at hx163_1);(try rw [show 1 * 2 = 2 from rfl] at hx163_1);replace p163 := eq_true p163;replace q163 := eq_true q163) | (go_at_call 22;(with_reducible refine (word_Ahead.calls k (⟨#[97,98,32,99,100]⟩ : ByteArray) 2 t164 _ ?side1 A7.out).mono ?_);(case side1 => exact tabs_below HT.out au0);rintro e w15 ⟨rfl,hb⟩;have n0_ := Aside0.mk (Kd.R_below (by (with_reducible repeat (first | apply Kd.R_alloc | apply Kd.R_drewN | apply Kd.R_drew));exact HO162.out) hb);have n1_ := Aside0.mk (below_step au0 hb);clear HO162;clear HB;have HO162 := n0_;have HB := n1_;clear n0_ n1_;(try clear hb);(try clear hb2);(try clear hk);(try clear hi)) | (go_at_call 24;(with_reducible refine (word_Behind.calls k (⟨#[97,98,32,99,100]⟩ : ByteArray) 4 t165 _ ?side1 A9.out).mono ?_);(case side1 => exact tabs_below HT.out au0);rintro e w16 ⟨rfl,hb⟩;have n0_ := Aside0.mk (Kd.R_below (by (with_reducible repeat (first | apply Kd.R_alloc | apply Kd.R_drewN | apply Kd.R_drew));exact HO162.out) hb);have n1_ := Aside0.mk (below_step au0 hb);clear HO162;clear HB;have HO162 := n0_;have HB := n1_;clear n0_ n1_;(try clear hb);(try clear hb2);(try clear hk);(try clear hi)) | (go_at_call 34;(with_reducible refine (word_Capital.calls (⟨#[104,101,76,76,79,32,49,119,79,82,76,68,32,97,95,98]⟩ : ByteArray) t166 _ ?side1 A11.out).mono ?_);(case side1 => exact tabs_below HT.out au0);rintro e w17 ⟨rfl,hb⟩;have n0_ := Aside0.mk (Kd.R_below (by (with_reducible repeat (first | apply Kd.R_alloc | apply Kd.R_drewN | apply Kd.R_drew));exact HO162.out) hb);have n1_ := Aside0.mk (below_step au0 hb);clear HO162;clear HB;have HO162 := n0_;have HB := n1_;clear n0_ n1_;(try clear hb);(try clear hb2);(try clear hk);(try clear hi)))
       go_ret
       exact ⟨au2,au0⟩
      ·rw [if_neg c10] at H
       have c10b0 : (t165 == 3) = false := beq_eq_false_iff_ne.mpr c10
       have c10b1 : (t165 != 3) = true := bne_iff_ne.mpr c10
       obtain rfl := Option.some.inj H
       cases hr_
     ·rw [if_neg c8] at H
      have c8b0 : (t164 == 5) = false := beq_eq_false_iff_ne.mpr c8
      have c8b1 : (t164 != 5) = true := bne_iff_ne.mpr c8
      obtain rfl := Option.some.inj H
      cases hr_
    ·rw [if_neg c6] at H
     have c6b0 : (((rd_T32 t160 1).f0) == 4 && (((rd_T32 t160 1).f1) == 7)) = false := by simpa using c6
     (try (have c6b1 : decide (((rd_T32 t160 1).f0) = 4 && (((rd_T32 t160 1).f1) == 7)) = false := by simpa using c6))
     (try (have c6b2 : (((rd_T32 t160 1).f0) == 4 && (((rd_T32 t160 1).f1) == 7)) = false := by simpa using c6))
     (try (have c6b3 : ¬ (((rd_T32 t160 1).f0) = 4 && (((rd_T32 t160 1).f1) == 7)) := by simpa using c6))
     clear c6
     obtain rfl := Option.some.inj H
     cases hr_
   ·rw [if_neg c5] at H
    exact absurd H (by simp)
  ·rw [if_neg c4] at H
   have c4b0 : ((t160.length : Int) == 2) = false := beq_eq_false_iff_ne.mpr c4
   have c4b1 : ((t160.length : Int) != 2) = true := bne_iff_ne.mpr c4
   obtain rfl := Option.some.inj H
   cases hr_
 ·rw [if_neg c2] at H
  have c2b0 : (t159 == 1) = false := beq_eq_false_iff_ne.mpr c2
  have c2b1 : (t159 != 1) = true := bne_iff_ne.mpr c2
  obtain rfl := Option.some.inj H
  cases hr_
end Go.Proofs.YtkficbgnjpekaaaDoor.U
end
