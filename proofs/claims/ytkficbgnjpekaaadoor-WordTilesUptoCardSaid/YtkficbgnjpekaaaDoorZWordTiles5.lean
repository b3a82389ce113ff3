/- What the law WordTiles reaches of this seat's own texts, merged; what nothing uses is left out. -/
import Derived.Test.YtkficbgnjpekaaaDoorZWordTiles0
import Derived.Test.YtkficbgnjpekaaaDoorZWordTiles1
import Derived.Test.YtkficbgnjpekaaaDoorZWordTiles2
import Derived.Test.YtkficbgnjpekaaaDoorZWordTiles3
import Derived.Test.YtkficbgnjpekaaaDoorZWordTiles4
section
namespace Go.Proofs.YtkficbgnjpekaaaDoor.U
open Go.RowKit Go.Proofs.YtkficbgnjpekaaaDoorW.PrintWords Go.Proofs.YtkficbgnjpekaaaDoorW.PrintLast Go.Proofs.YtkficbgnjpekaaaDoorW.PrintMore
attribute [local go_sem] max2_int min2_int max_two min_two max_three min_three max_four min_four   -- for this text's walks alone
set_option linter.unusedVariables false
set_option linter.unusedSimpArgs false
mutual
def bodkinlaw05_WordTiles.l0 : Nat → ByteArray → List (S32) → Int → Int → Option (Bool)
 | 0,_,_,_,_ => none
 | k + 1,x0,x3,x4,x5 => if x5 < (x0.size : Int) then (if x4 < (x3.length : Int) then (if 0 ≤ x4 then (if ((rd_T32 x3 x4).f0) ≤ x5 then (bodkinlaw05_WordTiles.j1 k x0 x3 x4 x5 (decide (x5 < ((rd_T32 x3 x4).f1)))) else (bodkinlaw05_WordTiles.j1 k x0 x3 x4 x5 false)) else (none)) else (bodkinlaw05_WordTiles.j1 k x0 x3 x4 x5 false)) else (some (x4 == (x3.length : Int)))
def bodkinlaw05_WordTiles.j1 : Nat → ByteArray → List (S32) → Int → Int → Bool → Option (Bool)
 | 0,_,_,_,_,_ => none
 | k + 1,x0,x3,x4,x5,x6 => (bodkinlaw05_wordly.f k x0 x5).bind fun t381 => (if (x6 != t381) = true then (some false) else ((cluster_Next.f k x0 x5).bind fun t382 => (if t382 ≤ x5 then (some false) else (if x6 = true then (if 0 ≤ x4 then (if x4 < (x3.length : Int) then (bodkinlaw05_WordTiles.j2 k x0 x3 x4 x6 t382 (decide (t382 > ((rd_T32 x3 x4).f1)))) else (none)) else (none)) else (bodkinlaw05_WordTiles.j2 k x0 x3 x4 x6 t382 false)))))
def bodkinlaw05_WordTiles.j2 : Nat → ByteArray → List (S32) → Int → Bool → Int → Bool → Option (Bool)
 | 0,_,_,_,_,_,_ => none
 | k + 1,x0,x3,x4,x6,x7,x58 => if x58 = true then (some false) else (if x6 = true then (if 0 ≤ x4 then (if x4 < (x3.length : Int) then (bodkinlaw05_WordTiles.j3 k x0 x3 x4 x7 (x7 == ((rd_T32 x3 x4).f1))) else (none)) else (none)) else (bodkinlaw05_WordTiles.j3 k x0 x3 x4 x7 false))
def bodkinlaw05_WordTiles.j3 : Nat → ByteArray → List (S32) → Int → Int → Bool → Option (Bool)
 | 0,_,_,_,_,_ => none
 | k + 1,x0,x3,x4,x7,x68 => if x68 = true then (if x7 < (x0.size : Int) then ((bodkinlaw05_wordly.f k x0 x7).bind fun t385 => (if t385 = true then (some false) else (bodkinlaw05_WordTiles.l0 k x0 x3 (wrap64 (x4 + 1)) x7))) else (bodkinlaw05_WordTiles.l0 k x0 x3 (wrap64 (x4 + 1)) x7)) else (bodkinlaw05_WordTiles.l0 k x0 x3 x4 x7)
end
def bodkinlaw05_WordTiles.f (k : Nat) (a0 : ByteArray) : Option (Bool) := (bodkinlaw05_awake.f k).bind fun t375 => (if t375 = true then ((word_Spans.f a0).bind fun t376 => (bodkinlaw05_WordTiles.l0 k a0 t376 0 0)) else (some false))
set_option maxHeartbeats 8000000 in
set_option maxRecDepth 100000 in
theorem bodkinlaw05_WordTiles.calls (k : Nat) (a0 : ByteArray) (r : Bool) (hr_ : r = true) (w : World) (hT : Lib.Utf8Tabs 0 1 w) (h : bodkinlaw05_WordTiles.f k a0 = some r) :
  Calls Tryd.prog 6 #[.string a0] w fun e w' => e = .returned (.bool r) ∧ Below w.heap.size w w' := by
 have HT := Aside0.mk hT
 clear hT
 have HB := Aside0.mk (Below.refl w.heap.size w)
 have H : ((bodkinlaw05_awake.f k).bind fun t375 => (if t375 = true then ((word_Spans.f a0).bind fun t376 => (bodkinlaw05_WordTiles.l0 k a0 t376 0 0)) else (some false))) = some r := h
 clear h
 replace H := Option.bind_eq_some_iff.mp H
 obtain ⟨t375,A20,H⟩ := H
 replace H : (if t375 = true then ((word_Spans.f a0).bind fun t376 => (bodkinlaw05_WordTiles.l0 k a0 t376 0 0)) else (some false)) = some r := H
 have A2 := Aside0.mk A20
 clear A20
 by_cases c3 : t375 = true
 ·subst c3
  have H1 : ((word_Spans.f a0).bind fun t376 => (bodkinlaw05_WordTiles.l0 k a0 t376 0 0)) = some r := by rw [if_pos rfl] at H;exact H
  clear H
  have H := H1
  clear H1
  replace H := Option.bind_eq_some_iff.mp H
  obtain ⟨t376,A40,H⟩ := H
  replace H : (bodkinlaw05_WordTiles.l0 k a0 t376 0 0) = some r := H
  have A4 := Aside0.mk A40
  clear A40
  have H' := Aside0.mk H
  clear H
  go_enter Tryd.func6,Tryd.ntmps6
  go_wp2_with (first | ((with_reducible refine gate_callee (f := 12) rfl ?_);refine goesL_ (some 8) rfl rfl Tryd.func12 (by kernel_rfl) rfl #[] rfl au1 ?_;(with_reducible refine (bodkinlaw05_awake.calls k true rfl _ ?side1 A2.out).mono ?_);(case side1 => exact tabs_below HT.out au0);rintro e w5 ⟨rfl,hb⟩;refine ⟨_,rfl,?_⟩;have n0_ := Aside0.mk (below_step au0 hb);clear HB;have HB := n0_;clear n0_;(try clear hb);(try clear hb2);(try clear hk);(try clear hi)) | ((with_reducible refine gate_callee (f := 20) rfl ?_);refine goesL_ (some 11) rfl rfl Tryd.func20 (by kernel_rfl) rfl #[.string a0] rfl au1 ?_;(with_reducible refine (word_Spans.calls a0 t376 _ ?side1 A4.out).mono ?_);(case side1 => exact tabs_below HT.out au0);rintro e w6 ⟨v377,rfl,ho0,hb⟩;refine ⟨_,rfl,?_⟩;have n0_ := Aside0.mk (Kd.R_lower ho0 (below_size au0));have n1_ := Aside0.mk (below_step au0 hb);clear HB;have HO378 := n0_;have HB := n1_;clear n0_ n1_;(try clear hb);(try clear hb2);(try clear hk);(try clear hi);(try clear ho0)))
  go_loopg [4,5] k (fun kq v4 v5 w' => ∃ (x4_1 : Int) (x5_1 : Int),v4 = .int .i64 x4_1 ∧ v5 = .int .i64 x5_1 ∧ Aside0 (bodkinlaw05_WordTiles.l0 kq a0 t376 x4_1 x5_1 = some r) ∧ Aside0 (kq ≤ k) ∧ Aside0 (Kd.R k32 32 w' w.heap.size (fun _ => True) v377 t376) ∧ Aside0 (Below w.heap.size w w'))
  case atStart => exact ⟨(0),(0),au3,au3,H',⟨Nat.le_refl _⟩,⟨by (with_reducible repeat (first | apply Kd.R_alloc | apply Kd.R_drewN | apply Kd.R_drew));exact HO378.out⟩,⟨au0⟩⟩
  case round =>
   clear H'
   try clear c1
   try clear c2
   try clear p2
   try clear c3
   try clear c6
   obtain ⟨x4_1,x5_1,rfl,rfl,HA,HK1,HO_3,HB⟩ := hrel
   cases gk with
   | zero => exact absurd HA.out (by simp [bodkinlaw05_WordTiles.l0])
   | succ k1 =>
    have H := HA.out
    clear HA
    simp only [bodkinlaw05_WordTiles.l0] at H
    by_cases c7 : x5_1 < (a0.size : Int)
    ·rw [if_pos c7] at H
     have c7b0 : decide (x5_1 < (a0.size : Int)) = true := decide_eq_true c7
     clear c7
     have HC8 := Aside0.mk H
     clear H
     go_upto_region 7 with (fail)
     go_cut [6] (fun v6 wc => ∃ (kq : Nat) (x6_7 : Bool),v6 = .bool x6_7 ∧ Aside0 (bodkinlaw05_WordTiles.j1 kq a0 t376 x4_1 x5_1 x6_7 = some r) ∧ Aside0 (kq ≤ k1) ∧ Aside0 (Kd.R k32 32 wc w.heap.size (fun _ => True) v377 t376) ∧ Aside0 (Below w.heap.size w wc))
     case first =>
      have H := HC8.out
      clear HC8
      by_cases c9 : x4_1 < (t376.length : Int)
      ·rw [if_pos c9] at H
       have c9b0 : decide (x4_1 < (t376.length : Int)) = true := decide_eq_true c9
       clear c9
       (first | rw [c9b0] | (simp only [i64_w,i32_w];rw [c9b0]) | skip)
       by_cases c10 : 0 ≤ x4_1
       ·rw [if_pos c10] at H
        have c10b0 : decide (0 ≤ x4_1) = true := decide_eq_true c10
        clear c10
        by_cases c11 : ((rd_T32 t376 x4_1).f0) ≤ x5_1
        ·rw [if_pos c11] at H
         have c11b0 : decide (((rd_T32 t376 x4_1).f0) ≤ x5_1) = true := decide_eq_true c11
         clear c11
         have H' := Aside0.mk H
         clear H
         obtain ⟨Ao12,co12,eo12⟩ := Kd.R_slice HO_3.out
         subst eo12
         have p379 : 0 ≤ (x4_1 : Int) := of_decide_eq_true au11
         have q379 : x4_1 < (t376.length : Int) := of_decide_eq_true au11
         obtain ⟨ad379,e379,hx379_0,hx379_1⟩ := at_T32 (Kd.R_reads' HO_3.out).2.2 x4_1 p379 q379
         cases e379
         replace p379 := eq_true p379
         replace q379 := eq_true q379
         have p380 : 0 ≤ (x4_1 : Int) := of_decide_eq_true au11
         have q380 : x4_1 < (t376.length : Int) := of_decide_eq_true au11
         obtain ⟨ad380,e380,hx380_0,hx380_1⟩ := at_T32 (Kd.R_reads' HO_3.out).2.2 x4_1 p380 q380
         obtain rfl : ad379 = ad380 := (by injection e380)
         replace p380 := eq_true p380
         replace q380 := eq_true q380
         go_wp2
         go_meet
         case rel => exact ⟨_,(decide (x5_1 < ((rd_T32 t376 x4_1).f1))),au3,H',⟨by have := HK1.out;first | omega | exact Nat.le_refl _⟩,⟨by (with_reducible repeat (first | apply Kd.R_alloc | apply Kd.R_drewN | apply Kd.R_drew));exact HO_3.out⟩,⟨au0⟩⟩
        ·rw [if_neg c11] at H
         have c11b0 : decide (((rd_T32 t376 x4_1).f0) ≤ x5_1) = false := decide_eq_false c11
         clear c11
         have H' := Aside0.mk H
         clear H
         obtain ⟨Ao13,co13,eo13⟩ := Kd.R_slice HO_3.out
         subst eo13
         have p379 : 0 ≤ (x4_1 : Int) := of_decide_eq_true au11
         have q379 : x4_1 < (t376.length : Int) := of_decide_eq_true au11
         obtain ⟨ad379,e379,hx379_0,hx379_1⟩ := at_T32 (Kd.R_reads' HO_3.out).2.2 x4_1 p379 q379
         cases e379
         replace p379 := eq_true p379
         replace q379 := eq_true q379
         go_wp2
         go_meet
         case rel => exact ⟨_,(false),au3,H',⟨by have := HK1.out;first | omega | exact Nat.le_refl _⟩,⟨by (with_reducible repeat (first | apply Kd.R_alloc | apply Kd.R_drewN | apply Kd.R_drew));exact HO_3.out⟩,⟨au0⟩⟩
       ·rw [if_neg c10] at H
        exact absurd H (by simp)
      ·rw [if_neg c9] at H
       have c9b0 : decide (x4_1 < (t376.length : Int)) = false := decide_eq_false c9
       clear c9
       (first | rw [c9b0] | (simp only [i64_w,i32_w];rw [c9b0]) | skip)
       have H' := Aside0.mk H
       clear H
       obtain ⟨Ao14,co14,eo14⟩ := Kd.R_slice HO_3.out
       subst eo14
       go_wp2
       go_meet
       case rel => exact ⟨_,(false),au3,H',⟨by have := HK1.out;first | omega | exact Nat.le_refl _⟩,⟨by (with_reducible repeat (first | apply Kd.R_alloc | apply Kd.R_drewN | apply Kd.R_drew));exact HO_3.out⟩,⟨au0⟩⟩
     case rest =>
      clear HC8
      try clear c1
      try clear c2
      try clear p2
      try clear c3
      try clear p3
      try clear q3
      try clear hx3
      try clear c6
      try clear c7
      try clear c7b0
      try clear c9
      try clear c9b0
      try clear c10
      try clear c10b0
      try clear c11
      try clear c11b0
      try clear c12
      try clear hx379_0
      try clear hx379_1
      try clear hx380_0
      try clear hx380_1
      try clear p2
      try clear p379
      try clear p380
      try clear q379
      try clear q380
      obtain ⟨kq,x6_7,rfl,HA,HJ7,HO_3,HB⟩ := hcut
      cases kq with
      | zero => exact absurd HA.out (by simp [bodkinlaw05_WordTiles.j1])
      | succ kj7 =>
       have H := HA.out
       clear HA
       simp only [bodkinlaw05_WordTiles.j1] at H
       replace H := Option.bind_eq_some_iff.mp H
       obtain ⟨t381,A150,H⟩ := H
       replace H : (if (x6_7 != t381) = true then (some false) else ((cluster_Next.f kj7 a0 x5_1).bind fun t382 => (if t382 ≤ x5_1 then (some false) else (if x6_7 = true then (if 0 ≤ x4_1 then (if x4_1 < (t376.length : Int) then (bodkinlaw05_WordTiles.j2 kj7 a0 t376 x4_1 x6_7 t382 (decide (t382 > ((rd_T32 t376 x4_1).f1)))) else (none)) else (none)) else (bodkinlaw05_WordTiles.j2 kj7 a0 t376 x4_1 x6_7 t382 false))))) = some r := H
       have A15 := Aside0.mk A150
       clear A150
       by_cases c16 : (x6_7 != t381) = true
       ·rw [if_pos c16] at H
        have c16b0 : (x6_7 != t381) = true := c16
        (try (have c16b1 : decide (x6_7 = t381) = false := by simpa using c16))
        (try (have c16b2 : (x6_7 == t381) = false := by simpa using c16))
        (try (have c16b3 : ¬ (x6_7 = t381) := by simpa using c16))
        clear c16
        obtain rfl := Option.some.inj H
        cases hr_
       ·rw [if_neg c16] at H
        have c16b0 : (x6_7 != t381) = false := by simpa using c16
        (try (have c16b1 : decide (x6_7 = t381) = true := by simpa using c16))
        (try (have c16b2 : (x6_7 == t381) = true := by simpa using c16))
        clear c16
        replace H := Option.bind_eq_some_iff.mp H
        obtain ⟨t382,A180,H⟩ := H
        replace H : (if t382 ≤ x5_1 then (some false) else (if x6_7 = true then (if 0 ≤ x4_1 then (if x4_1 < (t376.length : Int) then (bodkinlaw05_WordTiles.j2 kj7 a0 t376 x4_1 x6_7 t382 (decide (t382 > ((rd_T32 t376 x4_1).f1)))) else (none)) else (none)) else (bodkinlaw05_WordTiles.j2 kj7 a0 t376 x4_1 x6_7 t382 false))) = some r := H
        have A18 := Aside0.mk A180
        clear A180
        by_cases c19 : t382 ≤ x5_1
        ·rw [if_pos c19] at H
         have c19b0 : decide (t382 ≤ x5_1) = true := decide_eq_true c19
         clear c19
         obtain rfl := Option.some.inj H
         cases hr_
        ·rw [if_neg c19] at H
         have c19b0 : decide (t382 ≤ x5_1) = false := decide_eq_false c19
         clear c19
         have HC22 := Aside0.mk H
         clear H
         go_upto_region 13 with (first | ((with_reducible refine gate_callee (f := 26) rfl ?_);refine goesL_ (some 41) rfl rfl Tryd.func26 (by kernel_rfl) rfl #[.string a0,.int .i64 x5_1] rfl au1 ?_;(with_reducible refine (bodkinlaw05_wordly.calls kj7 a0 x5_1 t381 _ ?side1 A15.out).mono ?_);(case side1 => exact tabs_below HT.out au0);rintro e w23 ⟨rfl,hb⟩;refine ⟨_,rfl,?_⟩;have n0_ := Aside0.mk (Kd.R_below (by (with_reducible repeat (first | apply Kd.R_alloc | apply Kd.R_drewN | apply Kd.R_drew));exact HO_3.out) hb);have n1_ := Aside0.mk (below_step au0 hb);clear HO_3;clear HB;have HO_3 := n0_;have HB := n1_;clear n0_ n1_;(try clear hb);(try clear hb2);(try clear hk);(try clear hi)) | ((with_reducible refine gate_callee (f := 27) rfl ?_);refine goesL_ (some 45) rfl rfl Tryd.func27 (by kernel_rfl) rfl #[.string a0,.int .i64 x5_1] rfl au1 ?_;(with_reducible refine (cluster_Next.calls kj7 a0 x5_1 t382 _ ?side1 A18.out).mono ?_);(case side1 => exact tabs_below HT.out au0);rintro e w24 ⟨rfl,hb⟩;refine ⟨_,rfl,?_⟩;have n0_ := Aside0.mk (Kd.R_below (by (with_reducible repeat (first | apply Kd.R_alloc | apply Kd.R_drewN | apply Kd.R_drew));exact HO_3.out) hb);have n1_ := Aside0.mk (below_step au0 hb);clear HO_3;clear HB;have HO_3 := n0_;have HB := n1_;clear n0_ n1_;(try clear hb);(try clear hb2);(try clear hk);(try clear hi)))
         (try simp only [Act.put,List.setIfInBounds_toArray,List.set_cons_zero,List.set_cons_succ])
         go_cut [58] (fun v58 wc => ∃ (kq : Nat) (x58_21 : Bool),v58 = .bool x58_21 ∧ Aside0 (bodkinlaw05_WordTiles.j2 kq a0 t376 x4_1 x6_7 t382 x58_21 = some r) ∧ Aside0 (kq ≤ kj7) ∧ Aside0 (Kd.R k32 32 wc w.heap.size (fun _ => True) v377 t376) ∧ Aside0 (Below w.heap.size w wc))
         case first =>
          have H := HC22.out
          clear HC22
          by_cases c25 : x6_7 = true
          ·subst c25
           have H1 : (if 0 ≤ x4_1 then (if x4_1 < (t376.length : Int) then (bodkinlaw05_WordTiles.j2 kj7 a0 t376 x4_1 true t382 (decide (t382 > ((rd_T32 t376 x4_1).f1)))) else (none)) else (none)) = some r := by rw [if_pos rfl] at H;exact H
           clear H
           have H := H1
           clear H1
           by_cases c26 : 0 ≤ x4_1
           ·rw [if_pos c26] at H
            have c26b0 : decide (0 ≤ x4_1) = true := decide_eq_true c26
            clear c26
            (first | rw [c26b0] | (simp only [i64_w,i32_w];rw [c26b0]) | skip)
            by_cases c27 : x4_1 < (t376.length : Int)
            ·rw [if_pos c27] at H
             have c27b0 : decide (x4_1 < (t376.length : Int)) = true := decide_eq_true c27
             clear c27
             have H' := Aside0.mk H
             clear H
             obtain ⟨Ao28,co28,eo28⟩ := Kd.R_slice HO_3.out
             subst eo28
             have p383 : 0 ≤ (x4_1 : Int) := of_decide_eq_true au11
             have q383 : x4_1 < (t376.length : Int) := of_decide_eq_true au11
             obtain ⟨ad383,e383,hx383_0,hx383_1⟩ := at_T32 (Kd.R_reads' HO_3.out).2.2 x4_1 p383 q383
             cases e383
             replace p383 := eq_true p383
             replace q383 := eq_true q383
             go_wp2
             go_meet
             case rel => exact ⟨_,(decide (t382 > ((rd_T32 t376 x4_1).f1))),au3,H',⟨by have := HK1.out;have := HJ7.out;first | omega | exact Nat.le_refl _⟩,⟨by (with_reducible repeat (first | apply Kd.R_alloc | apply Kd.R_drewN | apply Kd.R_drew));exact HO_3.out⟩,⟨au0⟩⟩
            ·rw [if_neg c27] at H
             exact absurd H (by simp)
           ·rw [if_neg c26] at H
            exact absurd H (by simp)
          ·replace c25 := Bool.eq_false_iff.mpr c25
           subst c25
           have H1 : (bodkinlaw05_WordTiles.j2 kj7 a0 t376 x4_1 false t382 false) = some r := by rw [if_neg (show ¬ (false = true) by decide)] at H;exact H
           clear H
           have H := H1
           clear H1
           have H' := Aside0.mk H
           clear H
           go_wp2
           go_meet
           case rel => exact ⟨_,(false),au3,H',⟨by have := HK1.out;have := HJ7.out;first | omega | exact Nat.le_refl _⟩,⟨by (with_reducible repeat (first | apply Kd.R_alloc | apply Kd.R_drewN | apply Kd.R_drew));exact HO_3.out⟩,⟨au0⟩⟩
         case rest =>
          clear HC22
          try clear c1
          try clear c2
          try clear p2
          try clear c3
          try clear p3
          try clear q3
          try clear hx3
          try clear c6
          try clear c7
          try clear c7b0
          try clear c9
          try clear c9b0
          try clear c10
          try clear c10b0
          try clear c11
          try clear c11b0
          try clear c12
          try clear c16
          try clear c16b0
          try clear c16b1
          try clear c16b2
          try clear c19
          try clear c19b0
          try clear c20
          try clear c25
          try clear c26
          try clear c26b0
          try clear c27
          try clear c27b0
          try clear hx379_0
          try clear hx379_1
          try clear hx380_0
          try clear hx380_1
          try clear hx383_0
          try clear hx383_1
          try clear p2
          try clear p3
          try clear p379
          try clear p380
          try clear p383
          try clear q3
          try clear q379
          try clear q380
          try clear q383
          obtain ⟨kq,x58_21,rfl,HA,HJ21,HO_3,HB⟩ := hcut
          cases kq with
          | zero => exact absurd HA.out (by simp [bodkinlaw05_WordTiles.j2])
          | succ kj21 =>
           have H := HA.out
           clear HA
           simp only [bodkinlaw05_WordTiles.j2] at H
           by_cases c29 : x58_21 = true
           ·subst c29
            have H1 : (some false) = some r := by rw [if_pos rfl] at H;exact H
            clear H
            have H := H1
            clear H1
            obtain rfl := Option.some.inj H
            cases hr_
           ·replace c29 := Bool.eq_false_iff.mpr c29
            subst c29
            have H1 : (if x6_7 = true then (if 0 ≤ x4_1 then (if x4_1 < (t376.length : Int) then (bodkinlaw05_WordTiles.j3 kj21 a0 t376 x4_1 t382 (t382 == ((rd_T32 t376 x4_1).f1))) else (none)) else (none)) else (bodkinlaw05_WordTiles.j3 kj21 a0 t376 x4_1 t382 false)) = some r := by rw [if_neg (show ¬ (false = true) by decide)] at H;exact H
            clear H
            have H := H1
            clear H1
            have HC30 := Aside0.mk H
            clear H
            go_upto_region 15 with (fail)
            go_cut [68] (fun v68 wc => ∃ (kq : Nat) (x68_29 : Bool),v68 = .bool x68_29 ∧ Aside0 (bodkinlaw05_WordTiles.j3 kq a0 t376 x4_1 t382 x68_29 = some r) ∧ Aside0 (kq ≤ kj21) ∧ Aside0 (Kd.R k32 32 wc w.heap.size (fun _ => True) v377 t376) ∧ Aside0 (Below w.heap.size w wc))
            case first =>
             have H := HC30.out
             clear HC30
             by_cases c31 : x6_7 = true
             ·subst c31
              have H1 : (if 0 ≤ x4_1 then (if x4_1 < (t376.length : Int) then (bodkinlaw05_WordTiles.j3 kj21 a0 t376 x4_1 t382 (t382 == ((rd_T32 t376 x4_1).f1))) else (none)) else (none)) = some r := by rw [if_pos rfl] at H;exact H
              clear H
              have H := H1
              clear H1
              by_cases c32 : 0 ≤ x4_1
              ·rw [if_pos c32] at H
               have c32b0 : decide (0 ≤ x4_1) = true := decide_eq_true c32
               clear c32
               (first | rw [c32b0] | (simp only [i64_w,i32_w];rw [c32b0]) | skip)
               by_cases c33 : x4_1 < (t376.length : Int)
               ·rw [if_pos c33] at H
                have c33b0 : decide (x4_1 < (t376.length : Int)) = true := decide_eq_true c33
                clear c33
                have H' := Aside0.mk H
                clear H
                obtain ⟨Ao34,co34,eo34⟩ := Kd.R_slice HO_3.out
                subst eo34
                have p384 : 0 ≤ (x4_1 : Int) := of_decide_eq_true au11
                have q384 : x4_1 < (t376.length : Int) := of_decide_eq_true au11
                obtain ⟨ad384,e384,hx384_0,hx384_1⟩ := at_T32 (Kd.R_reads' HO_3.out).2.2 x4_1 p384 q384
                cases e384
                replace p384 := eq_true p384
                replace q384 := eq_true q384
                go_wp2
                go_meet
                case rel => exact ⟨_,((t382 == ((rd_T32 t376 x4_1).f1))),au3,H',⟨by have := HK1.out;have := HJ7.out;have := HJ21.out;first | omega | exact Nat.le_refl _⟩,⟨by (with_reducible repeat (first | apply Kd.R_alloc | apply Kd.R_drewN | apply Kd.R_drew));exact HO_3.out⟩,⟨au0⟩⟩
               ·rw [if_neg c33] at H
                exact absurd H (by simp)
              ·rw [if_neg c32] at H
               exact absurd H (by simp)
             ·replace c31 := Bool.eq_false_iff.mpr c31
              subst c31
              have H1 : (bodkinlaw05_WordTiles.j3 kj21 a0 t376 x4_1 t382 false) = some r := by rw [if_neg (show ¬ (false = true) by decide)] at H;exact H
              clear H
              have H := H1
              clear H1
              have H' := Aside0.mk H
              clear H
              go_wp2
              go_meet
              case rel => exact ⟨_,(false),au3,H',⟨by have := HK1.out;have := HJ7.out;have := HJ21.out;first | omega | exact Nat.le_refl _⟩,⟨by (with_reducible repeat (first | apply Kd.R_alloc | apply Kd.R_drewN | apply Kd.R_drew));exact HO_3.out⟩,⟨au0⟩⟩
            case rest =>
             clear HC30
             try clear c1
             try clear c2
             try clear p2
             try clear c3
             try clear p3
             try clear q3
             try clear hx3
             try clear c6
             try clear c7
             try clear c7b0
             try clear c9
             try clear c9b0
             try clear c10
             try clear c10b0
             try clear c11
             try clear c11b0
             try clear c12
             try clear c16
             try clear c16b0
             try clear c16b1
             try clear c16b2
             try clear c19
             try clear c19b0
             try clear c20
             try clear c25
             try clear c26
             try clear c26b0
             try clear c27
             try clear c27b0
             try clear c29
             try clear c31
             try clear c32
             try clear c32b0
             try clear c33
             try clear c33b0
             try clear hx379_0
             try clear hx379_1
             try clear hx380_0
             try clear hx380_1
             try clear hx383_0
             try clear hx383_1
             try clear hx384_0
             try clear hx384_1
             try clear p2
             try clear p3
             try clear p379
             try clear p380
             try clear p383
             try clear p384
             try clear q3
             try clear q379
             try clear q380
             try clear q383
             try clear q384
             obtain ⟨kq,x68_29,rfl,HA,HJ29,HO_3,HB⟩ := hcut
             cases kq with
             | zero => exact absurd HA.out (by simp [bodkinlaw05_WordTiles.j3])
             | succ kj29 =>
              have H := HA.out
              clear HA
              simp only [bodkinlaw05_WordTiles.j3] at H
              by_cases c35 : x68_29 = true
              ·subst c35
               have H1 : (if t382 < (a0.size : Int) then ((bodkinlaw05_wordly.f kj29 a0 t382).bind fun t385 => (if t385 = true then (some false) else (bodkinlaw05_WordTiles.l0 kj29 a0 t376 (wrap64 (x4_1 + 1)) t382))) else (bodkinlaw05_WordTiles.l0 kj29 a0 t376 (wrap64 (x4_1 + 1)) t382)) = some r := by rw [if_pos rfl] at H;exact H
               clear H
               have H := H1
               clear H1
               by_cases c36 : t382 < (a0.size : Int)
               ·rw [if_pos c36] at H
                have c36b0 : decide (t382 < (a0.size : Int)) = true := decide_eq_true c36
                clear c36
                replace H := Option.bind_eq_some_iff.mp H
                obtain ⟨t385,A370,H⟩ := H
                replace H : (if t385 = true then (some false) else (bodkinlaw05_WordTiles.l0 kj29 a0 t376 (wrap64 (x4_1 + 1)) t382)) = some r := H
                have A37 := Aside0.mk A370
                clear A370
                by_cases c38 : t385 = true
                ·subst c38
                 have H1 : (some false) = some r := by rw [if_pos rfl] at H;exact H
                 clear H
                 have H := H1
                 clear H1
                 obtain rfl := Option.some.inj H
                 cases hr_
                ·replace c38 := Bool.eq_false_iff.mpr c38
                 subst c38
                 have H1 : (bodkinlaw05_WordTiles.l0 kj29 a0 t376 (wrap64 (x4_1 + 1)) t382) = some r := by rw [if_neg (show ¬ (false = true) by decide)] at H;exact H
                 clear H
                 have H := H1
                 clear H1
                 have H' := Aside0.mk H
                 clear H
                 go_wp2_with (first | (go_at_call 26;(with_reducible refine (bodkinlaw05_wordly.calls kj29 a0 t382 false _ ?side1 A37.out).mono ?_);(case side1 => exact tabs_below HT.out au0);rintro e w40 ⟨rfl,hb⟩;have n0_ := Aside0.mk (Kd.R_below (by (with_reducible repeat (first | apply Kd.R_alloc | apply Kd.R_drewN | apply Kd.R_drew));exact HO_3.out) hb);have n1_ := Aside0.mk (below_step au0 hb);clear HO_3;clear HB;have HO_3 := n0_;have HB := n1_;clear n0_ n1_;(try clear hb);(try clear hb2);(try clear hk);(try clear hi)))
                 go_roundg kj29
                 case measure => have := HK1.out;have := HJ7.out;have := HJ21.out;have := HJ29.out;omega
                 case rel => exact ⟨(wrap64 (x4_1 + 1)),(t382),au3,au3,H',⟨by have := HK1.out;have := HJ7.out;have := HJ21.out;have := HJ29.out;omega⟩,⟨by (with_reducible repeat (first | apply Kd.R_alloc | apply Kd.R_drewN | apply Kd.R_drew));exact HO_3.out⟩,⟨au0⟩⟩
               ·rw [if_neg c36] at H
                have c36b0 : decide (t382 < (a0.size : Int)) = false := decide_eq_false c36
                clear c36
                have H' := Aside0.mk H
                clear H
                go_wp2
                go_roundg kj29
                case measure => have := HK1.out;have := HJ7.out;have := HJ21.out;have := HJ29.out;omega
                case rel => exact ⟨(wrap64 (x4_1 + 1)),(t382),au3,au3,H',⟨by have := HK1.out;have := HJ7.out;have := HJ21.out;have := HJ29.out;omega⟩,⟨by (with_reducible repeat (first | apply Kd.R_alloc | apply Kd.R_drewN | apply Kd.R_drew));exact HO_3.out⟩,⟨au0⟩⟩
              ·replace c35 := Bool.eq_false_iff.mpr c35
               subst c35
               have H1 : (bodkinlaw05_WordTiles.l0 kj29 a0 t376 x4_1 t382) = some r := by rw [if_neg (show ¬ (false = true) by decide)] at H;exact H
               clear H
               have H := H1
               clear H1
               have H' := Aside0.mk H
               clear H
               go_wp2
               go_roundg kj29
               case measure => have := HK1.out;have := HJ7.out;have := HJ21.out;have := HJ29.out;omega
               case rel => exact ⟨(x4_1),(t382),au3,au3,H',⟨by have := HK1.out;have := HJ7.out;have := HJ21.out;have := HJ29.out;omega⟩,⟨by (with_reducible repeat (first | apply Kd.R_alloc | apply Kd.R_drewN | apply Kd.R_drew));exact HO_3.out⟩,⟨au0⟩⟩
    ·rw [if_neg c7] at H
     have c7b0 : decide (x5_1 < (a0.size : Int)) = false := decide_eq_false c7
     clear c7
     obtain rfl := Option.some.inj H
     obtain ⟨Ao41,co41,eo41⟩ := Kd.R_slice HO_3.out
     subst eo41
     go_wp2
     go_ret
     exact ⟨au2,au0⟩
 ·replace c3 := Bool.eq_false_iff.mpr c3
  subst c3
  have H1 : (some false) = some r := by rw [if_neg (show ¬ (false = true) by decide)] at H;exact H
  clear H
  have H := H1
  clear H1
  obtain rfl := Option.some.inj H
  cases hr_
end Go.Proofs.YtkficbgnjpekaaaDoor.U
end
section
namespace Go.Proofs.YtkficbgnjpekaaaDoor.Pu
open Go Go.RowKit Go.Proofs.YtkficbgnjpekaaaDoor.Mu Go.Proofs.YtkficbgnjpekaaaDoor.U Go.Proofs.YtkficbgnjpekaaaDoorW.PrintWords Go.Proofs.YtkficbgnjpekaaaDoorW.PrintLast Go.Proofs.YtkficbgnjpekaaaDoorW.PrintMore
theorem awake_ans : Ev (fun k => bodkinlaw05_awake.f k) true := Ev.of (fun k => bodkinlaw05_awake.mono k) (k := 200) (by kernel_rfl)
end Go.Proofs.YtkficbgnjpekaaaDoor.Pu
end
section
namespace Go.Proofs.YtkficbgnjpekaaaDoor.Pu
open Go Go.RowKit Go.Proofs.YtkficbgnjpekaaaDoor.Mu Go.Proofs.YtkficbgnjpekaaaDoor.U Go.Proofs.YtkficbgnjpekaaaDoorW.PrintWords Go.Proofs.YtkficbgnjpekaaaDoorW.PrintLast Go.Proofs.YtkficbgnjpekaaaDoorW.PrintMore
set_option linter.unusedVariables false
set_option linter.unusedSimpArgs false
/-- Does a cluster stand in a word? -/
def wC (s : ByteArray) (c : S61) : Bool := wAt s c.f0.toNat
def spR (s : ByteArray) : Option (Int × Int) → List S61 → List S32
 | none,[] => []
 | some (a,b),[] => [⟨a,b⟩]
 | none,c :: cs => if wC s c = true then spR s (some (c.f0,c.f1)) cs else spR s none cs
 | some (a,b),c :: cs => if wC s c = true then spR s (some (a,c.f1)) cs else ⟨a,b⟩ :: spR s none cs
theorem sp_fold (s : ByteArray) : ∀ (cs : List S61) (L : List S32),(cs.foldl (spStep s) (false,L)).2 = L ++ spR s none cs ∧ ∀ a b,(cs.foldl (spStep s) (true,L ++ [⟨a,b⟩])).2 = L ++ spR s (some (a,b)) cs
 | [],L => ⟨by simp [spR],fun a b => by simp [spR]⟩
 | c :: cs,L => by
  refine ⟨?_,fun a b => ?_⟩
  ·rw [List.foldl_cons,spR]
   cases hw : wC s c with
   | true => rw [spStep_new s L c hw,(sp_fold s cs L).2,if_pos rfl]
   | false => rw [spStep_off s false L c hw,(sp_fold s cs L).1,if_neg (by simp)]
  ·rw [List.foldl_cons,spR]
   cases hw : wC s c with
   | true => rw [spStep_on s L a b c hw,(sp_fold s cs L).2,if_pos rfl]
   | false => rw [spStep_off s true (L ++ [(⟨a,b⟩ : S32)]) c hw,(sp_fold s cs (L ++ [(⟨a,b⟩ : S32)])).1,if_neg (by simp),List.append_assoc];rfl
theorem spans_runs (s : ByteArray) : spansL s = spR s none (clusL s) := by
 have := (sp_fold s (clusL s) []).1
 rw [List.nil_append] at this
 exact this
/-- Where the run that has come to b ends. -/
def endR (s : ByteArray) : Int → List S61 → Int
 | b,[] => b
 | b,c :: cs => if wC s c = true then endR s c.f1 cs else b
def refR (s : ByteArray) : Bool → List S61 → List S32
 | _,[] => []
 | p,c :: cs => if wC s c = true ∧ p = false then ⟨c.f0,endR s c.f1 cs⟩ :: refR s (wC s c) cs else refR s (wC s c) cs
theorem runs_ref (s : ByteArray) : ∀ cs : List S61,spR s none cs = refR s false cs ∧ ∀ a b,spR s (some (a,b)) cs = ⟨a,endR s b cs⟩ :: refR s true cs
 | [] => ⟨rfl,fun _ _ => rfl⟩
 | c :: cs => by
  obtain ⟨h1,h2⟩ := runs_ref s cs
  refine ⟨?_,fun a b => ?_⟩
  ·rw [spR,refR]
   cases hw : wC s c with
   | true => rw [if_pos rfl,if_pos ⟨rfl,rfl⟩,h2]
   | false => rw [if_neg (by simp),if_neg (by simp),h1]
  ·rw [spR,refR,endR]
   cases hw : wC s c with
   | true => rw [if_pos rfl,if_pos rfl,if_neg (by simp),h2]
   | false => rw [if_neg (by simp),if_neg (by simp),if_neg (by simp),h1]
section
variable (s : ByteArray) (hs : s.size ≤ 1099511627776)
end
theorem spans_ev (s : ByteArray) (hs : s.size ≤ 1099511627776) : word_Spans.f s = some (spansL s) := by unfold word_Spans.f;rw [if_pos hs]
theorem rd_span (L : List S32) (i : Nat) (c : S32) (cs : List S32) (h : L.drop i = c :: cs) : i < L.length ∧ rd_T32 L i = c ∧ L.drop (i + 1) = cs := by
 obtain ⟨hi,hg,hd⟩ := drop_cons' (d := z32) h
 exact ⟨hi,by unfold rd_T32;rw [Int.toNat_natCast];exact hg,hd⟩
end Go.Proofs.YtkficbgnjpekaaaDoor.Pu
end
section
namespace Go.Proofs.YtkficbgnjpekaaaDoor.Pu
open Go Go.RowKit Go.Proofs.YtkficbgnjpekaaaDoor.Mu Go.Proofs.YtkficbgnjpekaaaDoor.U Go.Proofs.YtkficbgnjpekaaaDoorW.PrintWords Go.Proofs.YtkficbgnjpekaaaDoorW.PrintLast Go.Proofs.YtkficbgnjpekaaaDoorW.PrintMore
set_option linter.unusedVariables false
set_option linter.unusedSimpArgs false
theorem wC_at (s : ByteArray) (x : Nat) : wC s (clAt s x) = wAt s x := by
 unfold wC;rw [show (clAt s x).f0 = (x : Int) from rfl,Int.toNat_natCast]
theorem clAt_f0 (s : ByteArray) (x : Nat) : (clAt s x).f0 = (x : Int) := rfl
theorem clAt_f1 (s : ByteArray) (x : Nat) : (clAt s x).f1 = (nxt s x : Int) := rfl
/-- Spans in order,from x on. -/
structure InOrd (s : ByteArray) (x : Int) (l : List S32) : Prop where
 one : ∀ p ∈ l,x ≤ p.f0 ∧ p.f0 < p.f1 ∧ CBI s p.f0 ∧ CBI s p.f1
 ord : l.Pairwise (fun p q => p.f1 < q.f0)
theorem InOrd.nil (s : ByteArray) (x : Int) : InOrd s x [] := ⟨(fun _ h => by cases h),List.Pairwise.nil⟩
theorem InOrd.mono {s : ByteArray} {x y : Int} {l : List S32} (h : InOrd s y l) (hxy : x ≤ y) : InOrd s x l := ⟨fun p hp => ⟨by have := (h.one p hp).1;omega,(h.one p hp).2⟩,h.ord⟩
theorem InOrd.cons {s : ByteArray} {a b x : Int} {l : List S32} (h : InOrd s x l) (hx : b < x) (hab : a < b) (ha : CBI s a) (hb : CBI s b) : InOrd s a (⟨a,b⟩ :: l) :=
 ⟨(fun p hp => by
  rcases List.mem_cons.1 hp with rfl | hp
  ·exact ⟨Int.le_refl _,hab,ha,hb⟩
  ·have := h.one p hp;exact ⟨by omega,this.2⟩),List.pairwise_cons.2 ⟨(fun q hq => by have := (h.one q hq).1;show b < q.f0;omega),h.ord⟩⟩
theorem sp_ord (s : ByteArray) : ∀ n x : Nat,s.size - x ≤ n → CB s x → InOrd s x (spR s none (ctl s x)) ∧ ∀ a : Int,CBI s a → a < x → InOrd s a (spR s (some (a,(x : Int))) (ctl s x)) := by
 intro n
 induction n with
 | zero =>
  intro x hn hc
  rw [ctl_end s x (by omega)]
  exact ⟨InOrd.nil _ _,fun a ha hx => (InOrd.nil s (x + 1)).cons (by omega) hx ha ((cbI_nat _ _).2 hc)⟩
 | succ n ih =>
  intro x hn hc
  by_cases hx : x < s.size
  ·have h1 := nxt_pos s x hx
   have hcn := nxt_cb s x hc.1 hx
   obtain ⟨i1,i2⟩ := ih (nxt s x) (by omega) hcn
   rw [ctl_go s x hx]
   have hcx : CBI s (x : Int) := (cbI_nat _ _).2 hc
   refine ⟨?_,fun a ha hax => ?_⟩
   ·rw [spR]
    by_cases hw : wC s (clAt s x) = true
    ·rw [if_pos hw,clAt_f0,clAt_f1];exact i2 x hcx (by omega)
    ·rw [if_neg hw];exact i1.mono (by omega)
   ·rw [spR]
    by_cases hw : wC s (clAt s x) = true
    ·rw [if_pos hw,clAt_f1];exact i2 a ha (by omega)
    ·rw [if_neg hw];exact i1.cons (by omega) hax ha hcx
  ·rw [ctl_end s x (by omega)]
   exact ⟨InOrd.nil _ _,fun a ha hx => (InOrd.nil s (x + 1)).cons (by omega) hx ha ((cbI_nat _ _).2 hc)⟩
end Go.Proofs.YtkficbgnjpekaaaDoor.Pu
end
section
namespace Go.Proofs.YtkficbgnjpekaaaDoor.Pure
open Go Go.RowKit Go.Proofs.YtkficbgnjpekaaaDoor.Mu Go.Proofs.YtkficbgnjpekaaaDoor.Pu Go.Proofs.YtkficbgnjpekaaaDoor.U Go.Proofs.YtkficbgnjpekaaaDoorW.PrintWords Go.Proofs.YtkficbgnjpekaaaDoorW.PrintLast Go.Proofs.YtkficbgnjpekaaaDoorW.PrintMore
set_option linter.unusedVariables false
theorem law_wordly_ans (s : ByteArray) (hs : s.size ≤ 1099511627776) (x : Nat) (hb : Bd s x) (hx : x < s.size) : Ev (fun k => bodkinlaw05_wordly.f k s x) (wAt s x) := by
 have h := at_ans s hs (x : Int)
 have e : atA s (x : Int) = (uC s x,(uN s x : Int),true) := by
  unfold atA;rw [if_pos ⟨(bdB_iff s _).2 ((bdI_nat s x).2 hb),by omega⟩,Int.toNat_natCast]
 rw [e] at h
 exact Ev.bind h (ev_pos rfl (Ev.bind (isword_ans _) (Ev.now _)))
theorem endR_spec (s : ByteArray) : ∀ n y : Nat,s.size - y ≤ n → CB s y → (y : Int) ≤ endR s y (ctl s y) ∧ ((endR s y (ctl s y) = y) ↔ (y < s.size → wAt s y = false)) := by
 intro n
 induction n with
 | zero => intro y hn hc;rw [ctl_end s y (by omega)];exact ⟨Int.le_refl _,⟨fun _ h => by omega,fun _ => rfl⟩⟩
 | succ n ih =>
  intro y hn hc
  by_cases hy : y < s.size
  ·have h1 := nxt_pos s y hy
   obtain ⟨i1,i2⟩ := ih (nxt s y) (by omega) (nxt_cb s y hc.1 hy)
   rw [ctl_go s y hy,endR,wC_at,clAt_f1]
   cases hw : wAt s y with
   | true => rw [if_pos rfl];exact ⟨by omega,⟨fun h => by omega,fun h => by have := h hy;cases this⟩⟩
   | false => rw [if_neg (by simp)];exact ⟨Int.le_refl _,⟨fun _ _ => rfl,fun _ => rfl⟩⟩
  ·rw [ctl_end s y (by omega)];exact ⟨Int.le_refl _,⟨fun _ h => by omega,fun _ => rfl⟩⟩
theorem refR_true (s : ByteArray) (y : Nat) (h : y < s.size → wAt s y = false) : refR s true (ctl s y) = spR s none (ctl s y) := by
 rw [(runs_ref s (ctl s y)).1]
 by_cases hy : y < s.size
 ·rw [ctl_go s y hy,refR,refR,wC_at,h hy,if_neg (by simp),if_neg (by simp)]
 ·rw [ctl_end s y (by omega)];rfl
theorem wtiles_loop (s : ByteArray) (hs : s.size ≤ 1048576) : ∀ (n x k : Nat) (o : Option (Int × Int)),s.size - x ≤ n → CB s x → k ≤ (spansL s).length → (spansL s).drop k = spR s o (ctl s x) → (o = none ∨ (∃ a : Int,o = some (a,(x : Int)) ∧ 0 ≤ a ∧ a < x) ∧ x < s.size ∧ wAt s x = true) →
  Ev (fun f => bodkinlaw05_WordTiles.l0 f s (spansL s) k x) true := by
 have hs' : s.size ≤ 1099511627776 := by omega
 have hl := spans_len s
 intro n
 induction n with
 | zero =>
  intro x k o hn hc hk hd ho
  have hx : ¬ x < s.size := by omega
  refine Ev.step (fun k => bodkinlaw05_WordTiles.l0.eq_2 ..) (ev_neg (by omega) (ev_now ?_))
  rcases ho with rfl | ⟨_,h,_⟩
  ·rw [ctl_end s x (by omega)] at hd
   have := List.drop_eq_nil_iff.1 hd
   rw [beq_iff_eq];omega
  ·exact absurd h hx
 | succ n ih =>
  intro x k o hn hc hk hd ho
  by_cases hx : x < s.size
  ·have h1 := nxt_pos s x hx
   have hcn := nxt_cb s x hc.1 hx
   have hle := nxt_le s x hc.1 hx
   have hnx := cnext_ev hs' (nxtS s x hc.1 hx x (Int.le_refl _) (by omega))
   have hwd := law_wordly_ans s hs' x hc.1 hx
   rw [ctl_go s x hx] at hd
   cases hw : wAt s x with
   | true =>
    rw [hw] at hwd
    obtain ⟨a,ha0,hax,hd⟩ : ∃ a : Int,0 ≤ a ∧ a ≤ x ∧ (spansL s).drop k = ⟨a,endR s (nxt s x : Int) (ctl s (nxt s x))⟩ :: refR s true (ctl s (nxt s x)) := by
     rcases ho with rfl | ⟨⟨a,rfl,ha0,hax⟩,_,_⟩
     ·rw [spR,wC_at,hw,if_pos rfl,(runs_ref s _).2,clAt_f0,clAt_f1] at hd
      exact ⟨x,by omega,Int.le_refl _,hd⟩
     ·rw [spR,wC_at,hw,if_pos rfl,(runs_ref s _).2,clAt_f1] at hd
      exact ⟨a,ha0,by omega,hd⟩
    obtain ⟨hkl,hr,hd2⟩ := rd_span _ k _ _ hd
    obtain ⟨e1,e2⟩ := endR_spec s _ (nxt s x) (Nat.le_refl _) hcn
    obtain ⟨e,he⟩ : ∃ e,endR s (nxt s x : Int) (ctl s (nxt s x)) = e := ⟨_,rfl⟩
    rw [he] at e1 e2 hr hd
    refine Ev.step (fun k => bodkinlaw05_WordTiles.l0.eq_2 ..) (ev_pos (by omega) (ev_pos (by omega) (ev_pos (by omega) ?_)))
    rw [hr]
    refine ev_pos hax ?_
    rw [show decide ((x : Int) < e) = true from decide_eq_true (by omega)]
    refine Ev.step (fun k => bodkinlaw05_WordTiles.j1.eq_2 ..) (Ev.bind hwd (ev_neg (by simp) (Ev.bind hnx (ev_neg (by omega) (ev_pos rfl (ev_pos (by omega) (ev_pos (by omega) ?_)))))))
    rw [hr]
    rw [show decide ((nxt s x : Int) > e) = false from decide_eq_false (by omega)]
    refine Ev.step (fun k => bodkinlaw05_WordTiles.j2.eq_2 ..) (ev_neg (by simp) (ev_pos rfl (ev_pos (by omega) (ev_pos (by omega) ?_))))
    rw [hr]
    by_cases hq : e = (nxt s x : Int)
    ·have hno := e2.1 hq
     rw [show ((nxt s x : Int) == e) = true by rw [hq];simp]
     refine Ev.step (fun k => bodkinlaw05_WordTiles.j3.eq_2 ..) (ev_pos rfl ?_)
     have hgo := ih (nxt s x) (k + 1) none (by omega) hcn (by omega) (hd2.trans (refR_true s _ hno)) (.inl rfl)
     rw [w64 (by omega) (by omega)]
     by_cases hnl : nxt s x < s.size
     ·have hwn := law_wordly_ans s hs' _ hcn.1 hnl
      rw [hno hnl] at hwn
      exact ev_pos (by omega) (Ev.bind hwn (ev_neg (by simp) hgo))
     ·exact ev_neg (by omega) hgo
    ·rw [show ((nxt s x : Int) == e) = false by rw [beq_eq_false_iff_ne];exact fun h => hq h.symm]
     refine Ev.step (fun k => bodkinlaw05_WordTiles.j3.eq_2 ..) (ev_neg (by simp) ?_)
     have hyes : nxt s x < s.size ∧ wAt s (nxt s x) = true := by
      have hc3 : ¬ (nxt s x < s.size → wAt s (nxt s x) = false) := fun h => hq (e2.2 h)
      by_cases h5 : nxt s x < s.size
      ·refine ⟨h5,?_⟩
       cases h6 : wAt s (nxt s x) with
       | true => rfl
       | false => exact absurd (fun _ => h6) hc3
      ·exact absurd (fun h => absurd h h5) hc3
     refine ih (nxt s x) k (some (a,(nxt s x : Int))) (by omega) hcn hk ?_ (.inr ⟨⟨a,rfl,ha0,by omega⟩,hyes⟩)
     rw [(runs_ref s _).2,he];exact hd
   | false =>
    rw [hw] at hwd
    have hon : o = none := by
     rcases ho with h | ⟨_,_,h⟩
     ·exact h
     ·rw [hw] at h;cases h
    subst hon
    rw [spR,wC_at,hw,if_neg (by simp)] at hd
    have hord := (sp_ord s _ (nxt s x) (Nat.le_refl _) hcn).1
    have hj : ∀ b : Bool,b = false → Ev (fun f => bodkinlaw05_WordTiles.j1 f s (spansL s) k x b) true := fun b hb => by
     rw [hb]
     refine Ev.step (fun k => bodkinlaw05_WordTiles.j1.eq_2 ..) (Ev.bind hwd (ev_neg (by simp) (Ev.bind hnx (ev_neg (by omega) (ev_neg (by simp) (Ev.step (fun k => bodkinlaw05_WordTiles.j2.eq_2 ..) (ev_neg (by simp) (ev_neg (by simp) (Ev.step (fun k => bodkinlaw05_WordTiles.j3.eq_2 ..) (ev_neg (by simp) ?_))))))))))
     exact ih (nxt s x) k none (by omega) hcn hk hd (.inl rfl)
    refine Ev.step (fun k => bodkinlaw05_WordTiles.l0.eq_2 ..) (ev_pos (by omega) ?_)
    by_cases hkl : (k : Int) < ((spansL s).length : Int)
    ·refine ev_pos hkl (ev_pos (by omega) (ev_neg ?_ (hj _ rfl)))
     have hk2 : k < (spansL s).length := by omega
     have hm : (spansL s)[k] ∈ (spansL s).drop k := by rw [List.drop_eq_getElem_cons hk2];exact List.mem_cons_self
     rw [hd] at hm
     have := (hord.one _ hm).1
     have e : rd_T32 (spansL s) k = (spansL s)[k] := by unfold rd_T32;rw [Int.toNat_natCast,List.getD_eq_getElem?_getD,List.getElem?_eq_getElem hk2];rfl
     rw [e];omega
    ·exact ev_neg hkl (hj _ rfl)
  ·refine Ev.step (fun k => bodkinlaw05_WordTiles.l0.eq_2 ..) (ev_neg (by omega) (ev_now ?_))
   rcases ho with rfl | ⟨_,h,_⟩
   ·rw [ctl_end s x (by omega)] at hd
    have := List.drop_eq_nil_iff.1 hd
    rw [beq_iff_eq];omega
   ·exact absurd h hx
theorem WordTiles (a0 : ByteArray) (u0 : a0.size ≤ 1048576) : ∃ k,bodkinlaw05_WordTiles.f k a0 = some true := by
 apply Ev.rounds
 unfold bodkinlaw05_WordTiles.f
 refine Ev.bind awake_ans (ev_pos rfl (ev_some (spans_ev a0 (by omega)) (wtiles_loop a0 u0 a0.size 0 0 none (by omega) (cb_zero a0) (Nat.zero_le _) ?_ (.inl rfl))))
 rw [List.drop_zero,spans_runs,clusL_ctl]
end Go.Proofs.YtkficbgnjpekaaaDoor.Pure
end
section
namespace Go.Proofs.YtkficbgnjpekaaaDoor.Lf
open Go.Lib Go.Proofs
theorem own : ownKnob Tryd.prog.godebug = none := by kernel_rfl
theorem extra : U8Extra Tryd.prog Tryd.lays260_ren := {
 n3 := by kernel_rfl
 n4 := by kernel_rfl
 y3 := by kernel_rfl
 y4 := by kernel_rfl
 c5 := by kernel_rfl
 c119 := by kernel_rfl
 c138 := by kernel_rfl }
theorem first_eq : Rows.laid_unicode_utf8_first = Lib.firstData := by kernel_rfl
theorem accept_eq : (Rows.laid_unicode_utf8_acceptRanges : DataW Unit) = Lib.acceptData := by kernel_rfl
abbrev laid : List (String × DataW Unit) := [("unicode/utf8.acceptRanges", Rows.laid_unicode_utf8_acceptRanges), ("unicode/utf8.first", Rows.laid_unicode_utf8_first)]
/-- The two tables lie as the contracts ask. -/
theorem tabs {W : World} (h : laidMetH Tryd.prog laid W) : Lib.Utf8Tabs 0 1 W := by
  rw [MakeChecks.laidMetH_plain _ _ _ (by kernel_rfl)] at h
  have h3 := laidMet.reads h (n := "unicode/utf8.first") (d := Rows.laid_unicode_utf8_first) (List.mem_cons_of_mem _ List.mem_cons_self)
  have h4 := laidMet.reads h (n := "unicode/utf8.acceptRanges") (d := Rows.laid_unicode_utf8_acceptRanges) List.mem_cons_self
  rw [first_eq] at h3
  rw [accept_eq] at h4
  exact utf8Tabs_of_reads Tryd.lays260 extra h3 h4
/-- The world of the witness: the settled one,the tables laid. -/
noncomputable abbrev wit (os : Os) : World := World.laidAll Tryd.prog os laid
theorem wit_laid (os : Os) (args : Array Value) : laidMetH Tryd.prog laid ((wit os).forCall (fun _ _ => 0) ⟨#[],args,[]⟩).memory := by
 rw [MakeChecks.laidMetH_plain _ _ _ (by kernel_rfl)]
 exact laidMet_laidAll _ (by kernel_rfl) (by kernel_rfl)
theorem wit_shaped (os : Os) (args : Array Value) : ((wit os).forCall (fun _ _ => 0) ⟨#[],args,[]⟩).Shaped Tryd.prog :=
 World.shaped_of_ZipB (by kernel_rfl) (by kernel_rfl)
end Go.Proofs.YtkficbgnjpekaaaDoor.Lf
end
