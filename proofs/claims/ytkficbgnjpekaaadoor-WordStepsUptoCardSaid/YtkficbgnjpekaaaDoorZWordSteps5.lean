/- What the law WordSteps reaches of this seat's own texts, merged; what nothing uses is left out. -/
import Derived.Test.YtkficbgnjpekaaaDoorZWordSteps0
import Derived.Test.YtkficbgnjpekaaaDoorZWordSteps1
import Derived.Test.YtkficbgnjpekaaaDoorZWordSteps2
import Derived.Test.YtkficbgnjpekaaaDoorZWordSteps3
import Derived.Test.YtkficbgnjpekaaaDoorZWordSteps4
section
namespace Go.Proofs.YtkficbgnjpekaaaDoor.U
open Go.RowKit Go.Proofs.YtkficbgnjpekaaaDoorW.PrintWords Go.Proofs.YtkficbgnjpekaaaDoorW.PrintLast Go.Proofs.YtkficbgnjpekaaaDoorW.PrintMore
attribute [local go_sem] max2_int min2_int max_two min_two max_three min_three max_four min_four   -- for this text's walks alone
set_option linter.unusedVariables false
set_option linter.unusedSimpArgs false
mutual
def bodkinlaw05_WordSteps.l0 : Nat → ByteArray → Int → List (S32) → Int → Int → Int → Option (Bool)
 | 0,_,_,_,_,_,_ => none
 | k + 1,x0,x1,x5,x6,x7,x8 => if x8 < (x5.length : Int) then ((word_Ahead.f k x0 x6).bind fun t390 => ((word_Behind.f k x0 x7).bind fun t391 => (if 0 ≤ x8 then (if t390 = ((rd_T32 x5 x8).f1) then (if 0 ≤ (wrap64 ((wrap64 ((x5.length : Int) - 1)) - x8)) then (if (wrap64 ((wrap64 ((x5.length : Int) - 1)) - x8)) < (x5.length : Int) then (if t391 = ((rd_T32 x5 (wrap64 ((wrap64 ((x5.length : Int) - 1)) - x8))).f0) then (bodkinlaw05_WordSteps.l0 k x0 x1 x5 t390 t391 (wrap64 (x8 + 1))) else (some false)) else (none)) else (none)) else (some false)) else (none)))) else ((word_Ahead.f k x0 x6).bind fun t394 => (if t394 = (x0.size : Int) then ((word_Behind.f k x0 x7).bind fun t395 => (bodkinlaw05_WordSteps.j1 k x0 x1 (t395 != 0))) else (bodkinlaw05_WordSteps.j1 k x0 x1 true)))
def bodkinlaw05_WordSteps.j1 : Nat → ByteArray → Int → Bool → Option (Bool)
 | 0,_,_,_ => none
 | k + 1,x0,x1,x60 => if x60 = true then (some false) else (if x1 < 0 then ((word_Ahead.f k x0 x1).bind fun t396 => ((word_Ahead.f k x0 0).bind fun t397 => (if t396 = t397 then ((word_Behind.f k x0 x1).bind fun t398 => (some (t398 == 0))) else (some false)))) else (if x1 > (x0.size : Int) then ((word_Ahead.f k x0 x1).bind fun t399 => (if t399 = (x0.size : Int) then ((word_Behind.f k x0 x1).bind fun t400 => ((word_Behind.f k x0 (x0.size : Int)).bind fun t401 => (some (t400 == t401)))) else (some false))) else ((word_Ahead.f k x0 x1).bind fun t402 => ((word_Behind.f k x0 x1).bind fun t403 => (if t402 > x1 then (if t402 ≤ (x0.size : Int) then (if t403 < x1 then (if t403 ≥ 0 then ((cluster_Boundary.f k x0 t402).bind fun t404 => (if t404 = true then ((cluster_Boundary.f k x0 t403).bind fun t405 => (some t405)) else (some false))) else (some false)) else (if x1 = 0 then (if t403 ≥ 0 then ((cluster_Boundary.f k x0 t402).bind fun t406 => (if t406 = true then ((cluster_Boundary.f k x0 t403).bind fun t407 => (some t407)) else (some false))) else (some false)) else (some false))) else (some false)) else (if x1 = (x0.size : Int) then (if t402 ≤ (x0.size : Int) then (if t403 < x1 then (if t403 ≥ 0 then ((cluster_Boundary.f k x0 t402).bind fun t408 => (if t408 = true then ((cluster_Boundary.f k x0 t403).bind fun t409 => (some t409)) else (some false))) else (some false)) else (if x1 = 0 then (if t403 ≥ 0 then ((cluster_Boundary.f k x0 t402).bind fun t410 => (if t410 = true then ((cluster_Boundary.f k x0 t403).bind fun t411 => (some t411)) else (some false))) else (some false)) else (some false))) else (some false)) else (some false)))))))
end
def bodkinlaw05_WordSteps.f (k : Nat) (a0 : ByteArray) (a1 : Int) : Option (Bool) := (bodkinlaw05_awake.f k).bind fun t386 => (if t386 = true then ((word_Spans.f a0).bind fun t387 => (bodkinlaw05_WordSteps.l0 k a0 a1 t387 0 (a0.size : Int) 0)) else (some false))
set_option maxHeartbeats 8000000 in
set_option maxRecDepth 100000 in
theorem bodkinlaw05_WordSteps.calls (k : Nat) (a0 : ByteArray) (a1 : Int) (r : Bool) (hr_ : r = true) (w : World) (hT : Lib.Utf8Tabs 0 1 w) (h : bodkinlaw05_WordSteps.f k a0 a1 = some r) :
  Calls Tryd.prog 7 #[.string a0,.int .i64 a1] w fun e w' => e = .returned (.bool r) ∧ Below w.heap.size w w' := by
 have HT := Aside0.mk hT
 clear hT
 have HB := Aside0.mk (Below.refl w.heap.size w)
 have H : ((bodkinlaw05_awake.f k).bind fun t386 => (if t386 = true then ((word_Spans.f a0).bind fun t387 => (bodkinlaw05_WordSteps.l0 k a0 a1 t387 0 (a0.size : Int) 0)) else (some false))) = some r := h
 clear h
 replace H := Option.bind_eq_some_iff.mp H
 obtain ⟨t386,A30,H⟩ := H
 replace H : (if t386 = true then ((word_Spans.f a0).bind fun t387 => (bodkinlaw05_WordSteps.l0 k a0 a1 t387 0 (a0.size : Int) 0)) else (some false)) = some r := H
 have A3 := Aside0.mk A30
 clear A30
 by_cases c4 : t386 = true
 ·subst c4
  have H1 : ((word_Spans.f a0).bind fun t387 => (bodkinlaw05_WordSteps.l0 k a0 a1 t387 0 (a0.size : Int) 0)) = some r := by rw [if_pos rfl] at H;exact H
  clear H
  have H := H1
  clear H1
  replace H := Option.bind_eq_some_iff.mp H
  obtain ⟨t387,A50,H⟩ := H
  replace H : (bodkinlaw05_WordSteps.l0 k a0 a1 t387 0 (a0.size : Int) 0) = some r := H
  have A5 := Aside0.mk A50
  clear A50
  have H' := Aside0.mk H
  clear H
  go_enter Tryd.func7,Tryd.ntmps7
  go_wp2_with (first | ((with_reducible refine gate_callee (f := 12) rfl ?_);refine goesL_ (some 11) rfl rfl Tryd.func12 (by kernel_rfl) rfl #[] rfl au1 ?_;(with_reducible refine (bodkinlaw05_awake.calls k true rfl _ ?side1 A3.out).mono ?_);(case side1 => exact tabs_below HT.out au0);rintro e w6 ⟨rfl,hb⟩;refine ⟨_,rfl,?_⟩;have n0_ := Aside0.mk (below_step au0 hb);clear HB;have HB := n0_;clear n0_;(try clear hb);(try clear hb2);(try clear hk);(try clear hi)) | ((with_reducible refine gate_callee (f := 20) rfl ?_);refine goesL_ (some 14) rfl rfl Tryd.func20 (by kernel_rfl) rfl #[.string a0] rfl au1 ?_;(with_reducible refine (word_Spans.calls a0 t387 _ ?side1 A5.out).mono ?_);(case side1 => exact tabs_below HT.out au0);rintro e w7 ⟨v388,rfl,ho0,hb⟩;refine ⟨_,rfl,?_⟩;have n0_ := Aside0.mk (Kd.R_lower ho0 (below_size au0));have n1_ := Aside0.mk (below_step au0 hb);clear HB;have HO389 := n0_;have HB := n1_;clear n0_ n1_;(try clear hb);(try clear hb2);(try clear hk);(try clear hi);(try clear ho0)))
  go_loopg [6,7,8] k (fun kq v6 v7 v8 w' => ∃ (x6_1 : Int) (x7_1 : Int) (x8_1 : Int),v6 = .int .i64 x6_1 ∧ v7 = .int .i64 x7_1 ∧ v8 = .int .i64 x8_1 ∧ Aside0 (bodkinlaw05_WordSteps.l0 kq a0 a1 t387 x6_1 x7_1 x8_1 = some r) ∧ Aside0 (kq ≤ k) ∧ Aside0 (Kd.R k32 32 w' w.heap.size (fun _ => True) v388 t387) ∧ Aside0 (Below w.heap.size w w'))
  case atStart => exact ⟨(0),((a0.size : Int)),(0),au3,au3,au3,H',⟨Nat.le_refl _⟩,⟨by (with_reducible repeat (first | apply Kd.R_alloc | apply Kd.R_drewN | apply Kd.R_drew));exact HO389.out⟩,⟨au0⟩⟩
  case round =>
   clear H'
   try clear c1
   try clear c2
   try clear p2
   try clear c4
   try clear c7
   obtain ⟨x6_1,x7_1,x8_1,rfl,rfl,rfl,HA,HK1,HO_5,HB⟩ := hrel
   cases gk with
   | zero => exact absurd HA.out (by simp [bodkinlaw05_WordSteps.l0])
   | succ k1 =>
    have H := HA.out
    clear HA
    simp only [bodkinlaw05_WordSteps.l0] at H
    by_cases c8 : x8_1 < (t387.length : Int)
    ·rw [if_pos c8] at H
     have c8b0 : decide (x8_1 < (t387.length : Int)) = true := decide_eq_true c8
     clear c8
     replace H := Option.bind_eq_some_iff.mp H
     obtain ⟨t390,A90,H⟩ := H
     replace H : ((word_Behind.f k1 a0 x7_1).bind fun t391 => (if 0 ≤ x8_1 then (if t390 = ((rd_T32 t387 x8_1).f1) then (if 0 ≤ (wrap64 ((wrap64 ((t387.length : Int) - 1)) - x8_1)) then (if (wrap64 ((wrap64 ((t387.length : Int) - 1)) - x8_1)) < (t387.length : Int) then (if t391 = ((rd_T32 t387 (wrap64 ((wrap64 ((t387.length : Int) - 1)) - x8_1))).f0) then (bodkinlaw05_WordSteps.l0 k1 a0 a1 t387 t390 t391 (wrap64 (x8_1 + 1))) else (some false)) else (none)) else (none)) else (some false)) else (none))) = some r := H
     have A9 := Aside0.mk A90
     clear A90
     replace H := Option.bind_eq_some_iff.mp H
     obtain ⟨t391,A100,H⟩ := H
     replace H : (if 0 ≤ x8_1 then (if t390 = ((rd_T32 t387 x8_1).f1) then (if 0 ≤ (wrap64 ((wrap64 ((t387.length : Int) - 1)) - x8_1)) then (if (wrap64 ((wrap64 ((t387.length : Int) - 1)) - x8_1)) < (t387.length : Int) then (if t391 = ((rd_T32 t387 (wrap64 ((wrap64 ((t387.length : Int) - 1)) - x8_1))).f0) then (bodkinlaw05_WordSteps.l0 k1 a0 a1 t387 t390 t391 (wrap64 (x8_1 + 1))) else (some false)) else (none)) else (none)) else (some false)) else (none)) = some r := H
     have A10 := Aside0.mk A100
     clear A100
     by_cases c11 : 0 ≤ x8_1
     ·rw [if_pos c11] at H
      have c11b0 : decide (0 ≤ x8_1) = true := decide_eq_true c11
      clear c11
      by_cases c12 : t390 = ((rd_T32 t387 x8_1).f1)
      ·rw [if_pos c12] at H
       have c12b0 : (t390 == ((rd_T32 t387 x8_1).f1)) = true := beq_iff_eq.mpr c12
       have c12b1 : (t390 != ((rd_T32 t387 x8_1).f1)) = false := bne_eq_false_iff_eq.mpr c12
       clear c12
       obtain ⟨ji13,hji13⟩ : ∃ j_ : Int,(wrap64 ((wrap64 ((t387.length : Int) - 1)) - x8_1)) = j_ := ⟨_,rfl⟩
       replace H : (if 0 ≤ (ji13) then (if (ji13) < (t387.length : Int) then (if t391 = ((rd_T32 t387 (ji13)).f0) then (bodkinlaw05_WordSteps.l0 k1 a0 a1 t387 t390 t391 (wrap64 (x8_1 + 1))) else (some false)) else (none)) else (none)) = some r := by first | (rw [hji13] at H;exact H) | (simp only [hji13] at H ⊢;exact H)
       (try rw [hji13] at A9)
       (try rw [hji13] at A10)
       have hji13w : (IntKind.i64.wrap ((wrap64 ((t387.length : Int) - 1)) - x8_1)) = ji13 := (i64_w _).trans hji13
       by_cases c14 : 0 ≤ (ji13)
       ·rw [if_pos c14] at H
        have c14b0 : decide (0 ≤ (ji13)) = true := decide_eq_true c14
        clear c14
        by_cases c15 : (ji13) < (t387.length : Int)
        ·rw [if_pos c15] at H
         have c15b0 : decide ((ji13) < (t387.length : Int)) = true := decide_eq_true c15
         clear c15
         by_cases c16 : t391 = ((rd_T32 t387 (ji13)).f0)
         ·rw [if_pos c16] at H
          have c16b0 : (t391 == ((rd_T32 t387 (ji13)).f0)) = true := beq_iff_eq.mpr c16
          have c16b1 : (t391 != ((rd_T32 t387 (ji13)).f0)) = false := bne_eq_false_iff_eq.mpr c16
          clear c16
          have H' := Aside0.mk H
          clear H
          obtain ⟨Ao17,co17,eo17⟩ := Kd.R_slice HO_5.out
          subst eo17
          go_wp2_with (first | ((with_reducible refine gate_callee (f := 22) rfl ?_);refine goesL_ (some 25) rfl rfl Tryd.func22 (by kernel_rfl) rfl #[.string a0,.int .i64 x6_1] rfl au1 ?_;(with_reducible refine (word_Ahead.calls k1 a0 x6_1 t390 _ ?side1 A9.out).mono ?_);(case side1 => exact tabs_below HT.out au0);rintro e w18 ⟨rfl,hb⟩;refine ⟨_,rfl,?_⟩;have n0_ := Aside0.mk (Kd.R_below (by (with_reducible repeat (first | apply Kd.R_alloc | apply Kd.R_drewN | apply Kd.R_drew));exact HO_5.out) hb);have n1_ := Aside0.mk (below_step au0 hb);clear HO_5;clear HB;have HO_5 := n0_;have HB := n1_;clear n0_ n1_;(try clear hb);(try clear hb2);(try clear hk);(try clear hi)) | ((with_reducible refine gate_callee (f := 24) rfl ?_);refine goesL_ (some 28) rfl rfl Tryd.func24 (by kernel_rfl) rfl #[.string a0,.int .i64 x7_1] rfl au1 ?_;(with_reducible refine (word_Behind.calls k1 a0 x7_1 t391 _ ?side1 A10.out).mono ?_);(case side1 => exact tabs_below HT.out au0);rintro e w19 ⟨rfl,hb⟩;refine ⟨_,rfl,?_⟩;have n0_ := Aside0.mk (Kd.R_below (by (with_reducible repeat (first | apply Kd.R_alloc | apply Kd.R_drewN | apply Kd.R_drew));exact HO_5.out) hb);have n1_ := Aside0.mk (below_step au0 hb);clear HO_5;clear HB;have HO_5 := n0_;have HB := n1_;clear n0_ n1_;(try clear hb);(try clear hb2);(try clear hk);(try clear hi);have p392 : 0 ≤ (x8_1 : Int) := of_decide_eq_true au15;have q392 : x8_1 < (t387.length : Int) := of_decide_eq_true au15;obtain ⟨ad392,e392,hx392_0,hx392_1⟩ := at_T32 (Kd.R_reads' HO_5.out).2.2 x8_1 p392 q392;cases e392;replace p392 := eq_true p392;replace q392 := eq_true q392;have p393 : 0 ≤ ((ji13) : Int) := of_decide_eq_true au15;have q393 : (ji13) < (t387.length : Int) := of_decide_eq_true au15;obtain ⟨ad393,e393,hx393_0,hx393_1⟩ := at_T32 (Kd.R_reads' HO_5.out).2.2 (ji13) p393 q393;obtain rfl : ad392 = ad393 := (by injection e393);replace p393 := eq_true p393;replace q393 := eq_true q393))
          go_roundg k1
          case measure => have := HK1.out;omega
          case rel => exact ⟨(t390),(t391),(wrap64 (x8_1 + 1)),au3,au3,au3,H',⟨by have := HK1.out;omega⟩,⟨by (with_reducible repeat (first | apply Kd.R_alloc | apply Kd.R_drewN | apply Kd.R_drew));exact HO_5.out⟩,⟨au0⟩⟩
         ·rw [if_neg c16] at H
          have c16b0 : (t391 == ((rd_T32 t387 (ji13)).f0)) = false := beq_eq_false_iff_ne.mpr c16
          have c16b1 : (t391 != ((rd_T32 t387 (ji13)).f0)) = true := bne_iff_ne.mpr c16
          obtain rfl := Option.some.inj H
          cases hr_
        ·rw [if_neg c15] at H
         exact absurd H (by simp)
       ·rw [if_neg c14] at H
        exact absurd H (by simp)
      ·rw [if_neg c12] at H
       have c12b0 : (t390 == ((rd_T32 t387 x8_1).f1)) = false := beq_eq_false_iff_ne.mpr c12
       have c12b1 : (t390 != ((rd_T32 t387 x8_1).f1)) = true := bne_iff_ne.mpr c12
       obtain rfl := Option.some.inj H
       cases hr_
     ·rw [if_neg c11] at H
      exact absurd H (by simp)
    ·rw [if_neg c8] at H
     have c8b0 : decide (x8_1 < (t387.length : Int)) = false := decide_eq_false c8
     clear c8
     have HC26 := Aside0.mk H
     clear H
     obtain ⟨Ao27,co27,eo27⟩ := Kd.R_slice HO_5.out
     subst eo27
     go_upto_region 13 with (fail)
     go_cut [60] (fun v60 wc => ∃ (kq : Nat) (x60_25 : Bool),v60 = .bool x60_25 ∧ Aside0 (bodkinlaw05_WordSteps.j1 kq a0 a1 x60_25 = some r) ∧ Aside0 (kq ≤ k1) ∧ Aside0 (Below w.heap.size w wc))
     case first =>
      have H := HC26.out
      clear HC26
      replace H := Option.bind_eq_some_iff.mp H
      obtain ⟨t394,A280,H⟩ := H
      replace H : (if t394 = (a0.size : Int) then ((word_Behind.f k1 a0 x7_1).bind fun t395 => (bodkinlaw05_WordSteps.j1 k1 a0 a1 (t395 != 0))) else (bodkinlaw05_WordSteps.j1 k1 a0 a1 true)) = some r := H
      have A28 := Aside0.mk A280
      clear A280
      by_cases c29 : t394 = (a0.size : Int)
      ·rw [if_pos c29] at H
       have c29b0 : (t394 == (a0.size : Int)) = true := beq_iff_eq.mpr c29
       have c29b1 : (t394 != (a0.size : Int)) = false := bne_eq_false_iff_eq.mpr c29
       clear c29
       (first | rw [c29b0] | (simp only [i64_w,i32_w];rw [c29b0]) | skip)
       replace H := Option.bind_eq_some_iff.mp H
       obtain ⟨t395,A300,H⟩ := H
       replace H : (bodkinlaw05_WordSteps.j1 k1 a0 a1 (t395 != 0)) = some r := H
       have A30 := Aside0.mk A300
       clear A300
       have H' := Aside0.mk H
       clear H
       go_wp2_with (first | ((with_reducible refine gate_callee (f := 22) rfl ?_);refine goesL_ (some 51) rfl rfl Tryd.func22 (by kernel_rfl) rfl #[.string a0,.int .i64 x6_1] rfl au1 ?_;(with_reducible refine (word_Ahead.calls k1 a0 x6_1 t394 _ ?side1 A28.out).mono ?_);(case side1 => exact tabs_below HT.out au0);rintro e w31 ⟨rfl,hb⟩;refine ⟨_,rfl,?_⟩;have n0_ := Aside0.mk (Kd.R_below (by (with_reducible repeat (first | apply Kd.R_alloc | apply Kd.R_drewN | apply Kd.R_drew));exact HO_5.out) hb);have n1_ := Aside0.mk (below_step au0 hb);clear HO_5;clear HB;have HO_5 := n0_;have HB := n1_;clear n0_ n1_;(try clear hb);(try clear hb2);(try clear hk);(try clear hi)) | (go_at_call 24;(with_reducible refine (word_Behind.calls k1 a0 x7_1 t395 _ ?side1 A30.out).mono ?_);(case side1 => exact tabs_below HT.out au0);rintro e w32 ⟨rfl,hb⟩;have n0_ := Aside0.mk (Kd.R_below (by (with_reducible repeat (first | apply Kd.R_alloc | apply Kd.R_drewN | apply Kd.R_drew));exact HO_5.out) hb);have n1_ := Aside0.mk (below_step au0 hb);clear HO_5;clear HB;have HO_5 := n0_;have HB := n1_;clear n0_ n1_;(try clear hb);(try clear hb2);(try clear hk);(try clear hi)))
       go_meet
       case rel => exact ⟨_,((t395 != 0)),au3,H',⟨by have := HK1.out;first | omega | exact Nat.le_refl _⟩,⟨au0⟩⟩
      ·rw [if_neg c29] at H
       exfalso
       subst hr_
       cases k1 <;> simp [bodkinlaw05_WordSteps.j1] at H
     case rest =>
      clear HC26
      try clear c1
      try clear c2
      try clear p2
      try clear p3
      try clear q3
      try clear hx3
      try clear c4
      try clear p6
      try clear c7
      try clear c8
      try clear c8b0
      try clear c11
      try clear c11b0
      try clear c12
      try clear c12b0
      try clear c12b1
      try clear c14
      try clear c14b0
      try clear c15
      try clear c15b0
      try clear c16
      try clear c16b0
      try clear c16b1
      try clear c20
      try clear c22
      try clear c24
      try clear c29
      try clear c29b0
      try clear c29b1
      try clear hx392_0
      try clear hx392_1
      try clear hx393_0
      try clear hx393_1
      try clear p2
      try clear p392
      try clear p393
      try clear q392
      try clear q393
      obtain ⟨kq,x60_25,rfl,HA,HJ25,HB⟩ := hcut
      cases kq with
      | zero => exact absurd HA.out (by simp [bodkinlaw05_WordSteps.j1])
      | succ kj25 =>
       have H := HA.out
       clear HA
       simp only [bodkinlaw05_WordSteps.j1] at H
       by_cases c34 : x60_25 = true
       ·subst c34
        have H1 : (some false) = some r := by rw [if_pos rfl] at H;exact H
        clear H
        have H := H1
        clear H1
        obtain rfl := Option.some.inj H
        cases hr_
       ·replace c34 := Bool.eq_false_iff.mpr c34
        subst c34
        have H1 : (if a1 < 0 then ((word_Ahead.f kj25 a0 a1).bind fun t396 => ((word_Ahead.f kj25 a0 0).bind fun t397 => (if t396 = t397 then ((word_Behind.f kj25 a0 a1).bind fun t398 => (some (t398 == 0))) else (some false)))) else (if a1 > (a0.size : Int) then ((word_Ahead.f kj25 a0 a1).bind fun t399 => (if t399 = (a0.size : Int) then ((word_Behind.f kj25 a0 a1).bind fun t400 => ((word_Behind.f kj25 a0 (a0.size : Int)).bind fun t401 => (some (t400 == t401)))) else (some false))) else ((word_Ahead.f kj25 a0 a1).bind fun t402 => ((word_Behind.f kj25 a0 a1).bind fun t403 => (if t402 > a1 then (if t402 ≤ (a0.size : Int) then (if t403 < a1 then (if t403 ≥ 0 then ((cluster_Boundary.f kj25 a0 t402).bind fun t404 => (if t404 = true then ((cluster_Boundary.f kj25 a0 t403).bind fun t405 => (some t405)) else (some false))) else (some false)) else (if a1 = 0 then (if t403 ≥ 0 then ((cluster_Boundary.f kj25 a0 t402).bind fun t406 => (if t406 = true then ((cluster_Boundary.f kj25 a0 t403).bind fun t407 => (some t407)) else (some false))) else (some false)) else (some false))) else (some false)) else (if a1 = (a0.size : Int) then (if t402 ≤ (a0.size : Int) then (if t403 < a1 then (if t403 ≥ 0 then ((cluster_Boundary.f kj25 a0 t402).bind fun t408 => (if t408 = true then ((cluster_Boundary.f kj25 a0 t403).bind fun t409 => (some t409)) else (some false))) else (some false)) else (if a1 = 0 then (if t403 ≥ 0 then ((cluster_Boundary.f kj25 a0 t402).bind fun t410 => (if t410 = true then ((cluster_Boundary.f kj25 a0 t403).bind fun t411 => (some t411)) else (some false))) else (some false)) else (some false))) else (some false)) else (some false))))))) = some r := by rw [if_neg (show ¬ (false = true) by decide)] at H;exact H
        clear H
        have H := H1
        clear H1
        by_cases c35 : a1 < 0
        ·rw [if_pos c35] at H
         have c35b0 : decide (a1 < 0) = true := decide_eq_true c35
         clear c35
         replace H := Option.bind_eq_some_iff.mp H
         obtain ⟨t396,A360,H⟩ := H
         replace H : ((word_Ahead.f kj25 a0 0).bind fun t397 => (if t396 = t397 then ((word_Behind.f kj25 a0 a1).bind fun t398 => (some (t398 == 0))) else (some false))) = some r := H
         have A36 := Aside0.mk A360
         clear A360
         replace H := Option.bind_eq_some_iff.mp H
         obtain ⟨t397,A370,H⟩ := H
         replace H : (if t396 = t397 then ((word_Behind.f kj25 a0 a1).bind fun t398 => (some (t398 == 0))) else (some false)) = some r := H
         have A37 := Aside0.mk A370
         clear A370
         by_cases c38 : t396 = t397
         ·rw [if_pos c38] at H
          have c38b0 : (t396 == t397) = true := beq_iff_eq.mpr c38
          have c38b1 : (t396 != t397) = false := bne_eq_false_iff_eq.mpr c38
          clear c38
          replace H := Option.bind_eq_some_iff.mp H
          obtain ⟨t398,A390,H⟩ := H
          replace H : (some (t398 == 0)) = some r := H
          have A39 := Aside0.mk A390
          clear A390
          obtain rfl := Option.some.inj H
          go_wp2_with (first | ((with_reducible refine gate_callee (f := 22) rfl ?_);refine goesL_ (some 65) rfl rfl Tryd.func22 (by kernel_rfl) rfl #[.string a0,.int .i64 a1] rfl au1 ?_;(with_reducible refine (word_Ahead.calls kj25 a0 a1 t396 _ ?side1 A36.out).mono ?_);(case side1 => exact tabs_below HT.out au0);rintro e w40 ⟨rfl,hb⟩;refine ⟨_,rfl,?_⟩;have n0_ := Aside0.mk (below_step au0 hb);clear HB;have HB := n0_;clear n0_;(try clear hb);(try clear hb2);(try clear hk);(try clear hi)) | ((with_reducible refine gate_callee (f := 22) rfl ?_);refine goesL_ (some 67) rfl rfl Tryd.func22 (by kernel_rfl) rfl #[.string a0,.int .i64 0] rfl au1 ?_;(with_reducible refine (word_Ahead.calls kj25 a0 0 t397 _ ?side1 A37.out).mono ?_);(case side1 => exact tabs_below HT.out au0);rintro e w41 ⟨rfl,hb⟩;refine ⟨_,rfl,?_⟩;have n0_ := Aside0.mk (below_step au0 hb);clear HB;have HB := n0_;clear n0_;(try clear hb);(try clear hb2);(try clear hk);(try clear hi)) | (go_at_call 24;(with_reducible refine (word_Behind.calls kj25 a0 a1 t398 _ ?side1 A39.out).mono ?_);(case side1 => exact tabs_below HT.out au0);rintro e w42 ⟨rfl,hb⟩;have n0_ := Aside0.mk (below_step au0 hb);clear HB;have HB := n0_;clear n0_;(try clear hb);(try clear hb2);(try clear hk);(try clear hi)))
          go_ret
          exact ⟨au2,au0⟩
         ·rw [if_neg c38] at H
          have c38b0 : (t396 == t397) = false := beq_eq_false_iff_ne.mpr c38
          have c38b1 : (t396 != t397) = true := bne_iff_ne.mpr c38
          obtain rfl := Option.some.inj H
          cases hr_
        ·rw [if_neg c35] at H
         have c35b0 : decide (a1 < 0) = false := decide_eq_false c35
         clear c35
         by_cases c45 : a1 > (a0.size : Int)
         ·rw [if_pos c45] at H
          have c45b0 : decide ((a0.size : Int) < a1) = true := decide_eq_true c45
          clear c45
          replace H := Option.bind_eq_some_iff.mp H
          obtain ⟨t399,A460,H⟩ := H
          replace H : (if t399 = (a0.size : Int) then ((word_Behind.f kj25 a0 a1).bind fun t400 => ((word_Behind.f kj25 a0 (a0.size : Int)).bind fun t401 => (some (t400 == t401)))) else (some false)) = some r := H
          have A46 := Aside0.mk A460
          clear A460
          by_cases c47 : t399 = (a0.size : Int)
          ·rw [if_pos c47] at H
           have c47b0 : (t399 == (a0.size : Int)) = true := beq_iff_eq.mpr c47
           have c47b1 : (t399 != (a0.size : Int)) = false := bne_eq_false_iff_eq.mpr c47
           clear c47
           replace H := Option.bind_eq_some_iff.mp H
           obtain ⟨t400,A480,H⟩ := H
           replace H : ((word_Behind.f kj25 a0 (a0.size : Int)).bind fun t401 => (some (t400 == t401))) = some r := H
           have A48 := Aside0.mk A480
           clear A480
           replace H := Option.bind_eq_some_iff.mp H
           obtain ⟨t401,A490,H⟩ := H
           replace H : (some (t400 == t401)) = some r := H
           have A49 := Aside0.mk A490
           clear A490
           obtain rfl := Option.some.inj H
           go_wp2_with (first | ((with_reducible refine gate_callee (f := 22) rfl ?_);refine goesL_ (some 81) rfl rfl Tryd.func22 (by kernel_rfl) rfl #[.string a0,.int .i64 a1] rfl au1 ?_;(with_reducible refine (word_Ahead.calls kj25 a0 a1 t399 _ ?side1 A46.out).mono ?_);(case side1 => exact tabs_below HT.out au0);rintro e w50 ⟨rfl,hb⟩;refine ⟨_,rfl,?_⟩;have n0_ := Aside0.mk (below_step au0 hb);clear HB;have HB := n0_;clear n0_;(try clear hb);(try clear hb2);(try clear hk);(try clear hi)) | (go_at_call 24;(with_reducible refine (word_Behind.calls kj25 a0 a1 t400 _ ?side1 A48.out).mono ?_);(case side1 => exact tabs_below HT.out au0);rintro e w51 ⟨rfl,hb⟩;have n0_ := Aside0.mk (below_step au0 hb);clear HB;have HB := n0_;clear n0_;(try clear hb);(try clear hb2);(try clear hk);(try clear hi)) | (go_at_call 24;(with_reducible refine (word_Behind.calls kj25 a0 (a0.size : Int) t401 _ ?side1 A49.out).mono ?_);(case side1 => exact tabs_below HT.out au0);rintro e w52 ⟨rfl,hb⟩;have n0_ := Aside0.mk (below_step au0 hb);clear HB;have HB := n0_;clear n0_;(try clear hb);(try clear hb2);(try clear hk);(try clear hi)))
           go_ret
           exact ⟨au2,au0⟩
          ·rw [if_neg c47] at H
           have c47b0 : (t399 == (a0.size : Int)) = false := beq_eq_false_iff_ne.mpr c47
           have c47b1 : (t399 != (a0.size : Int)) = true := bne_iff_ne.mpr c47
           obtain rfl := Option.some.inj H
           cases hr_
         ·rw [if_neg c45] at H
          have c45b0 : decide ((a0.size : Int) < a1) = false := decide_eq_false c45
          clear c45
          replace H := Option.bind_eq_some_iff.mp H
          obtain ⟨t402,A540,H⟩ := H
          replace H : ((word_Behind.f kj25 a0 a1).bind fun t403 => (if t402 > a1 then (if t402 ≤ (a0.size : Int) then (if t403 < a1 then (if t403 ≥ 0 then ((cluster_Boundary.f kj25 a0 t402).bind fun t404 => (if t404 = true then ((cluster_Boundary.f kj25 a0 t403).bind fun t405 => (some t405)) else (some false))) else (some false)) else (if a1 = 0 then (if t403 ≥ 0 then ((cluster_Boundary.f kj25 a0 t402).bind fun t406 => (if t406 = true then ((cluster_Boundary.f kj25 a0 t403).bind fun t407 => (some t407)) else (some false))) else (some false)) else (some false))) else (some false)) else (if a1 = (a0.size : Int) then (if t402 ≤ (a0.size : Int) then (if t403 < a1 then (if t403 ≥ 0 then ((cluster_Boundary.f kj25 a0 t402).bind fun t408 => (if t408 = true then ((cluster_Boundary.f kj25 a0 t403).bind fun t409 => (some t409)) else (some false))) else (some false)) else (if a1 = 0 then (if t403 ≥ 0 then ((cluster_Boundary.f kj25 a0 t402).bind fun t410 => (if t410 = true then ((cluster_Boundary.f kj25 a0 t403).bind fun t411 => (some t411)) else (some false))) else (some false)) else (some false))) else (some false)) else (some false)))) = some r := H
          have A54 := Aside0.mk A540
          clear A540
          replace H := Option.bind_eq_some_iff.mp H
          obtain ⟨t403,A550,H⟩ := H
          replace H : (if t402 > a1 then (if t402 ≤ (a0.size : Int) then (if t403 < a1 then (if t403 ≥ 0 then ((cluster_Boundary.f kj25 a0 t402).bind fun t404 => (if t404 = true then ((cluster_Boundary.f kj25 a0 t403).bind fun t405 => (some t405)) else (some false))) else (some false)) else (if a1 = 0 then (if t403 ≥ 0 then ((cluster_Boundary.f kj25 a0 t402).bind fun t406 => (if t406 = true then ((cluster_Boundary.f kj25 a0 t403).bind fun t407 => (some t407)) else (some false))) else (some false)) else (some false))) else (some false)) else (if a1 = (a0.size : Int) then (if t402 ≤ (a0.size : Int) then (if t403 < a1 then (if t403 ≥ 0 then ((cluster_Boundary.f kj25 a0 t402).bind fun t408 => (if t408 = true then ((cluster_Boundary.f kj25 a0 t403).bind fun t409 => (some t409)) else (some false))) else (some false)) else (if a1 = 0 then (if t403 ≥ 0 then ((cluster_Boundary.f kj25 a0 t402).bind fun t410 => (if t410 = true then ((cluster_Boundary.f kj25 a0 t403).bind fun t411 => (some t411)) else (some false))) else (some false)) else (some false))) else (some false)) else (some false))) = some r := H
          have A55 := Aside0.mk A550
          clear A550
          by_cases c56 : t402 > a1
          ·rw [if_pos c56] at H
           have c56b0 : decide (a1 < t402) = true := decide_eq_true c56
           clear c56
           by_cases c57 : t402 ≤ (a0.size : Int)
           ·rw [if_pos c57] at H
            have c57b0 : decide (t402 ≤ (a0.size : Int)) = true := decide_eq_true c57
            clear c57
            by_cases c58 : t403 < a1
            ·rw [if_pos c58] at H
             have c58b0 : decide (t403 < a1) = true := decide_eq_true c58
             clear c58
             by_cases c59 : t403 ≥ 0
             ·rw [if_pos c59] at H
              have c59b0 : decide (0 ≤ t403) = true := decide_eq_true c59
              clear c59
              replace H := Option.bind_eq_some_iff.mp H
              obtain ⟨t404,A600,H⟩ := H
              replace H : (if t404 = true then ((cluster_Boundary.f kj25 a0 t403).bind fun t405 => (some t405)) else (some false)) = some r := H
              have A60 := Aside0.mk A600
              clear A600
              by_cases c61 : t404 = true
              ·subst c61
               have H1 : ((cluster_Boundary.f kj25 a0 t403).bind fun t405 => (some t405)) = some r := by rw [if_pos rfl] at H;exact H
               clear H
               have H := H1
               clear H1
               replace H := Option.bind_eq_some_iff.mp H
               obtain ⟨t405,A620,H⟩ := H
               replace H : (some t405) = some r := H
               have A62 := Aside0.mk A620
               clear A620
               obtain rfl := Option.some.inj H
               go_wp2_with (first | ((with_reducible refine gate_callee (f := 22) rfl ?_);refine goesL_ (some 97) rfl rfl Tryd.func22 (by kernel_rfl) rfl #[.string a0,.int .i64 a1] rfl au1 ?_;(with_reducible refine (word_Ahead.calls kj25 a0 a1 t402 _ ?side1 A54.out).mono ?_);(case side1 => exact tabs_below HT.out au0);rintro e w63 ⟨rfl,hb⟩;refine ⟨_,rfl,?_⟩;have n0_ := Aside0.mk (below_step au0 hb);clear HB;have HB := n0_;clear n0_;(try clear hb);(try clear hb2);(try clear hk);(try clear hi)) | ((with_reducible refine gate_callee (f := 24) rfl ?_);refine goesL_ (some 100) rfl rfl Tryd.func24 (by kernel_rfl) rfl #[.string a0,.int .i64 a1] rfl au1 ?_;(with_reducible refine (word_Behind.calls kj25 a0 a1 t403 _ ?side1 A55.out).mono ?_);(case side1 => exact tabs_below HT.out au0);rintro e w64 ⟨rfl,hb⟩;refine ⟨_,rfl,?_⟩;have n0_ := Aside0.mk (below_step au0 hb);clear HB;have HB := n0_;clear n0_;(try clear hb);(try clear hb2);(try clear hk);(try clear hi)) | (go_at_call 28;(with_reducible refine (cluster_Boundary.calls kj25 a0 t402 true _ ?side1 A60.out).mono ?_);(case side1 => exact tabs_below HT.out au0);rintro e w65 ⟨rfl,hb⟩;have n0_ := Aside0.mk (below_step au0 hb);clear HB;have HB := n0_;clear n0_;(try clear hb);(try clear hb2);(try clear hk);(try clear hi)) | (go_at_call 28;(with_reducible refine (cluster_Boundary.calls kj25 a0 t403 t405 _ ?side1 A62.out).mono ?_);(case side1 => exact tabs_below HT.out au0);rintro e w66 ⟨rfl,hb⟩;have n0_ := Aside0.mk (below_step au0 hb);clear HB;have HB := n0_;clear n0_;(try clear hb);(try clear hb2);(try clear hk);(try clear hi)))
               go_ret
               exact ⟨au2,au0⟩
              ·replace c61 := Bool.eq_false_iff.mpr c61
               subst c61
               have H1 : (some false) = some r := by rw [if_neg (show ¬ (false = true) by decide)] at H;exact H
               clear H
               have H := H1
               clear H1
               obtain rfl := Option.some.inj H
               cases hr_
             ·rw [if_neg c59] at H
              have c59b0 : decide (0 ≤ t403) = false := decide_eq_false c59
              clear c59
              obtain rfl := Option.some.inj H
              cases hr_
            ·rw [if_neg c58] at H
             have c58b0 : decide (t403 < a1) = false := decide_eq_false c58
             clear c58
             by_cases c72 : a1 = 0
             ·rw [if_pos c72] at H
              have c72b0 : (a1 == 0) = true := beq_iff_eq.mpr c72
              have c72b1 : (a1 != 0) = false := bne_eq_false_iff_eq.mpr c72
              clear c72
              by_cases c73 : t403 ≥ 0
              ·rw [if_pos c73] at H
               have c73b0 : decide (0 ≤ t403) = true := decide_eq_true c73
               clear c73
               replace H := Option.bind_eq_some_iff.mp H
               obtain ⟨t406,A740,H⟩ := H
               replace H : (if t406 = true then ((cluster_Boundary.f kj25 a0 t403).bind fun t407 => (some t407)) else (some false)) = some r := H
               have A74 := Aside0.mk A740
               clear A740
               by_cases c75 : t406 = true
               ·subst c75
                have H1 : ((cluster_Boundary.f kj25 a0 t403).bind fun t407 => (some t407)) = some r := by rw [if_pos rfl] at H;exact H
                clear H
                have H := H1
                clear H1
                replace H := Option.bind_eq_some_iff.mp H
                obtain ⟨t407,A760,H⟩ := H
                replace H : (some t407) = some r := H
                have A76 := Aside0.mk A760
                clear A760
                obtain rfl := Option.some.inj H
                go_wp2_with (first | ((with_reducible refine gate_callee (f := 22) rfl ?_);refine goesL_ (some 97) rfl rfl Tryd.func22 (by kernel_rfl) rfl #[.string a0,.int .i64 a1] rfl au1 ?_;(with_reducible refine (word_Ahead.calls kj25 a0 a1 t402 _ ?side1 A54.out).mono ?_);(case side1 => exact tabs_below HT.out au0);rintro e w77 ⟨rfl,hb⟩;refine ⟨_,rfl,?_⟩;have n0_ := Aside0.mk (below_step au0 hb);clear HB;have HB := n0_;clear n0_;(try clear hb);(try clear hb2);(try clear hk);(try clear hi)) | ((with_reducible refine gate_callee (f := 24) rfl ?_);refine goesL_ (some 100) rfl rfl Tryd.func24 (by kernel_rfl) rfl #[.string a0,.int .i64 a1] rfl au1 ?_;(with_reducible refine (word_Behind.calls kj25 a0 a1 t403 _ ?side1 A55.out).mono ?_);(case side1 => exact tabs_below HT.out au0);rintro e w78 ⟨rfl,hb⟩;refine ⟨_,rfl,?_⟩;have n0_ := Aside0.mk (below_step au0 hb);clear HB;have HB := n0_;clear n0_;(try clear hb);(try clear hb2);(try clear hk);(try clear hi)) | (go_at_call 28;(with_reducible refine (cluster_Boundary.calls kj25 a0 t402 true _ ?side1 A74.out).mono ?_);(case side1 => exact tabs_below HT.out au0);rintro e w79 ⟨rfl,hb⟩;have n0_ := Aside0.mk (below_step au0 hb);clear HB;have HB := n0_;clear n0_;(try clear hb);(try clear hb2);(try clear hk);(try clear hi)) | (go_at_call 28;(with_reducible refine (cluster_Boundary.calls kj25 a0 t403 t407 _ ?side1 A76.out).mono ?_);(case side1 => exact tabs_below HT.out au0);rintro e w80 ⟨rfl,hb⟩;have n0_ := Aside0.mk (below_step au0 hb);clear HB;have HB := n0_;clear n0_;(try clear hb);(try clear hb2);(try clear hk);(try clear hi)))
                go_ret
                exact ⟨au2,au0⟩
               ·replace c75 := Bool.eq_false_iff.mpr c75
                subst c75
                have H1 : (some false) = some r := by rw [if_neg (show ¬ (false = true) by decide)] at H;exact H
                clear H
                have H := H1
                clear H1
                obtain rfl := Option.some.inj H
                cases hr_
              ·rw [if_neg c73] at H
               have c73b0 : decide (0 ≤ t403) = false := decide_eq_false c73
               clear c73
               obtain rfl := Option.some.inj H
               cases hr_
             ·rw [if_neg c72] at H
              have c72b0 : (a1 == 0) = false := beq_eq_false_iff_ne.mpr c72
              have c72b1 : (a1 != 0) = true := bne_iff_ne.mpr c72
              obtain rfl := Option.some.inj H
              cases hr_
           ·rw [if_neg c57] at H
            have c57b0 : decide (t402 ≤ (a0.size : Int)) = false := decide_eq_false c57
            clear c57
            obtain rfl := Option.some.inj H
            cases hr_
          ·rw [if_neg c56] at H
           have c56b0 : decide (a1 < t402) = false := decide_eq_false c56
           clear c56
           by_cases c90 : a1 = (a0.size : Int)
           ·rw [if_pos c90] at H
            have c90b0 : (a1 == (a0.size : Int)) = true := beq_iff_eq.mpr c90
            have c90b1 : (a1 != (a0.size : Int)) = false := bne_eq_false_iff_eq.mpr c90
            clear c90
            by_cases c91 : t402 ≤ (a0.size : Int)
            ·rw [if_pos c91] at H
             have c91b0 : decide (t402 ≤ (a0.size : Int)) = true := decide_eq_true c91
             clear c91
             by_cases c92 : t403 < a1
             ·rw [if_pos c92] at H
              have c92b0 : decide (t403 < a1) = true := decide_eq_true c92
              clear c92
              by_cases c93 : t403 ≥ 0
              ·rw [if_pos c93] at H
               have c93b0 : decide (0 ≤ t403) = true := decide_eq_true c93
               clear c93
               replace H := Option.bind_eq_some_iff.mp H
               obtain ⟨t408,A940,H⟩ := H
               replace H : (if t408 = true then ((cluster_Boundary.f kj25 a0 t403).bind fun t409 => (some t409)) else (some false)) = some r := H
               have A94 := Aside0.mk A940
               clear A940
               by_cases c95 : t408 = true
               ·subst c95
                have H1 : ((cluster_Boundary.f kj25 a0 t403).bind fun t409 => (some t409)) = some r := by rw [if_pos rfl] at H;exact H
                clear H
                have H := H1
                clear H1
                replace H := Option.bind_eq_some_iff.mp H
                obtain ⟨t409,A960,H⟩ := H
                replace H : (some t409) = some r := H
                have A96 := Aside0.mk A960
                clear A960
                obtain rfl := Option.some.inj H
                go_wp2_with (first | ((with_reducible refine gate_callee (f := 22) rfl ?_);refine goesL_ (some 97) rfl rfl Tryd.func22 (by kernel_rfl) rfl #[.string a0,.int .i64 a1] rfl au1 ?_;(with_reducible refine (word_Ahead.calls kj25 a0 a1 t402 _ ?side1 A54.out).mono ?_);(case side1 => exact tabs_below HT.out au0);rintro e w97 ⟨rfl,hb⟩;refine ⟨_,rfl,?_⟩;have n0_ := Aside0.mk (below_step au0 hb);clear HB;have HB := n0_;clear n0_;(try clear hb);(try clear hb2);(try clear hk);(try clear hi)) | ((with_reducible refine gate_callee (f := 24) rfl ?_);refine goesL_ (some 100) rfl rfl Tryd.func24 (by kernel_rfl) rfl #[.string a0,.int .i64 a1] rfl au1 ?_;(with_reducible refine (word_Behind.calls kj25 a0 a1 t403 _ ?side1 A55.out).mono ?_);(case side1 => exact tabs_below HT.out au0);rintro e w98 ⟨rfl,hb⟩;refine ⟨_,rfl,?_⟩;have n0_ := Aside0.mk (below_step au0 hb);clear HB;have HB := n0_;clear n0_;(try clear hb);(try clear hb2);(try clear hk);(try clear hi)) | (go_at_call 28;(with_reducible refine (cluster_Boundary.calls kj25 a0 t402 true _ ?side1 A94.out).mono ?_);(case side1 => exact tabs_below HT.out au0);rintro e w99 ⟨rfl,hb⟩;have n0_ := Aside0.mk (below_step au0 hb);clear HB;have HB := n0_;clear n0_;(try clear hb);(try clear hb2);(try clear hk);(try clear hi)) | (go_at_call 28;(with_reducible refine (cluster_Boundary.calls kj25 a0 t403 t409 _ ?side1 A96.out).mono ?_);(case side1 => exact tabs_below HT.out au0);rintro e w100 ⟨rfl,hb⟩;have n0_ := Aside0.mk (below_step au0 hb);clear HB;have HB := n0_;clear n0_;(try clear hb);(try clear hb2);(try clear hk);(try clear hi)))
                go_ret
                exact ⟨au2,au0⟩
               ·replace c95 := Bool.eq_false_iff.mpr c95
                subst c95
                have H1 : (some false) = some r := by rw [if_neg (show ¬ (false = true) by decide)] at H;exact H
                clear H
                have H := H1
                clear H1
                obtain rfl := Option.some.inj H
                cases hr_
              ·rw [if_neg c93] at H
               have c93b0 : decide (0 ≤ t403) = false := decide_eq_false c93
               clear c93
               obtain rfl := Option.some.inj H
               cases hr_
             ·rw [if_neg c92] at H
              have c92b0 : decide (t403 < a1) = false := decide_eq_false c92
              clear c92
              by_cases c106 : a1 = 0
              ·rw [if_pos c106] at H
               have c106b0 : (a1 == 0) = true := beq_iff_eq.mpr c106
               have c106b1 : (a1 != 0) = false := bne_eq_false_iff_eq.mpr c106
               clear c106
               by_cases c107 : t403 ≥ 0
               ·rw [if_pos c107] at H
                have c107b0 : decide (0 ≤ t403) = true := decide_eq_true c107
                clear c107
                replace H := Option.bind_eq_some_iff.mp H
                obtain ⟨t410,A1080,H⟩ := H
                replace H : (if t410 = true then ((cluster_Boundary.f kj25 a0 t403).bind fun t411 => (some t411)) else (some false)) = some r := H
                have A108 := Aside0.mk A1080
                clear A1080
                by_cases c109 : t410 = true
                ·subst c109
                 have H1 : ((cluster_Boundary.f kj25 a0 t403).bind fun t411 => (some t411)) = some r := by rw [if_pos rfl] at H;exact H
                 clear H
                 have H := H1
                 clear H1
                 replace H := Option.bind_eq_some_iff.mp H
                 obtain ⟨t411,A1100,H⟩ := H
                 replace H : (some t411) = some r := H
                 have A110 := Aside0.mk A1100
                 clear A1100
                 obtain rfl := Option.some.inj H
                 go_wp2_with (first | ((with_reducible refine gate_callee (f := 22) rfl ?_);refine goesL_ (some 97) rfl rfl Tryd.func22 (by kernel_rfl) rfl #[.string a0,.int .i64 a1] rfl au1 ?_;(with_reducible refine (word_Ahead.calls kj25 a0 a1 t402 _ ?side1 A54.out).mono ?_);(case side1 => exact tabs_below HT.out au0);rintro e w111 ⟨rfl,hb⟩;refine ⟨_,rfl,?_⟩;have n0_ := Aside0.mk (below_step au0 hb);clear HB;have HB := n0_;clear n0_;(try clear hb);(try clear hb2);(try clear hk);(try clear hi)) | ((with_reducible refine gate_callee (f := 24) rfl ?_);refine goesL_ (some 100) rfl rfl Tryd.func24 (by kernel_rfl) rfl #[.string a0,.int .i64 a1] rfl au1 ?_;(with_reducible refine (word_Behind.calls kj25 a0 a1 t403 _ ?side1 A55.out).mono ?_);(case side1 => exact tabs_below HT.out au0);rintro e w112 ⟨rfl,hb⟩;refine ⟨_,rfl,?_⟩;have n0_ := Aside0.mk (below_step au0 hb);clear HB;have HB := n0_;clear n0_;(try clear hb);(try clear hb2);(try clear hk);(try clear hi)) | (go_at_call 28;(with_reducible refine (cluster_Boundary.calls kj25 a0 t402 true _ ?side1 A108.out).mono ?_);(case side1 => exact tabs_below HT.out au0);rintro e w113 ⟨rfl,hb⟩;have n0_ := Aside0.mk (below_step au0 hb);clear HB;have HB := n0_;clear n0_;(try clear hb);(try clear hb2);(try clear hk);(try clear hi)) | (go_at_call 28;(with_reducible refine (cluster_Boundary.calls kj25 a0 t403 t411 _ ?side1 A110.out).mono ?_);(case side1 => exact tabs_below HT.out au0);rintro e w114 ⟨rfl,hb⟩;have n0_ := Aside0.mk (below_step au0 hb);clear HB;have HB := n0_;clear n0_;(try clear hb);(try clear hb2);(try clear hk);(try clear hi)))
                 go_ret
                 exact ⟨au2,au0⟩
                ·replace c109 := Bool.eq_false_iff.mpr c109
                 subst c109
                 have H1 : (some false) = some r := by rw [if_neg (show ¬ (false = true) by decide)] at H;exact H
                 clear H
                 have H := H1
                 clear H1
                 obtain rfl := Option.some.inj H
                 cases hr_
               ·rw [if_neg c107] at H
                have c107b0 : decide (0 ≤ t403) = false := decide_eq_false c107
                clear c107
                obtain rfl := Option.some.inj H
                cases hr_
              ·rw [if_neg c106] at H
               have c106b0 : (a1 == 0) = false := beq_eq_false_iff_ne.mpr c106
               have c106b1 : (a1 != 0) = true := bne_iff_ne.mpr c106
               obtain rfl := Option.some.inj H
               cases hr_
            ·rw [if_neg c91] at H
             have c91b0 : decide (t402 ≤ (a0.size : Int)) = false := decide_eq_false c91
             clear c91
             obtain rfl := Option.some.inj H
             cases hr_
           ·rw [if_neg c90] at H
            have c90b0 : (a1 == (a0.size : Int)) = false := beq_eq_false_iff_ne.mpr c90
            have c90b1 : (a1 != (a0.size : Int)) = true := bne_iff_ne.mpr c90
            obtain rfl := Option.some.inj H
            cases hr_
 ·replace c4 := Bool.eq_false_iff.mpr c4
  subst c4
  have H1 : (some false) = some r := by rw [if_neg (show ¬ (false = true) by decide)] at H;exact H
  clear H
  have H := H1
  clear H1
  obtain rfl := Option.some.inj H
  cases hr_
end Go.Proofs.YtkficbgnjpekaaaDoor.U
end
section
namespace Go.Proofs.YtkficbgnjpekaaaDoor.Pu
open Go Go.RowKit Go.Proofs.YtkficbgnjpekaaaDoor.Mu Go.Proofs.YtkficbgnjpekaaaDoor.U Go.Proofs.YtkficbgnjpekaaaDoorW.PrintWords Go.Proofs.YtkficbgnjpekaaaDoorW.PrintLast Go.Proofs.YtkficbgnjpekaaaDoorW.PrintMore
theorem awake_ans : Ev (fun k => bodkinlaw05_awake.f k) true := Ev.of (fun k => bodkinlaw05_awake.mono k) (k := 200) (by kernel_rfl)
end Go.Proofs.YtkficbgnjpekaaaDoor.Pu
end
section
namespace Go.Proofs.YtkficbgnjpekaaaDoor.Pu
open Go Go.RowKit Go.Proofs.YtkficbgnjpekaaaDoor.Mu Go.Proofs.YtkficbgnjpekaaaDoor.U Go.Proofs.YtkficbgnjpekaaaDoorW.PrintWords Go.Proofs.YtkficbgnjpekaaaDoorW.PrintLast Go.Proofs.YtkficbgnjpekaaaDoorW.PrintMore
set_option linter.unusedVariables false
set_option linter.unusedSimpArgs false
/-- Does a cluster stand in a word? -/
def wC (s : ByteArray) (c : S61) : Bool := wAt s c.f0.toNat
def spR (s : ByteArray) : Option (Int × Int) → List S61 → List S32
 | none,[] => []
 | some (a,b),[] => [⟨a,b⟩]
 | none,c :: cs => if wC s c = true then spR s (some (c.f0,c.f1)) cs else spR s none cs
 | some (a,b),c :: cs => if wC s c = true then spR s (some (a,c.f1)) cs else ⟨a,b⟩ :: spR s none cs
theorem sp_fold (s : ByteArray) : ∀ (cs : List S61) (L : List S32),(cs.foldl (spStep s) (false,L)).2 = L ++ spR s none cs ∧ ∀ a b,(cs.foldl (spStep s) (true,L ++ [⟨a,b⟩])).2 = L ++ spR s (some (a,b)) cs
 | [],L => ⟨by simp [spR],fun a b => by simp [spR]⟩
 | c :: cs,L => by
  refine ⟨?_,fun a b => ?_⟩
  ·rw [List.foldl_cons,spR]
   cases hw : wC s c with
   | true => rw [spStep_new s L c hw,(sp_fold s cs L).2,if_pos rfl]
   | false => rw [spStep_off s false L c hw,(sp_fold s cs L).1,if_neg (by simp)]
  ·rw [List.foldl_cons,spR]
   cases hw : wC s c with
   | true => rw [spStep_on s L a b c hw,(sp_fold s cs L).2,if_pos rfl]
   | false => rw [spStep_off s true (L ++ [(⟨a,b⟩ : S32)]) c hw,(sp_fold s cs (L ++ [(⟨a,b⟩ : S32)])).1,if_neg (by simp),List.append_assoc];rfl
theorem spans_runs (s : ByteArray) : spansL s = spR s none (clusL s) := by
 have := (sp_fold s (clusL s) []).1
 rw [List.nil_append] at this
 exact this
section
variable (s : ByteArray) (hs : s.size ≤ 1099511627776)
end
theorem spans_ev (s : ByteArray) (hs : s.size ≤ 1099511627776) : word_Spans.f s = some (spansL s) := by unfold word_Spans.f;rw [if_pos hs]
def ahL (n a : Int) : List S32 → Int
 | [] => n
 | p :: l => if p.f1 > a then p.f1 else ahL n a l
def beL (a : Int) : Int → List S32 → Int
 | x,[] => x
 | x,p :: l => beL a (if p.f0 < a then p.f0 else x) l
theorem rd_span (L : List S32) (i : Nat) (c : S32) (cs : List S32) (h : L.drop i = c :: cs) : i < L.length ∧ rd_T32 L i = c ∧ L.drop (i + 1) = cs := by
 obtain ⟨hi,hg,hd⟩ := drop_cons' (d := z32) h
 exact ⟨hi,by unfold rd_T32;rw [Int.toNat_natCast];exact hg,hd⟩
def heldB (s : ByteArray) (a : Int) : Int := mn (mx a 0) (s.size : Int)
def ahA (s : ByteArray) (a : Int) : Int := ahL s.size (heldB s a) (spansL s)
def beA (s : ByteArray) (a : Int) : Int := beL (heldB s a) 0 (spansL s)
theorem ahead_loop (s : ByteArray) (a : Int) (L : List S32) (hL : L.length ≤ 1099511627776) : ∀ (l : List S32) (i : Nat),L.drop i = l → Ev (fun k => word_Ahead.l0 k s a L (L.length : Int) i) (ahL s.size a l) := by
 intro l
 induction l with
 | nil => intro i h;have := List.drop_eq_nil_iff.1 h;exact Ev.step (fun k => word_Ahead.l0.eq_2 ..) (ev_neg (by omega) (Ev.now _))
 | cons p l ih =>
  intro i h
  obtain ⟨hi,hr,hd⟩ := rd_span L i p l h
  refine Ev.step (fun k => word_Ahead.l0.eq_2 ..) (ev_pos (by omega) (ev_pos (by omega) (ev_pos (by omega) ?_)))
  rw [hr,w64 (by omega) (by omega),ahL]
  by_cases h1 : p.f1 > a
  ·rw [if_pos h1];exact ev_pos h1 (Ev.now _)
  ·rw [if_neg h1];exact ev_neg h1 (ih (i + 1) hd)
theorem behind_loop (a : Int) (L : List S32) (hL : L.length ≤ 1099511627776) : ∀ (l : List S32) (i : Nat) (x : Int),L.drop i = l → Ev (fun k => word_Behind.l0 k a x L (L.length : Int) i) (beL a x l) := by
 intro l
 induction l with
 | nil => intro i x h;have := List.drop_eq_nil_iff.1 h;exact Ev.step (fun k => word_Behind.l0.eq_2 ..) (ev_neg (by omega) (Ev.now _))
 | cons p l ih =>
  intro i x h
  obtain ⟨hi,hr,hd⟩ := rd_span L i p l h
  refine Ev.step (fun k => word_Behind.l0.eq_2 ..) (ev_pos (by omega) (ev_pos (by omega) (ev_pos (by omega) ?_)))
  rw [hr,w64 (by omega) (by omega),beL]
  by_cases h1 : p.f0 < a
  ·rw [if_pos h1];exact ev_pos h1 (ih (i + 1) _ hd)
  ·rw [if_neg h1];exact ev_neg h1 (ih (i + 1) _ hd)
theorem ahead_ans (s : ByteArray) (hs : s.size ≤ 1099511627776) (a : Int) : Ev (fun k => word_Ahead.f k s a) (ahA s a) :=
 ev_some (spans_ev s hs) (ahead_loop s _ _ (by have := spans_len s;omega) _ 0 rfl)
theorem behind_ans (s : ByteArray) (hs : s.size ≤ 1099511627776) (a : Int) : Ev (fun k => word_Behind.f k s a) (beA s a) :=
 ev_some (spans_ev s hs) (behind_loop _ _ (by have := spans_len s;omega) _ 0 0 rfl)
end Go.Proofs.YtkficbgnjpekaaaDoor.Pu
end
section
namespace Go.Proofs.YtkficbgnjpekaaaDoor.Pu
open Go Go.RowKit Go.Proofs.YtkficbgnjpekaaaDoor.Mu Go.Proofs.YtkficbgnjpekaaaDoor.U Go.Proofs.YtkficbgnjpekaaaDoorW.PrintWords Go.Proofs.YtkficbgnjpekaaaDoorW.PrintLast Go.Proofs.YtkficbgnjpekaaaDoorW.PrintMore
set_option linter.unusedVariables false
set_option linter.unusedSimpArgs false
theorem clAt_f0 (s : ByteArray) (x : Nat) : (clAt s x).f0 = (x : Int) := rfl
theorem clAt_f1 (s : ByteArray) (x : Nat) : (clAt s x).f1 = (nxt s x : Int) := rfl
/-- Spans in order,from x on. -/
structure InOrd (s : ByteArray) (x : Int) (l : List S32) : Prop where
 one : ∀ p ∈ l,x ≤ p.f0 ∧ p.f0 < p.f1 ∧ CBI s p.f0 ∧ CBI s p.f1
 ord : l.Pairwise (fun p q => p.f1 < q.f0)
theorem InOrd.nil (s : ByteArray) (x : Int) : InOrd s x [] := ⟨(fun _ h => by cases h),List.Pairwise.nil⟩
theorem InOrd.mono {s : ByteArray} {x y : Int} {l : List S32} (h : InOrd s y l) (hxy : x ≤ y) : InOrd s x l := ⟨fun p hp => ⟨by have := (h.one p hp).1;omega,(h.one p hp).2⟩,h.ord⟩
theorem InOrd.cons {s : ByteArray} {a b x : Int} {l : List S32} (h : InOrd s x l) (hx : b < x) (hab : a < b) (ha : CBI s a) (hb : CBI s b) : InOrd s a (⟨a,b⟩ :: l) :=
 ⟨(fun p hp => by
  rcases List.mem_cons.1 hp with rfl | hp
  ·exact ⟨Int.le_refl _,hab,ha,hb⟩
  ·have := h.one p hp;exact ⟨by omega,this.2⟩),List.pairwise_cons.2 ⟨(fun q hq => by have := (h.one q hq).1;show b < q.f0;omega),h.ord⟩⟩
theorem sp_ord (s : ByteArray) : ∀ n x : Nat,s.size - x ≤ n → CB s x → InOrd s x (spR s none (ctl s x)) ∧ ∀ a : Int,CBI s a → a < x → InOrd s a (spR s (some (a,(x : Int))) (ctl s x)) := by
 intro n
 induction n with
 | zero =>
  intro x hn hc
  rw [ctl_end s x (by omega)]
  exact ⟨InOrd.nil _ _,fun a ha hx => (InOrd.nil s (x + 1)).cons (by omega) hx ha ((cbI_nat _ _).2 hc)⟩
 | succ n ih =>
  intro x hn hc
  by_cases hx : x < s.size
  ·have h1 := nxt_pos s x hx
   have hcn := nxt_cb s x hc.1 hx
   obtain ⟨i1,i2⟩ := ih (nxt s x) (by omega) hcn
   rw [ctl_go s x hx]
   have hcx : CBI s (x : Int) := (cbI_nat _ _).2 hc
   refine ⟨?_,fun a ha hax => ?_⟩
   ·rw [spR]
    by_cases hw : wC s (clAt s x) = true
    ·rw [if_pos hw,clAt_f0,clAt_f1];exact i2 x hcx (by omega)
    ·rw [if_neg hw];exact i1.mono (by omega)
   ·rw [spR]
    by_cases hw : wC s (clAt s x) = true
    ·rw [if_pos hw,clAt_f1];exact i2 a ha (by omega)
    ·rw [if_neg hw];exact i1.cons (by omega) hax ha hcx
  ·rw [ctl_end s x (by omega)]
   exact ⟨InOrd.nil _ _,fun a ha hx => (InOrd.nil s (x + 1)).cons (by omega) hx ha ((cbI_nat _ _).2 hc)⟩
theorem spans_ord (s : ByteArray) : InOrd s 0 (spansL s) := by
 rw [spans_runs,clusL_ctl]
 exact (sp_ord s s.size 0 (by omega) (cb_zero s)).1
theorem ahL_none (n a : Int) : ∀ (l : List S32),(∀ p ∈ l,p.f1 ≤ a) → ahL n a l = n
 | [],_ => rfl
 | p :: l,h => by rw [ahL,if_neg (by have := h p (by simp);omega)];exact ahL_none n a l (fun q hq => h q (List.mem_cons_of_mem _ hq))
theorem ahL_at (n a : Int) (p : S32) (l2 : List S32) (hp : a < p.f1) : ∀ (l : List S32),(∀ q ∈ l,q.f1 ≤ a) → ahL n a (l ++ p :: l2) = p.f1
 | [],_ => by rw [List.nil_append,ahL,if_pos hp]
 | q :: l,h => by rw [List.cons_append,ahL,if_neg (by have := h q (by simp);omega)];exact ahL_at n a p l2 hp l (fun q hq => h q (List.mem_cons_of_mem _ hq))
theorem beL_none (a : Int) : ∀ (l : List S32) (x : Int),(∀ p ∈ l,a ≤ p.f0) → beL a x l = x
 | [],_,_ => rfl
 | p :: l,x,h => by rw [beL,if_neg (by have := h p (by simp);omega)];exact beL_none a l x (fun q hq => h q (List.mem_cons_of_mem _ hq))
theorem beL_at (a : Int) (p : S32) (l2 : List S32) (hp : p.f0 < a) (h2 : ∀ q ∈ l2,a ≤ q.f0) : ∀ (l : List S32) (x : Int),beL a x (l ++ p :: l2) = p.f0
 | [],x => by rw [List.nil_append,beL,if_pos hp];exact beL_none a l2 _ h2
 | q :: l,x => by rw [List.cons_append,beL];exact beL_at a p l2 hp h2 l _
theorem held_in (s : ByteArray) (a : Int) (h0 : 0 ≤ a) (h1 : a ≤ s.size) : heldB s a = a := by unfold heldB mx mn;omega
theorem held_low (s : ByteArray) (a : Int) (h0 : a ≤ 0) : heldB s a = 0 := by unfold heldB mx mn;omega
theorem held_high (s : ByteArray) (a : Int) (h0 : s.size ≤ a) : heldB s a = s.size := by unfold heldB mx mn;omega
theorem ord_split (s : ByteArray) (l l2 : List S32) (p : S32) (h : InOrd s 0 (l ++ p :: l2)) : (∀ q ∈ l,q.f1 < p.f0) ∧ (∀ q ∈ l2,p.f1 < q.f0) ∧ (0 ≤ p.f0 ∧ p.f0 < p.f1 ∧ p.f1 ≤ s.size) := by
 have hp := List.pairwise_append.1 h.ord
 have hc := List.pairwise_cons.1 hp.2.1
 have ho := h.one p (by simp)
 have := cbI_le ho.2.2.2
 exact ⟨fun q hq => hp.2.2 q hq p (by simp),hc.1,ho.1,ho.2.1,this.2⟩
/-- What Ahead finds lies ahead,on a boundary. -/
theorem ahA_spec (s : ByteArray) (a : Int) (h0 : 0 ≤ a) (h1 : a ≤ s.size) : (a < ahA s a ∨ a = s.size) ∧ ahA s a ≤ s.size ∧ CBI s (ahA s a) := by
 unfold ahA
 rw [held_in s a h0 h1]
 have ho := spans_ord s
 generalize spansL s = l at ho
 have : ∀ l : List S32,(∀ p ∈ l,CBI s p.f1) → (a < ahL s.size a l ∨ a = s.size) ∧ ahL s.size a l ≤ s.size ∧ CBI s (ahL s.size a l) := by
  intro l
  induction l with
  | nil => intro _;exact ⟨by rw [ahL];omega,Int.le_refl _,cbI_size s⟩
  | cons p l ih =>
   intro h
   rw [ahL]
   by_cases hp : p.f1 > a
   ·rw [if_pos hp];have := h p (by simp);exact ⟨.inl hp,(cbI_le this).2,this⟩
   ·rw [if_neg hp];exact ih (fun q hq => h q (List.mem_cons_of_mem _ hq))
 exact this l (fun p hp => (ho.one p hp).2.2.2)
theorem beA_spec (s : ByteArray) (a : Int) (h0 : 0 ≤ a) (h1 : a ≤ s.size) : (beA s a < a ∨ a = 0) ∧ 0 ≤ beA s a ∧ CBI s (beA s a) := by
 unfold beA
 rw [held_in s a h0 h1]
 have ho := spans_ord s
 generalize spansL s = l at ho
 have : ∀ (l : List S32) (x : Int),(∀ p ∈ l,CBI s p.f0) → (x < a ∨ a = 0 ∧ x = 0) → CBI s x → (beL a x l < a ∨ a = 0) ∧ 0 ≤ beL a x l ∧ CBI s (beL a x l) := by
  intro l
  induction l with
  | nil => intro x _ hx hc;exact ⟨by rw [beL];omega,(cbI_le hc).1,hc⟩
  | cons p l ih =>
   intro x h hx hc
   rw [beL]
   by_cases hp : p.f0 < a
   ·rw [if_pos hp];exact ih _ (fun q hq => h q (List.mem_cons_of_mem _ hq)) (.inl hp) (h p (by simp))
   ·rw [if_neg hp];exact ih _ (fun q hq => h q (List.mem_cons_of_mem _ hq)) hx hc
 exact this l 0 (fun p hp => (ho.one p hp).2.2.1) (by omega) (cbI_zero s)
theorem split_at {α : Type} (l : List α) (i : Nat) (h : i < l.length) : l = l.take i ++ l[i] :: l.drop (i + 1) := by
 rw [← List.drop_eq_getElem_cons h,List.take_append_drop]
/-- Ahead of a word's end is the next word's end. -/
theorem ahA_step (s : ByteArray) (i : Nat) (h : i < (spansL s).length) (p : Int) (hp : (i = 0 ∧ p = 0) ∨ ∃ j,i = j + 1 ∧ ∃ hj : j < (spansL s).length,p = (spansL s)[j].f1) : ahA s p = (spansL s)[i].f1 := by
 have ho := spans_ord s
 have hs := ord_split s _ _ _ (split_at (spansL s) i h ▸ ho)
 have hle : 0 ≤ p ∧ p ≤ s.size ∧ (∀ q ∈ (spansL s).take i,q.f1 ≤ p) ∧ p < (spansL s)[i].f1 := by
  rcases hp with ⟨rfl,rfl⟩ | ⟨j,rfl,hj,rfl⟩
  ·exact ⟨by omega,by omega,(fun q hq => by rw [List.take_zero] at hq;cases hq),by omega⟩
  ·have hs2 := ord_split s _ _ _ (split_at (spansL s) j hj ▸ ho)
   have hm : (spansL s)[j] ∈ (spansL s).take (j + 1) := by rw [← List.take_append_getElem hj,List.mem_append];exact .inr (List.mem_singleton.2 rfl)
   refine ⟨by omega,hs2.2.2.2.2,fun q hq => ?_,by have := hs.1 _ hm;omega⟩
   rw [← List.take_append_getElem hj] at hq
   rcases List.mem_append.1 hq with hq | hq
   ·have := hs2.1 q hq;omega
   ·rw [List.mem_singleton] at hq;subst hq;omega
 unfold ahA
 rw [held_in s p hle.1 hle.2.1]
 have := ahL_at s.size p (spansL s)[i] ((spansL s).drop (i + 1)) hle.2.2.2 ((spansL s).take i) hle.2.2.1
 rwa [← split_at] at this
theorem beA_step (s : ByteArray) (i : Nat) (h : i < (spansL s).length) (q : Int) (hq : (i + 1 = (spansL s).length ∧ q = s.size) ∨ ∃ hj : i + 1 < (spansL s).length,q = (spansL s)[i + 1].f0) : beA s q = (spansL s)[i].f0 := by
 have ho := spans_ord s
 have hs := ord_split s _ _ _ (split_at (spansL s) i h ▸ ho)
 have hle : 0 ≤ q ∧ q ≤ s.size ∧ (∀ p ∈ (spansL s).drop (i + 1),q ≤ p.f0) ∧ (spansL s)[i].f0 < q := by
  rcases hq with ⟨h1,rfl⟩ | ⟨hj,rfl⟩
  ·exact ⟨by omega,by omega,(fun p hp => by rw [List.drop_eq_nil_of_le (by omega)] at hp;cases hp),by omega⟩
  ·have hs2 := ord_split s _ _ _ (split_at (spansL s) (i + 1) hj ▸ ho)
   have hm : (spansL s)[i + 1] ∈ (spansL s).drop (i + 1) := by rw [List.drop_eq_getElem_cons hj];exact List.mem_cons_self
   refine ⟨hs2.2.2.1,by omega,fun p hp => ?_,by have := hs.2.1 _ hm;omega⟩
   rw [List.drop_eq_getElem_cons hj] at hp
   rcases List.mem_cons.1 hp with rfl | hp
   ·omega
   ·have := hs2.2.1 p hp;omega
 unfold beA
 rw [held_in s q hle.1 hle.2.1]
 have := beL_at q (spansL s)[i] ((spansL s).drop (i + 1)) hle.2.2.2 hle.2.2.1 ((spansL s).take i) 0
 rwa [← split_at] at this
theorem ahA_end (s : ByteArray) (p : Int) (hp : ((spansL s).length = 0 ∧ p = 0) ∨ ∃ j,∃ hj : j < (spansL s).length,j + 1 = (spansL s).length ∧ p = (spansL s)[j].f1) : ahA s p = s.size := by
 have ho := spans_ord s
 unfold ahA
 rcases hp with ⟨h1,rfl⟩ | ⟨j,hj,h1,rfl⟩
 ·rw [List.length_eq_zero_iff.1 h1];rfl
 ·have hs2 := ord_split s _ _ _ (split_at (spansL s) j hj ▸ ho)
  rw [held_in s _ (by omega) hs2.2.2.2.2]
  refine ahL_none _ _ _ (fun q hq => ?_)
  have e := split_at (spansL s) j hj
  rw [List.drop_eq_nil_of_le (by omega)] at e
  rw [e] at hq
  rcases List.mem_append.1 hq with hq | hq
  ·have := hs2.1 q hq;omega
  ·rw [List.mem_singleton] at hq;subst hq;omega
theorem beA_end (s : ByteArray) (q : Int) (hq : ((spansL s).length = 0 ∧ q = s.size) ∨ ∃ hj : 0 < (spansL s).length,q = (spansL s)[0].f0) : beA s q = 0 := by
 have ho := spans_ord s
 unfold beA
 rcases hq with ⟨h1,rfl⟩ | ⟨hj,rfl⟩
 ·rw [List.length_eq_zero_iff.1 h1];rfl
 ·have hs2 := ord_split s _ _ _ (split_at (spansL s) 0 hj ▸ ho)
  rw [held_in s _ hs2.2.2.1 (by omega)]
  refine beL_none _ _ _ (fun p hp => ?_)
  have e := split_at (spansL s) 0 hj
  rw [List.take_zero,List.nil_append] at e
  rw [e] at hp
  rcases List.mem_cons.1 hp with rfl | hp
  ·omega
  ·have := hs2.2.1 p hp;omega
end Go.Proofs.YtkficbgnjpekaaaDoor.Pu
end
section
namespace Go.Proofs.YtkficbgnjpekaaaDoor.Pure
open Go Go.RowKit Go.Proofs.YtkficbgnjpekaaaDoor.Mu Go.Proofs.YtkficbgnjpekaaaDoor.Pu Go.Proofs.YtkficbgnjpekaaaDoor.U Go.Proofs.YtkficbgnjpekaaaDoorW.PrintWords Go.Proofs.YtkficbgnjpekaaaDoorW.PrintLast Go.Proofs.YtkficbgnjpekaaaDoorW.PrintMore
set_option linter.unusedVariables false
theorem cb_yes {s : ByteArray} (hs : s.size ≤ 1099511627776) {a : Int} (h : CBI s a) : Ev (fun k => cluster_Boundary.f k s a) true := by
 have := cboundary_ans s hs a
 rwa [(cbB_iff s a).2 h] at this
theorem wsteps_j1 (s : ByteArray) (hs : s.size ≤ 1048576) (a : Int) (b : Bool) (hb : b = false) : Ev (fun k => bodkinlaw05_WordSteps.j1 k s a b) true := by
 have hs' : s.size ≤ 1099511627776 := by omega
 refine Ev.step (fun k => bodkinlaw05_WordSteps.j1.eq_2 ..) (ev_neg (by rw [hb];simp) ?_)
 by_cases h0 : a < 0
 ·refine ev_pos h0 (Ev.bind (ahead_ans s hs' a) (Ev.bind (ahead_ans s hs' 0) (ev_pos ?_ (Ev.bind (behind_ans s hs' a) (ev_now ?_)))))
  ·unfold ahA;rw [held_low s a (by omega),held_low s 0 (by omega)]
  ·rw [beq_iff_eq]
   unfold beA;rw [held_low s a (by omega)]
   exact beL_none _ _ _ (fun p hp => ((spans_ord s).one p hp).1)
 refine ev_neg h0 ?_
 by_cases h1 : a > s.size
 ·refine ev_pos h1 (Ev.bind (ahead_ans s hs' a) (ev_pos ?_ (Ev.bind (behind_ans s hs' a) (Ev.bind (behind_ans s hs' s.size) (ev_now ?_)))))
  ·unfold ahA;rw [held_high s a (by omega)]
   exact ahL_none _ _ _ (fun p hp => (cbI_le ((spans_ord s).one p hp).2.2.2).2)
  ·rw [beq_iff_eq];unfold beA;rw [held_high s a (by omega),held_high s s.size (by omega)]
 refine ev_neg h1 (Ev.bind (ahead_ans s hs' a) (Ev.bind (behind_ans s hs' a) ?_))
 obtain ⟨p1,p2,p3⟩ := ahA_spec s a (by omega) (by omega)
 obtain ⟨q1,q2,q3⟩ := beA_spec s a (by omega) (by omega)
 have hfin : ∀ g : Nat → Option Bool,(∀ k,g k = (cluster_Boundary.f k s (ahA s a)).bind fun t => (if t = true then ((cluster_Boundary.f k s (beA s a)).bind fun u => (some u)) else (some false))) → Ev g true := fun g hg =>
  Ev.congr hg (Ev.bind (cb_yes hs' p3) (ev_pos rfl (Ev.bind (cb_yes hs' q3) (Ev.now _))))
 have hin : ∀ g : Nat → Option Bool,(∀ k,g k = if beA s a < a then (if beA s a ≥ 0 then ((cluster_Boundary.f k s (ahA s a)).bind fun t => (if t = true then ((cluster_Boundary.f k s (beA s a)).bind fun u => (some u)) else (some false))) else (some false)) else (if a = 0 then (if beA s a ≥ 0 then ((cluster_Boundary.f k s (ahA s a)).bind fun t => (if t = true then ((cluster_Boundary.f k s (beA s a)).bind fun u => (some u)) else (some false))) else (some false)) else (some false))) → Ev g true := fun g hg => by
  refine Ev.congr hg ?_
  by_cases h3 : beA s a < a
  ·exact ev_pos h3 (ev_pos q2 (hfin _ (fun _ => rfl)))
  ·exact ev_neg h3 (ev_pos (by omega) (ev_pos q2 (hfin _ (fun _ => rfl))))
 by_cases h2 : ahA s a > a
 ·exact ev_pos h2 (ev_pos p2 (hin _ (fun _ => rfl)))
 ·exact ev_neg h2 (ev_pos (by omega) (ev_pos p2 (hin _ (fun _ => rfl))))
theorem rd_spans (L : List S32) (i : Nat) (h : i < L.length) : rd_T32 L i = L[i] := by
 unfold rd_T32;rw [Int.toNat_natCast,List.getD_eq_getElem?_getD,List.getElem?_eq_getElem h];rfl
theorem wsteps_loop (s : ByteArray) (hs : s.size ≤ 1048576) (a : Int) : ∀ (n i : Nat) (p q : Int),i + n = (spansL s).length → ((i = 0 ∧ p = 0) ∨ ∃ j,i = j + 1 ∧ ∃ hj : j < (spansL s).length,p = (spansL s)[j].f1) →
  ((i = 0 ∧ q = s.size) ∨ 0 < i ∧ ∃ hj : (spansL s).length - i < (spansL s).length,q = (spansL s)[(spansL s).length - i].f0) → Ev (fun k => bodkinlaw05_WordSteps.l0 k s a (spansL s) p q i) true := by
 have hs' : s.size ≤ 1099511627776 := by omega
 have hl := spans_len s
 intro n
 induction n with
 | zero =>
  intro i p q hi hp hq
  refine Ev.step (fun k => bodkinlaw05_WordSteps.l0.eq_2 ..) (ev_neg (by omega) (Ev.bind (ahead_ans s hs' p) (ev_pos ?_ (Ev.bind (behind_ans s hs' q) (wsteps_j1 s hs a _ ?_)))))
  ·refine ahA_end s p ?_
   rcases hp with ⟨h1,h2⟩ | ⟨j,h1,hj,h2⟩
   ·exact .inl ⟨by omega,h2⟩
   ·exact .inr ⟨j,hj,by omega,h2⟩
  ·have : beA s q = 0 := by
    refine beA_end s q ?_
    rcases hq with ⟨h1,h2⟩ | ⟨h1,hj,h2⟩
    ·exact .inl ⟨by omega,h2⟩
    ·have e : (spansL s).length - i = 0 := by omega
     exact .inr ⟨by omega,by rw [h2];simp only [e]⟩
   rw [this];rfl
 | succ n ih =>
  intro i p q hi hp hq
  have hil : i < (spansL s).length := by omega
  have ha := ahA_step s i hil p hp
  have hj : (spansL s).length - (i + 1) < (spansL s).length := by omega
  have hb : beA s q = (spansL s)[(spansL s).length - (i + 1)].f0 := by
   refine beA_step s _ hj q ?_
   rcases hq with ⟨h1,h2⟩ | ⟨h1,hj,h2⟩
   ·exact .inl ⟨by omega,h2⟩
   ·have e : (spansL s).length - (i + 1) + 1 = (spansL s).length - i := by omega
    exact .inr ⟨by omega,by rw [h2];simp only [e]⟩
  have e1 : wrap64 (wrap64 (((spansL s).length : Int) - 1) - (i : Int)) = (((spansL s).length - (i + 1) : Nat) : Int) := by
   rw [w64 (x := ((spansL s).length : Int) - 1) (by omega) (by omega),w64 (by omega) (by omega)];omega
  refine Ev.step (fun k => bodkinlaw05_WordSteps.l0.eq_2 ..) (ev_pos (by omega) (Ev.bind (ahead_ans s hs' p) (Ev.bind (behind_ans s hs' q) (ev_pos (by omega) (ev_pos ?_ ?_)))))
  ·rw [rd_spans _ _ hil];exact ha
  ·rw [e1]
   refine ev_pos (by omega) (ev_pos (by omega) (ev_pos ?_ ?_))
   ·rw [rd_spans _ _ hj];exact hb
   ·rw [w64 (by omega) (by omega)]
    refine ih (i + 1) _ _ (by omega) (.inr ⟨i,rfl,hil,ha⟩) (.inr ⟨by omega,hj,hb⟩)
theorem WordSteps (a0 : ByteArray) (a1 : Int) (u0 : a0.size ≤ 1048576) (_w1 : (Lit.int .i64 a1).wf = true) : ∃ k,bodkinlaw05_WordSteps.f k a0 a1 = some true := by
 apply Ev.rounds
 unfold bodkinlaw05_WordSteps.f
 exact Ev.bind awake_ans (ev_pos rfl (ev_some (spans_ev a0 (by omega)) (wsteps_loop a0 u0 a1 _ 0 0 _ (Nat.zero_add _) (.inl ⟨rfl,rfl⟩) (.inl ⟨rfl,rfl⟩))))
end Go.Proofs.YtkficbgnjpekaaaDoor.Pure
end
section
namespace Go.Proofs.YtkficbgnjpekaaaDoor.Lf
open Go.Lib Go.Proofs
theorem own : ownKnob Tryd.prog.godebug = none := by kernel_rfl
theorem extra : U8Extra Tryd.prog Tryd.lays260_ren := {
 n3 := by kernel_rfl
 n4 := by kernel_rfl
 y3 := by kernel_rfl
 y4 := by kernel_rfl
 c5 := by kernel_rfl
 c119 := by kernel_rfl
 c138 := by kernel_rfl }
theorem first_eq : Rows.laid_unicode_utf8_first = Lib.firstData := by kernel_rfl
theorem accept_eq : (Rows.laid_unicode_utf8_acceptRanges : DataW Unit) = Lib.acceptData := by kernel_rfl
abbrev laid : List (String × DataW Unit) := [("unicode/utf8.acceptRanges", Rows.laid_unicode_utf8_acceptRanges), ("unicode/utf8.first", Rows.laid_unicode_utf8_first)]
/-- The two tables lie as the contracts ask. -/
theorem tabs {W : World} (h : laidMetH Tryd.prog laid W) : Lib.Utf8Tabs 0 1 W := by
  rw [MakeChecks.laidMetH_plain _ _ _ (by kernel_rfl)] at h
  have h3 := laidMet.reads h (n := "unicode/utf8.first") (d := Rows.laid_unicode_utf8_first) (List.mem_cons_of_mem _ List.mem_cons_self)
  have h4 := laidMet.reads h (n := "unicode/utf8.acceptRanges") (d := Rows.laid_unicode_utf8_acceptRanges) List.mem_cons_self
  rw [first_eq] at h3
  rw [accept_eq] at h4
  exact utf8Tabs_of_reads Tryd.lays260 extra h3 h4
/-- The world of the witness: the settled one,the tables laid. -/
noncomputable abbrev wit (os : Os) : World := World.laidAll Tryd.prog os laid
theorem wit_laid (os : Os) (args : Array Value) : laidMetH Tryd.prog laid ((wit os).forCall (fun _ _ => 0) ⟨#[],args,[]⟩).memory := by
 rw [MakeChecks.laidMetH_plain _ _ _ (by kernel_rfl)]
 exact laidMet_laidAll _ (by kernel_rfl) (by kernel_rfl)
theorem wit_shaped (os : Os) (args : Array Value) : ((wit os).forCall (fun _ _ => 0) ⟨#[],args,[]⟩).Shaped Tryd.prog :=
 World.shaped_of_ZipB (by kernel_rfl) (by kernel_rfl)
end Go.Proofs.YtkficbgnjpekaaaDoor.Lf
end
