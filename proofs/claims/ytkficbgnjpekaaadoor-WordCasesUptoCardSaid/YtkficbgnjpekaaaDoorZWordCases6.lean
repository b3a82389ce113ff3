/- What the law WordCases reaches of this seat's own texts, merged; what nothing uses is left out. -/
import Derived.Test.YtkficbgnjpekaaaDoorZWordCases0
import Derived.Test.YtkficbgnjpekaaaDoorZWordCases3
import Derived.Test.YtkficbgnjpekaaaDoorZWordCases4
import Derived.Test.YtkficbgnjpekaaaDoorZWordCases5
section
namespace Go.Proofs.YtkficbgnjpekaaaDoor.U
open Go.RowKit Go.Proofs.YtkficbgnjpekaaaDoorW.PrintWords Go.Proofs.YtkficbgnjpekaaaDoorW.PrintLast Go.Proofs.YtkficbgnjpekaaaDoorW.PrintMore
attribute [local go_sem] max2_int min2_int max_two min_two max_three min_three max_four min_four   -- for this text's walks alone
set_option linter.unusedVariables false
set_option linter.unusedSimpArgs false
mutual
def bodkinref05_Spans.l0 : Nat → ByteArray → List (S61) → List (S32) → Int → Option ((List (S32)))
 | 0,_,_,_,_ => none
 | k + 1,x0,x3,x4,x5 => if x5 < (x3.length : Int) then (if 0 ≤ x5 then ((bodkinref05_wordly.f k x0 ((rd_T61 x3 x5).f0) ((rd_T61 x3 x5).f1) ((rd_T61 x3 x5).f2) ((rd_T61 x3 x5).f3)).bind fun t308 => (if t308 = true then (if x5 > 0 then (if 0 ≤ (wrap64 (x5 - 1)) then (if (wrap64 (x5 - 1)) < (x3.length : Int) then ((bodkinref05_wordly.f k x0 ((rd_T61 x3 (wrap64 (x5 - 1))).f0) ((rd_T61 x3 (wrap64 (x5 - 1))).f1) ((rd_T61 x3 (wrap64 (x5 - 1))).f2) ((rd_T61 x3 (wrap64 (x5 - 1))).f3)).bind fun t310 => (bodkinref05_Spans.j1 k x0 x3 x4 x5 t310)) else (none)) else (none)) else (bodkinref05_Spans.j1 k x0 x3 x4 x5 false)) else (bodkinref05_Spans.j1 k x0 x3 x4 x5 true))) else (none)) else (some x4)
def bodkinref05_Spans.j1 : Nat → ByteArray → List (S61) → List (S32) → Int → Bool → Option ((List (S32)))
 | 0,_,_,_,_,_ => none
 | k + 1,x0,x3,x4,x5,x34 => if x34 = true then (bodkinref05_Spans.l0 k x0 x3 x4 (wrap64 (x5 + 1))) else (bodkinref05_Spans.l1 k x0 x3 x4 x5 x5)
def bodkinref05_Spans.l1 : Nat → ByteArray → List (S61) → List (S32) → Int → Int → Option ((List (S32)))
 | 0,_,_,_,_,_ => none
 | k + 1,x0,x3,x4,x5,x6 => if (wrap64 (x6 + 1)) < (x3.length : Int) then (if 0 ≤ (wrap64 (x6 + 1)) then ((bodkinref05_wordly.f k x0 ((rd_T61 x3 (wrap64 (x6 + 1))).f0) ((rd_T61 x3 (wrap64 (x6 + 1))).f1) ((rd_T61 x3 (wrap64 (x6 + 1))).f2) ((rd_T61 x3 (wrap64 (x6 + 1))).f3)).bind fun t312 => (if t312 = true then (bodkinref05_Spans.l1 k x0 x3 x4 x5 (wrap64 (x6 + 1))) else (if 0 ≤ x5 then (if x5 < (x3.length : Int) then (if 0 ≤ x6 then (if x6 < (x3.length : Int) then (if x4.length < 8796093022208 then (bodkinref05_Spans.l0 k x0 x3 (x4 ++ [(⟨(rd_T61 x3 x5).f0,(rd_T61 x3 x6).f1⟩ : S32)]) (wrap64 (x5 + 1))) else (none)) else (none)) else (none)) else (none)) else (none)))) else (none)) else (if 0 ≤ x5 then (if x5 < (x3.length : Int) then (if 0 ≤ x6 then (if x6 < (x3.length : Int) then (if x4.length < 8796093022208 then (bodkinref05_Spans.l0 k x0 x3 (x4 ++ [(⟨(rd_T61 x3 x5).f0,(rd_T61 x3 x6).f1⟩ : S32)]) (wrap64 (x5 + 1))) else (none)) else (none)) else (none)) else (none)) else (none))
end
def bodkinref05_Spans.f (k : Nat) (a0 : ByteArray) : Option ((List (S32))) := (bodkinref03_List.f k a0).bind fun t304 => (bodkinref05_Spans.l0 k a0 t304 ([] : List (S32)) 0)
def bodkinref05_Spans.T10 : Bool × List (List Nat × List Nat) := (true,[([],[]),([],[]),([],[]),([1,2],[1,2]),([3],[3]),([4],[4]),([],[]),([],[]),([6,7],[6,7]),([8],[8]),([9],[9]),([5,10],[5,10]),([11],[11]),([0,12],[0,12]),([13,13,0,1,2,3,4,5,6,7,8,9,10,11,12,13],[0,13])])
def bodkinref05_Spans.B10 : List Nat := [0,0,0,6,14,30,0,0,192,448,960,2046,4094,8191,16383]
theorem bodkinref05_Spans.tab10 : rtab .any (opsOf Tryd.f19 10) = bodkinref05_Spans.T10 := by kernel_rfl
theorem bodkinref05_Spans.bits10 : waitsOk bodkinref05_Spans.T10.2 bodkinref05_Spans.B10 = true := by kernel_rfl
set_option maxHeartbeats 8000000 in
set_option maxRecDepth 100000 in
theorem bodkinref05_Spans.calls (k : Nat) (a0 : ByteArray) (r : List (S32)) (w : World) (h : bodkinref05_Spans.f k a0 = some r) :
  Calls Tryd.prog 19 #[.string a0] w fun e w' => ∃ v0_ : Value,e = .returned (v0_) ∧ Kd.R k32 32 w' w.heap.size (fun _ => True) v0_ r ∧ Below w.heap.size w w' := by
 have hu61 := Tryd.underlying61
 have hu32 := Tryd.underlying32
 have HB := Aside0.mk (Below.refl w.heap.size w)
 have H : ((bodkinref03_List.f k a0).bind fun t304 => (bodkinref05_Spans.l0 k a0 t304 ([] : List (S32)) 0)) = some r := h
 clear h
 replace H := Option.bind_eq_some_iff.mp H
 obtain ⟨t304,A20,H⟩ := H
 replace H : (bodkinref05_Spans.l0 k a0 t304 ([] : List (S32)) 0) = some r := H
 have A2 := Aside0.mk A20
 clear A20
 have H' := Aside0.mk H
 clear H
 go_enter Tryd.func19,Tryd.ntmps19
 go_wp2_with (first | ((with_reducible refine gate_callee (f := 44) rfl ?_);refine goesL_ (some 8) rfl rfl Tryd.func44 (by kernel_rfl) rfl #[.string a0] rfl au1 ?_;(with_reducible refine (bodkinref03_List.calls k a0 t304 _ A2.out).mono ?_);rintro e w3 ⟨v305,rfl,ho0,hb⟩;refine ⟨_,rfl,?_⟩;have n0_ := Aside0.mk (Kd.R_lower ho0 (below_size au0));have n1_ := Aside0.mk (below_step au0 hb);clear HB;have HO306 := n0_;have HB := n1_;clear n0_ n1_;(try clear hb);(try clear hb2);(try clear hk);(try clear hi);(try clear ho0)))
 go_loopg [4,5] k (fun kq v4 v5 w' => ∃ (x4_1 : List (S32)) (x5_1 : Int),v5 = .int .i64 x5_1 ∧ Aside0 (bodkinref05_Spans.l0 kq a0 t304 x4_1 x5_1 = some r) ∧ Aside0 (kq ≤ k) ∧ Aside0 (Kd.R k61 61 w' w.heap.size (fun _ => True) v305 t304) ∧ Aside0 (Kd.R k32 32 w' w.heap.size (fun _ => True) v4 x4_1) ∧ Aside0 (Below w.heap.size w w'))
 case atStart => exact ⟨(([] : List (S32))),(0),au3,H',⟨Nat.le_refl _⟩,⟨by (with_reducible repeat (first | apply Kd.R_alloc | apply Kd.R_drewN | apply Kd.R_drew));exact HO306.out⟩,⟨by first | exact Kd.R_nil _ _ _ _ _ | exact Kd.N_nil _ _ _ _ _ | exact Kd.V_nil _ _ _ _ _ | exact Kd.Q_nil _ _ _ _ _ | exact Kd.S_nil _ _ _ _ _⟩,⟨au0⟩⟩
 case round =>
  clear H'
  try clear c1
  try clear p2
  obtain ⟨x4_1,x5_1,rfl,HA,HK1,HO_3,HO_4,HB⟩ := hrel
  cases gk with
  | zero => exact absurd HA.out (by simp [bodkinref05_Spans.l0])
  | succ k1 =>
   have H := HA.out
   clear HA
   simp only [bodkinref05_Spans.l0] at H
   by_cases c4 : x5_1 < (t304.length : Int)
   ·rw [if_pos c4] at H
    have c4b0 : decide (x5_1 < (t304.length : Int)) = true := decide_eq_true c4
    clear c4
    have HC5 := Aside0.mk H
    clear H
    obtain ⟨Ao6,co6,eo6⟩ := Kd.R_slice HO_3.out
    subst eo6
    go_upto_region 6 with (fail)
    go_cut [34] (fun v34 wc => ∃ (kq : Nat) (x34_4 : Bool),v34 = .bool x34_4 ∧ Aside0 (bodkinref05_Spans.j1 kq a0 t304 x4_1 x5_1 x34_4 = some r) ∧ Aside0 (kq ≤ k1) ∧ Aside0 (Kd.R k61 61 wc w.heap.size (fun _ => True) (.slice Ao6 t304.length co6) t304) ∧ Aside0 (Kd.R k32 32 wc w.heap.size (fun _ => True) u4 x4_1) ∧ Aside0 (Below w.heap.size w wc))
    case first =>
     have H := HC5.out
     clear HC5
     by_cases c7 : 0 ≤ x5_1
     ·rw [if_pos c7] at H
      have c7b0 : decide (0 ≤ x5_1) = true := decide_eq_true c7
      clear c7
      (first | rw [c7b0] | (simp only [i64_w,i32_w];rw [c7b0]) | skip)
      replace H := Option.bind_eq_some_iff.mp H
      obtain ⟨t308,A80,H⟩ := H
      replace H : (if t308 = true then (if x5_1 > 0 then (if 0 ≤ (wrap64 (x5_1 - 1)) then (if (wrap64 (x5_1 - 1)) < (t304.length : Int) then ((bodkinref05_wordly.f k1 a0 ((rd_T61 t304 (wrap64 (x5_1 - 1))).f0) ((rd_T61 t304 (wrap64 (x5_1 - 1))).f1) ((rd_T61 t304 (wrap64 (x5_1 - 1))).f2) ((rd_T61 t304 (wrap64 (x5_1 - 1))).f3)).bind fun t310 => (bodkinref05_Spans.j1 k1 a0 t304 x4_1 x5_1 t310)) else (none)) else (none)) else (bodkinref05_Spans.j1 k1 a0 t304 x4_1 x5_1 false)) else (bodkinref05_Spans.j1 k1 a0 t304 x4_1 x5_1 true)) = some r := H
      have A8 := Aside0.mk A80
      clear A80
      by_cases c9 : t308 = true
      ·subst c9
       have H1 : (if x5_1 > 0 then (if 0 ≤ (wrap64 (x5_1 - 1)) then (if (wrap64 (x5_1 - 1)) < (t304.length : Int) then ((bodkinref05_wordly.f k1 a0 ((rd_T61 t304 (wrap64 (x5_1 - 1))).f0) ((rd_T61 t304 (wrap64 (x5_1 - 1))).f1) ((rd_T61 t304 (wrap64 (x5_1 - 1))).f2) ((rd_T61 t304 (wrap64 (x5_1 - 1))).f3)).bind fun t310 => (bodkinref05_Spans.j1 k1 a0 t304 x4_1 x5_1 t310)) else (none)) else (none)) else (bodkinref05_Spans.j1 k1 a0 t304 x4_1 x5_1 false)) = some r := by rw [if_pos rfl] at H;exact H
       clear H
       have H := H1
       clear H1
       by_cases c10 : x5_1 > 0
       ·rw [if_pos c10] at H
        have c10b0 : decide (0 < x5_1) = true := decide_eq_true c10
        clear c10
        obtain ⟨ji11,hji11⟩ : ∃ j_ : Int,(wrap64 (x5_1 - 1)) = j_ := ⟨_,rfl⟩
        replace H : (if 0 ≤ (ji11) then (if (ji11) < (t304.length : Int) then ((bodkinref05_wordly.f k1 a0 ((rd_T61 t304 (ji11)).f0) ((rd_T61 t304 (ji11)).f1) ((rd_T61 t304 (ji11)).f2) ((rd_T61 t304 (ji11)).f3)).bind fun t310 => (bodkinref05_Spans.j1 k1 a0 t304 x4_1 x5_1 t310)) else (none)) else (none)) = some r := by first | (rw [hji11] at H;exact H) | (simp only [hji11] at H ⊢;exact H)
        (try rw [hji11] at A8)
        have hji11w : (IntKind.i64.wrap (x5_1 - 1)) = ji11 := (i64_w _).trans hji11
        by_cases c12 : 0 ≤ (ji11)
        ·rw [if_pos c12] at H
         have c12b0 : decide (0 ≤ (ji11)) = true := decide_eq_true c12
         clear c12
         by_cases c13 : (ji11) < (t304.length : Int)
         ·rw [if_pos c13] at H
          have c13b0 : decide ((ji11) < (t304.length : Int)) = true := decide_eq_true c13
          clear c13
          replace H := Option.bind_eq_some_iff.mp H
          obtain ⟨t310,A140,H⟩ := H
          replace H : (bodkinref05_Spans.j1 k1 a0 t304 x4_1 x5_1 t310) = some r := H
          have A14 := Aside0.mk A140
          clear A140
          have H' := Aside0.mk H
          clear H
          have p307 : 0 ≤ (x5_1 : Int) := of_decide_eq_true au4
          have q307 : x5_1 < (t304.length : Int) := of_decide_eq_true au4
          obtain ⟨ad307,e307,hx307_0,hx307_1,hx307_2,hx307_3⟩ := at_T61 (Kd.R_reads' HO_3.out).2.2 x5_1 p307 q307
          cases e307
          replace p307 := eq_true p307
          replace q307 := eq_true q307
          go_wp2_with (first | ((with_reducible refine gate_callee (f := 45) rfl ?_);refine goesL_ (some 20) rfl rfl Tryd.func45 (by kernel_rfl) rfl #[.string a0,.agg #[.int .i64 ((rd_T61 t304 x5_1).f0),.int .i64 ((rd_T61 t304 x5_1).f1),.int .i64 ((rd_T61 t304 x5_1).f2),.int .i64 ((rd_T61 t304 x5_1).f3)]] rfl au1 ?_;(with_reducible refine (bodkinref05_wordly.calls k1 a0 ((rd_T61 t304 x5_1).f0) ((rd_T61 t304 x5_1).f1) ((rd_T61 t304 x5_1).f2) ((rd_T61 t304 x5_1).f3) true _ A8.out).mono ?_);rintro e w15 ⟨rfl,hb⟩;refine ⟨_,rfl,?_⟩;have n0_ := Aside0.mk (Kd.R_below au5 hb);have n1_ := Aside0.mk (Kd.R_below au8 hb);have n2_ := Aside0.mk (below_step au0 hb);clear HO_3;clear HO_4;clear HB;have HO_3 := n0_;have HO_4 := n1_;have HB := n2_;clear n0_ n1_ n2_;(try clear hb);(try clear hb2);(try clear hk);(try clear hi);have p309 : 0 ≤ ((ji11) : Int) := of_decide_eq_true au4;have q309 : (ji11) < (t304.length : Int) := of_decide_eq_true au4;obtain ⟨ad309,e309,hx309_0,hx309_1,hx309_2,hx309_3⟩ := at_T61 (Kd.R_reads' HO_3.out).2.2 (ji11) p309 q309;obtain rfl : ad307 = ad309 := (by injection e309);replace p309 := eq_true p309;replace q309 := eq_true q309) | (go_at_call 45;(with_reducible refine (bodkinref05_wordly.calls k1 a0 ((rd_T61 t304 (ji11)).f0) ((rd_T61 t304 (ji11)).f1) ((rd_T61 t304 (ji11)).f2) ((rd_T61 t304 (ji11)).f3) t310 _ A14.out).mono ?_);rintro e w16 ⟨rfl,hb⟩;have n0_ := Aside0.mk (Kd.R_below au5 hb);have n1_ := Aside0.mk (Kd.R_below au8 hb);have n2_ := Aside0.mk (below_step au0 hb);clear HO_3;clear HO_4;clear HB;have HO_3 := n0_;have HO_4 := n1_;have HB := n2_;clear n0_ n1_ n2_;(try clear hb);(try clear hb2);(try clear hk);(try clear hi)))
          go_meet
          case rel => exact ⟨_,(t310),au3,H',⟨by have := HK1.out;first | omega | exact Nat.le_refl _⟩,⟨by (with_reducible repeat (first | apply Kd.R_alloc | apply Kd.R_drewN | apply Kd.R_drew));exact HO_3.out⟩,⟨by (with_reducible repeat (first | apply Kd.R_alloc | apply Kd.R_drewN | apply Kd.R_drew));exact HO_4.out⟩,⟨au0⟩⟩
         ·rw [if_neg c13] at H
          exact absurd H (by simp)
        ·rw [if_neg c12] at H
         exact absurd H (by simp)
       ·rw [if_neg c10] at H
        have c10b0 : decide (0 < x5_1) = false := decide_eq_false c10
        clear c10
        have H' := Aside0.mk H
        clear H
        have p307 : 0 ≤ (x5_1 : Int) := of_decide_eq_true au4
        have q307 : x5_1 < (t304.length : Int) := of_decide_eq_true au4
        obtain ⟨ad307,e307,hx307_0,hx307_1,hx307_2,hx307_3⟩ := at_T61 (Kd.R_reads' HO_3.out).2.2 x5_1 p307 q307
        cases e307
        replace p307 := eq_true p307
        replace q307 := eq_true q307
        go_wp2_with (first | ((with_reducible refine gate_callee (f := 45) rfl ?_);refine goesL_ (some 20) rfl rfl Tryd.func45 (by kernel_rfl) rfl #[.string a0,.agg #[.int .i64 ((rd_T61 t304 x5_1).f0),.int .i64 ((rd_T61 t304 x5_1).f1),.int .i64 ((rd_T61 t304 x5_1).f2),.int .i64 ((rd_T61 t304 x5_1).f3)]] rfl au1 ?_;(with_reducible refine (bodkinref05_wordly.calls k1 a0 ((rd_T61 t304 x5_1).f0) ((rd_T61 t304 x5_1).f1) ((rd_T61 t304 x5_1).f2) ((rd_T61 t304 x5_1).f3) true _ A8.out).mono ?_);rintro e w17 ⟨rfl,hb⟩;refine ⟨_,rfl,?_⟩;have n0_ := Aside0.mk (Kd.R_below au5 hb);have n1_ := Aside0.mk (Kd.R_below au8 hb);have n2_ := Aside0.mk (below_step au0 hb);clear HO_3;clear HO_4;clear HB;have HO_3 := n0_;have HO_4 := n1_;have HB := n2_;clear n0_ n1_ n2_;(try clear hb);(try clear hb2);(try clear hk);(try clear hi)))
        go_meet
        case rel => exact ⟨_,(false),au3,H',⟨by have := HK1.out;first | omega | exact Nat.le_refl _⟩,⟨by (with_reducible repeat (first | apply Kd.R_alloc | apply Kd.R_drewN | apply Kd.R_drew));exact HO_3.out⟩,⟨by (with_reducible repeat (first | apply Kd.R_alloc | apply Kd.R_drewN | apply Kd.R_drew));exact HO_4.out⟩,⟨au0⟩⟩
      ·replace c9 := Bool.eq_false_iff.mpr c9
       subst c9
       have H1 : (bodkinref05_Spans.j1 k1 a0 t304 x4_1 x5_1 true) = some r := by rw [if_neg (show ¬ (false = true) by decide)] at H;exact H
       clear H
       have H := H1
       clear H1
       have H' := Aside0.mk H
       clear H
       have p307 : 0 ≤ (x5_1 : Int) := of_decide_eq_true au4
       have q307 : x5_1 < (t304.length : Int) := of_decide_eq_true au4
       obtain ⟨ad307,e307,hx307_0,hx307_1,hx307_2,hx307_3⟩ := at_T61 (Kd.R_reads' HO_3.out).2.2 x5_1 p307 q307
       cases e307
       replace p307 := eq_true p307
       replace q307 := eq_true q307
       go_wp2_with (first | ((with_reducible refine gate_callee (f := 45) rfl ?_);refine goesL_ (some 20) rfl rfl Tryd.func45 (by kernel_rfl) rfl #[.string a0,.agg #[.int .i64 ((rd_T61 t304 x5_1).f0),.int .i64 ((rd_T61 t304 x5_1).f1),.int .i64 ((rd_T61 t304 x5_1).f2),.int .i64 ((rd_T61 t304 x5_1).f3)]] rfl au1 ?_;(with_reducible refine (bodkinref05_wordly.calls k1 a0 ((rd_T61 t304 x5_1).f0) ((rd_T61 t304 x5_1).f1) ((rd_T61 t304 x5_1).f2) ((rd_T61 t304 x5_1).f3) false _ A8.out).mono ?_);rintro e w18 ⟨rfl,hb⟩;refine ⟨_,rfl,?_⟩;have n0_ := Aside0.mk (Kd.R_below au5 hb);have n1_ := Aside0.mk (Kd.R_below au8 hb);have n2_ := Aside0.mk (below_step au0 hb);clear HO_3;clear HO_4;clear HB;have HO_3 := n0_;have HO_4 := n1_;have HB := n2_;clear n0_ n1_ n2_;(try clear hb);(try clear hb2);(try clear hk);(try clear hi)))
       go_meet
       case rel => exact ⟨_,(true),au3,H',⟨by have := HK1.out;first | omega | exact Nat.le_refl _⟩,⟨by (with_reducible repeat (first | apply Kd.R_alloc | apply Kd.R_drewN | apply Kd.R_drew));exact HO_3.out⟩,⟨by (with_reducible repeat (first | apply Kd.R_alloc | apply Kd.R_drewN | apply Kd.R_drew));exact HO_4.out⟩,⟨au0⟩⟩
     ·rw [if_neg c7] at H
      exact absurd H (by simp)
    case rest =>
     clear HC5
     try clear c1
     try clear p2
     try clear p3
     try clear q3
     try clear hx3
     try clear c4
     try clear c4b0
     try clear p6
     try clear c7
     try clear c7b0
     try clear c9
     try clear c10
     try clear c10b0
     try clear c12
     try clear c12b0
     try clear c13
     try clear c13b0
     try clear hx307_0
     try clear hx307_1
     try clear hx307_2
     try clear hx307_3
     try clear hx309_0
     try clear hx309_1
     try clear hx309_2
     try clear hx309_3
     try clear p2
     try clear p307
     try clear p309
     try clear q307
     try clear q309
     obtain ⟨kq,x34_4,rfl,HA,HJ4,HO_3,HO_4,HB⟩ := hcut
     cases kq with
     | zero => exact absurd HA.out (by simp [bodkinref05_Spans.j1])
     | succ kj4 =>
      have H := HA.out
      clear HA
      simp only [bodkinref05_Spans.j1] at H
      by_cases c19 : x34_4 = true
      ·subst c19
       have H1 : (bodkinref05_Spans.l0 kj4 a0 t304 x4_1 (wrap64 (x5_1 + 1))) = some r := by rw [if_pos rfl] at H;exact H
       clear H
       have H := H1
       clear H1
       have H' := Aside0.mk H
       clear H
       go_wp2
       go_roundg kj4
       case measure => have := HK1.out;have := HJ4.out;omega
       case rel => exact ⟨(x4_1),(wrap64 (x5_1 + 1)),au3,H',⟨by have := HK1.out;have := HJ4.out;omega⟩,⟨by (with_reducible repeat (first | apply Kd.R_alloc | apply Kd.R_drewN | apply Kd.R_drew));exact HO_3.out⟩,⟨by (with_reducible repeat (first | apply Kd.R_alloc | apply Kd.R_drewN | apply Kd.R_drew));exact HO_4.out⟩,⟨au0⟩⟩
      ·replace c19 := Bool.eq_false_iff.mpr c19
       subst c19
       have H1 : (bodkinref05_Spans.l1 kj4 a0 t304 x4_1 x5_1 x5_1) = some r := by rw [if_neg (show ¬ (false = true) by decide)] at H;exact H
       clear H
       have H := H1
       clear H1
       have H' := Aside0.mk H
       clear H
       go_wp2
       go_loopg [6] kj4 (fun kq v6 w' => ∃ (x6_3 : Int),v6 = .int .i64 x6_3 ∧ Aside0 (bodkinref05_Spans.l1 kq a0 t304 x4_1 x5_1 x6_3 = some r) ∧ Aside0 (kq ≤ kj4) ∧ Aside0 (Kd.R k61 61 w' w.heap.size (fun _ => True) (.slice Ao6 t304.length co6) t304) ∧ Aside0 (Kd.R k32 32 w' w.heap.size (fun _ => True) u4 x4_1) ∧ Aside0 (Below w.heap.size w w'))
       case atStart => exact ⟨(x5_1),au3,H',⟨Nat.le_refl _⟩,⟨by (with_reducible repeat (first | apply Kd.R_alloc | apply Kd.R_drewN | apply Kd.R_drew));exact HO_3.out⟩,⟨by (with_reducible repeat (first | apply Kd.R_alloc | apply Kd.R_drewN | apply Kd.R_drew));exact HO_4.out⟩,⟨au0⟩⟩
       case round =>
        clear H'
        try clear c1
        try clear p2
        try clear p3
        try clear q3
        try clear hx3
        try clear c4
        try clear c4b0
        try clear p6
        try clear c7
        try clear c7b0
        try clear c9
        try clear c10
        try clear c10b0
        try clear c12
        try clear c12b0
        try clear c13
        try clear c13b0
        try clear c19
        try clear hx307_0
        try clear hx307_1
        try clear hx307_2
        try clear hx307_3
        try clear hx309_0
        try clear hx309_1
        try clear hx309_2
        try clear hx309_3
        try clear p2
        try clear p3
        try clear p307
        try clear p309
        try clear p6
        try clear q3
        try clear q307
        try clear q309
        obtain ⟨x6_3,rfl,HA,HK3,HO_3,HO_4,HB⟩ := hrel
        cases gk with
        | zero => exact absurd HA.out (by simp [bodkinref05_Spans.l1])
        | succ k3 =>
         have H := HA.out
         clear HA
         simp only [bodkinref05_Spans.l1] at H
         by_cases c20 : (wrap64 (x6_3 + 1)) < (t304.length : Int)
         ·rw [if_pos c20] at H
          have c20b0 : decide ((wrap64 (x6_3 + 1)) < (t304.length : Int)) = true := decide_eq_true c20
          clear c20
          obtain ⟨ji21,hji21⟩ : ∃ j_ : Int,(wrap64 (x6_3 + 1)) = j_ := ⟨_,rfl⟩
          replace H : (if 0 ≤ (ji21) then ((bodkinref05_wordly.f k3 a0 ((rd_T61 t304 (ji21)).f0) ((rd_T61 t304 (ji21)).f1) ((rd_T61 t304 (ji21)).f2) ((rd_T61 t304 (ji21)).f3)).bind fun t312 => (if t312 = true then (bodkinref05_Spans.l1 k3 a0 t304 x4_1 x5_1 ji21) else (if 0 ≤ x5_1 then (if x5_1 < (t304.length : Int) then (if 0 ≤ x6_3 then (if x6_3 < (t304.length : Int) then (if x4_1.length < 8796093022208 then (bodkinref05_Spans.l0 k3 a0 t304 (x4_1 ++ [(⟨(rd_T61 t304 x5_1).f0,(rd_T61 t304 x6_3).f1⟩ : S32)]) (wrap64 (x5_1 + 1))) else (none)) else (none)) else (none)) else (none)) else (none)))) else (none)) = some r := by first | (rw [hji21] at H;exact H) | (simp only [hji21] at H ⊢;exact H)
          (try rw [hji21] at c20b0)
          have hji21w : (IntKind.i64.wrap (x6_3 + 1)) = ji21 := (i64_w _).trans hji21
          by_cases c22 : 0 ≤ (ji21)
          ·rw [if_pos c22] at H
           have c22b0 : decide (0 ≤ (ji21)) = true := decide_eq_true c22
           clear c22
           replace H := Option.bind_eq_some_iff.mp H
           obtain ⟨t312,A230,H⟩ := H
           replace H : (if t312 = true then (bodkinref05_Spans.l1 k3 a0 t304 x4_1 x5_1 ji21) else (if 0 ≤ x5_1 then (if x5_1 < (t304.length : Int) then (if 0 ≤ x6_3 then (if x6_3 < (t304.length : Int) then (if x4_1.length < 8796093022208 then (bodkinref05_Spans.l0 k3 a0 t304 (x4_1 ++ [(⟨(rd_T61 t304 x5_1).f0,(rd_T61 t304 x6_3).f1⟩ : S32)]) (wrap64 (x5_1 + 1))) else (none)) else (none)) else (none)) else (none)) else (none))) = some r := H
           have A23 := Aside0.mk A230
           clear A230
           by_cases c24 : t312 = true
           ·subst c24
            have H1 : (bodkinref05_Spans.l1 k3 a0 t304 x4_1 x5_1 ji21) = some r := by rw [if_pos rfl] at H;exact H
            clear H
            have H := H1
            clear H1
            have H' := Aside0.mk H
            clear H
            have p311 : 0 ≤ ((ji21) : Int) := of_decide_eq_true au4
            have q311 : (ji21) < (t304.length : Int) := of_decide_eq_true au4
            obtain ⟨ad311,e311,hx311_0,hx311_1,hx311_2,hx311_3⟩ := at_T61 (Kd.R_reads' HO_3.out).2.2 (ji21) p311 q311
            cases e311
            replace p311 := eq_true p311
            replace q311 := eq_true q311
            go_wp2_with (first | (go_at_call 45;(with_reducible refine (bodkinref05_wordly.calls k3 a0 ((rd_T61 t304 (ji21)).f0) ((rd_T61 t304 (ji21)).f1) ((rd_T61 t304 (ji21)).f2) ((rd_T61 t304 (ji21)).f3) true _ A23.out).mono ?_);rintro e w25 ⟨rfl,hb⟩;have n0_ := Aside0.mk (Kd.R_below au5 hb);have n1_ := Aside0.mk (Kd.R_below au8 hb);have n2_ := Aside0.mk (below_step au0 hb);clear HO_3;clear HO_4;clear HB;have HO_3 := n0_;have HO_4 := n1_;have HB := n2_;clear n0_ n1_ n2_;(try clear hb);(try clear hb2);(try clear hk);(try clear hi)))
            go_roundg k3
            case measure => have := HK1.out;have := HJ4.out;have := HK3.out;omega
            case rel => exact ⟨(ji21),(by first | rfl | (simp;done) | (simp only [← hji21] <;> (first | rfl | simp)) | (simp [*];done)),H',⟨by have := HK1.out;have := HJ4.out;have := HK3.out;omega⟩,⟨by (with_reducible repeat (first | apply Kd.R_alloc | apply Kd.R_drewN | apply Kd.R_drew));exact HO_3.out⟩,⟨by (with_reducible repeat (first | apply Kd.R_alloc | apply Kd.R_drewN | apply Kd.R_drew));exact HO_4.out⟩,⟨au0⟩⟩
           ·replace c24 := Bool.eq_false_iff.mpr c24
            subst c24
            have H1 : (if 0 ≤ x5_1 then (if x5_1 < (t304.length : Int) then (if 0 ≤ x6_3 then (if x6_3 < (t304.length : Int) then (if x4_1.length < 8796093022208 then (bodkinref05_Spans.l0 k3 a0 t304 (x4_1 ++ [(⟨(rd_T61 t304 x5_1).f0,(rd_T61 t304 x6_3).f1⟩ : S32)]) (wrap64 (x5_1 + 1))) else (none)) else (none)) else (none)) else (none)) else (none)) = some r := by rw [if_neg (show ¬ (false = true) by decide)] at H;exact H
            clear H
            have H := H1
            clear H1
            by_cases c26 : 0 ≤ x5_1
            ·rw [if_pos c26] at H
             have c26b0 : decide (0 ≤ x5_1) = true := decide_eq_true c26
             clear c26
             by_cases c27 : x5_1 < (t304.length : Int)
             ·rw [if_pos c27] at H
              have c27b0 : decide (x5_1 < (t304.length : Int)) = true := decide_eq_true c27
              clear c27
              by_cases c28 : 0 ≤ x6_3
              ·rw [if_pos c28] at H
               have c28b0 : decide (0 ≤ x6_3) = true := decide_eq_true c28
               clear c28
               by_cases c29 : x6_3 < (t304.length : Int)
               ·rw [if_pos c29] at H
                have c29b0 : decide (x6_3 < (t304.length : Int)) = true := decide_eq_true c29
                clear c29
                by_cases c30 : x4_1.length < 8796093022208
                ·rw [if_pos c30] at H
                 have LMc30 := Aside0.mk c30
                 clear c30
                 obtain ⟨y315,hy315⟩ : ∃ y_ : List (S32),y_ = (x4_1 ++ [(⟨(rd_T61 t304 x5_1).f0,(rd_T61 t304 x6_3).f1⟩ : S32)]) := ⟨_,rfl⟩
                 replace H : (bodkinref05_Spans.l0 k3 a0 t304 y315 (wrap64 (x5_1 + 1))) = some r := by first | (rw [hy315];with_reducible exact H) | (have H2_ := (Option.bind_some _ _).symm.trans H;rw [hy315];with_reducible exact H2_) | (have H2_ := (Option.bind_some _ _).symm.trans H;with_reducible exact H2_) | with_reducible exact H | (rw [hy315];exact H) | exact H
                 have Ny315 := Aside0.mk hy315
                 clear hy315
                 have H' := Aside0.mk H
                 clear H
                 have p311 : 0 ≤ ((ji21) : Int) := of_decide_eq_true au4
                 have q311 : (ji21) < (t304.length : Int) := of_decide_eq_true au4
                 obtain ⟨ad311,e311,hx311_0,hx311_1,hx311_2,hx311_3⟩ := at_T61 (Kd.R_reads' HO_3.out).2.2 (ji21) p311 q311
                 cases e311
                 replace p311 := eq_true p311
                 replace q311 := eq_true q311
                 try go_wp2_with (first | (go_at_call 45;(with_reducible refine (bodkinref05_wordly.calls k3 a0 ((rd_T61 t304 (ji21)).f0) ((rd_T61 t304 (ji21)).f1) ((rd_T61 t304 (ji21)).f2) ((rd_T61 t304 (ji21)).f3) false _ A23.out).mono ?_);rintro e w31 ⟨rfl,hb⟩;have n0_ := Aside0.mk (Kd.R_below au5 hb);have n1_ := Aside0.mk (Kd.R_below au8 hb);have n2_ := Aside0.mk (below_step au0 hb);clear HO_3;clear HO_4;clear HB;have HO_3 := n0_;have HO_4 := n1_;have HB := n2_;clear n0_ n1_ n2_;(try clear hb);(try clear hb2);(try clear hk);(try clear hi)))
                 have n0_ := Aside0.mk (Kd.R_drew HO_3.out)
                 have n1_ := Aside0.mk (Kd.R_drew HO_4.out)
                 have n2_ := Aside0.mk (below_drew1 HB.out)
                 clear HO_3
                 clear HO_4
                 clear HB
                 have HO_3 := n0_
                 have HO_4 := n1_
                 have HB := n2_
                 clear n0_ n1_ n2_
                 have p313 : 0 ≤ (x5_1 : Int) := of_decide_eq_true au4
                 have q313 : x5_1 < (t304.length : Int) := of_decide_eq_true au4
                 obtain ⟨ad313,e313,hx313_0,hx313_1,hx313_2,hx313_3⟩ := at_T61 (Kd.R_reads' HO_3.out).2.2 x5_1 p313 q313
                 obtain rfl : ad311 = ad313 := (by injection e313)
                 replace p313 := eq_true p313
                 replace q313 := eq_true q313
                 have p314 : 0 ≤ (x6_3 : Int) := of_decide_eq_true au4
                 have q314 : x6_3 < (t304.length : Int) := of_decide_eq_true au4
                 obtain ⟨ad314,e314,hx314_0,hx314_1,hx314_2,hx314_3⟩ := at_T61 (Kd.R_reads' HO_3.out).2.2 x6_3 p314 q314
                 obtain rfl : ad311 = ad314 := (by injection e314)
                 replace p314 := eq_true p314
                 replace q314 := eq_true q314
                 refine start_ (n := 15) (S := fun w' => w'.cell? (ad311.add ((x5_1).toNat * 4)) = some (.int .i64 ((rd_T61 t304 x5_1).f0)) ∧ w'.cell? ⟨(ad311.add ((x5_1).toNat * 4)).block,(ad311.add ((x5_1).toNat * 4)).off + 1,none⟩ = some (.int .i64 ((rd_T61 t304 x5_1).f1)) ∧ w'.cell? ⟨(ad311.add ((x5_1).toNat * 4)).block,(ad311.add ((x5_1).toNat * 4)).off + 2,none⟩ = some (.int .i64 ((rd_T61 t304 x5_1).f2)) ∧ w'.cell? ⟨(ad311.add ((x5_1).toNat * 4)).block,(ad311.add ((x5_1).toNat * 4)).off + 3,none⟩ = some (.int .i64 ((rd_T61 t304 x5_1).f3)) ∧ w'.cell? (ad311.add ((x6_3).toNat * 4)) = some (.int .i64 ((rd_T61 t304 x6_3).f0)) ∧ w'.cell? ⟨(ad311.add ((x6_3).toNat * 4)).block,(ad311.add ((x6_3).toNat * 4)).off + 1,none⟩ = some (.int .i64 ((rd_T61 t304 x6_3).f1)) ∧ w'.cell? ⟨(ad311.add ((x6_3).toNat * 4)).block,(ad311.add ((x6_3).toNat * 4)).off + 2,none⟩ = some (.int .i64 ((rd_T61 t304 x6_3).f2)) ∧ w'.cell? ⟨(ad311.add ((x6_3).toNat * 4)).block,(ad311.add ((x6_3).toNat * 4)).off + 3,none⟩ = some (.int .i64 ((rd_T61 t304 x6_3).f3))) (ds := [12,13]) #[false,false,false,false,false,false,false,false,false,false,false,false,false,false,false] (by kernel_rfl) rfl rfl ⟨hx313_0,hx313_1,hx313_2,hx313_3,hx314_0,hx314_1,hx314_2,hx314_3⟩ (fun hHeld => ?_);refine with_tabW bodkinref05_Spans.tab10 bodkinref05_Spans.bits10 (fun HT_ HW_ => ?_)
                 generalize w31.drew = w32 at HO_3 HO_4 HB hx313_0 hx313_1 hx313_2 hx313_3 hx314_0 hx314_1 hx314_2 hx314_3 hHeld ⊢
                 refine pure_ (i := 0) (N := some 52) (v := ?_) (a' := ?_) #[true,false,false,false,false,false,false,false,false,false,false,false,false,false,false] rfl rfl (any_of HT_.out (by kernel_rfl)) (fun _ _ _ h => h) (Or.inl ⟨by rfl,?_⟩) ?_ ?_
                 rotate_left
                 ·intro w'
                  go_simp
                  with_reducible rfl
                 rotate_left
                 ·simp only [Act.put,List.setIfInBounds_toArray,List.set_cons_zero,List.set_cons_succ,i64_w,i32_w]
                  rfl
                 refine pure_ (i := 1) (N := some 53) (v := ?_) (a' := ?_) #[true,true,false,false,false,false,false,false,false,false,false,false,false,false,false] rfl rfl (any_of HT_.out (by kernel_rfl)) (fun _ _ _ h => h) (Or.inl ⟨by rfl,?_⟩) ?_ ?_
                 rotate_left
                 ·intro w'
                  go_simp
                  with_reducible rfl
                 rotate_left
                 ·simp only [Act.put,List.setIfInBounds_toArray,List.set_cons_zero,List.set_cons_succ,i64_w,i32_w]
                  rfl
                 refine pure_ (i := 2) (N := some 54) (v := ?_) (a' := ?_) #[true,true,true,false,false,false,false,false,false,false,false,false,false,false,false] rfl rfl (any_of HT_.out (by kernel_rfl)) (fun _ _ _ h => h) (Or.inl ⟨by rfl,?_⟩) ?_ ?_
                 rotate_left
                 ·intro w'
                  go_simp
                  with_reducible rfl
                 rotate_left
                 ·simp only [Act.put,List.setIfInBounds_toArray,List.set_cons_zero,List.set_cons_succ,i64_w,i32_w]
                  rfl
                 refine pure_ (i := 3) (N := some 55) (v := ?_) (a' := ?_) #[true,true,true,true,false,false,false,false,false,false,false,false,false,false,false] rfl rfl (any_of HT_.out (by kernel_rfl)) (fun _ _ _ h => h) (Or.inl ⟨by rfl,?_⟩) ?_ ?_
                 rotate_left
                 ·intro w'
                  go_simp
                  with_reducible rfl
                 rotate_left
                 ·simp only [Act.put,List.setIfInBounds_toArray,List.set_cons_zero,List.set_cons_succ,i64_w,i32_w]
                  rfl
                 refine pure_ (i := 4) (N := some 56) (v := ?_) (a' := ?_) #[true,true,true,true,true,false,false,false,false,false,false,false,false,false,false] rfl rfl (any_of HT_.out (by kernel_rfl)) (fun _ _ _ h => h) (Or.inl ⟨by rfl,?_⟩) ?_ ?_
                 rotate_left
                 ·intro w'
                  go_simp
                  with_reducible rfl
                 rotate_left
                 ·simp only [Act.put,List.setIfInBounds_toArray,List.set_cons_zero,List.set_cons_succ,i64_w,i32_w]
                  rfl
                 refine pure_ (i := 6) (N := some 58) (v := ?_) (a' := ?_) #[true,true,true,true,true,false,true,false,false,false,false,false,false,false,false] rfl rfl (any_of HT_.out (by kernel_rfl)) (fun _ _ _ h => h) (Or.inl ⟨by rfl,?_⟩) ?_ ?_
                 rotate_left
                 ·intro w'
                  go_simp
                  with_reducible rfl
                 rotate_left
                 ·simp only [Act.put,List.setIfInBounds_toArray,List.set_cons_zero,List.set_cons_succ,i64_w,i32_w]
                  rfl
                 refine pure_ (i := 7) (N := some 59) (v := ?_) (a' := ?_) #[true,true,true,true,true,false,true,true,false,false,false,false,false,false,false] rfl rfl (any_of HT_.out (by kernel_rfl)) (fun _ _ _ h => h) (Or.inl ⟨by rfl,?_⟩) ?_ ?_
                 rotate_left
                 ·intro w'
                  go_simp
                  with_reducible rfl
                 rotate_left
                 ·simp only [Act.put,List.setIfInBounds_toArray,List.set_cons_zero,List.set_cons_succ,i64_w,i32_w]
                  rfl
                 refine pure_ (i := 8) (N := some 60) (v := ?_) (a' := ?_) #[true,true,true,true,true,false,true,true,true,false,false,false,false,false,false] rfl rfl (any_of HT_.out (by kernel_rfl)) (fun _ _ _ h => h) (Or.inl ⟨by rfl,?_⟩) ?_ ?_
                 rotate_left
                 ·intro w'
                  go_simp
                  with_reducible rfl
                 rotate_left
                 ·simp only [Act.put,List.setIfInBounds_toArray,List.set_cons_zero,List.set_cons_succ,i64_w,i32_w]
                  rfl
                 refine pure_ (i := 9) (N := some 61) (v := ?_) (a' := ?_) #[true,true,true,true,true,false,true,true,true,true,false,false,false,false,false] rfl rfl (any_of HT_.out (by kernel_rfl)) (fun _ _ _ h => h) (Or.inl ⟨by rfl,?_⟩) ?_ ?_
                 rotate_left
                 ·intro w'
                  go_simp
                  with_reducible rfl
                 rotate_left
                 ·simp only [Act.put,List.setIfInBounds_toArray,List.set_cons_zero,List.set_cons_succ,i64_w,i32_w]
                  rfl
                 refine take_ (i := 5) (N := some 57) (v := ?_) (a' := ?_) #[true,true,true,true,true,true,true,true,true,true,false,false,false,false,false] rfl rfl (take_ofW HT_.out HW_.out (by kernel_rfl)) (fun _ _ _ h => h) (Or.inl ⟨by rfl,?_⟩) hHeld ?_ ?_
                 rotate_left
                 ·rintro w' ⟨s0,s1,s2,s3,s4,s5,s6,s7⟩
                  go_simp
                  with_reducible rfl
                 rotate_left
                 ·simp only [Act.put,List.setIfInBounds_toArray,List.set_cons_zero,List.set_cons_succ,i64_w,i32_w]
                  rfl
                 refine take_ (i := 10) (N := some 62) (v := ?_) (a' := ?_) #[true,true,true,true,true,true,true,true,true,true,true,false,false,false,false] rfl rfl (take_ofW HT_.out HW_.out (by kernel_rfl)) (fun _ _ _ h => h) (Or.inl ⟨by rfl,?_⟩) hHeld ?_ ?_
                 rotate_left
                 ·rintro w' ⟨s0,s1,s2,s3,s4,s5,s6,s7⟩
                  go_simp
                  with_reducible rfl
                 rotate_left
                 ·simp only [Act.put,List.setIfInBounds_toArray,List.set_cons_zero,List.set_cons_succ,i64_w,i32_w]
                  rfl
                 refine pure_ (i := 11) (N := some 63) (v := ?_) (a' := ?_) #[true,true,true,true,true,true,true,true,true,true,true,true,false,false,false] rfl rfl (any_of HT_.out (by kernel_rfl)) (fun _ _ _ h => h) (Or.inl ⟨by rfl,?_⟩) ?_ ?_
                 rotate_left
                 ·intro w'
                  go_simp
                  with_reducible rfl
                 rotate_left
                 ·simp only [Act.put,List.setIfInBounds_toArray,List.set_cons_zero,List.set_cons_succ,i64_w,i32_w]
                  rfl
                 refine last_ (i := 12) (N := some 64) #[true,true,true,true,true,true,true,true,true,true,true,true,true,false,false] rfl rfl (one_of HT_.out (by kernel_rfl)) (by decide) (fun K hK => ?_)
                 refine value_ (w1 := ?_) (v := ?_) (by rfl) rfl ?_ ?_
                 rotate_left 2
                 ·go_simp
                  constructor
                  ·rfl
                  ·rfl
                 refine hK.out _ _ ?_
                 clear hK K
                 refine norm_ (a' := ?_) ?_ ?_
                 rotate_left
                 ·show Act.put _ (some 64) _ = _
                  simp only [Act.put,List.setIfInBounds_toArray,List.set_cons_zero,List.set_cons_succ,i64_w,i32_w]
                  rfl
                 refine last_ (i := 13) (N := some 65) #[true,true,true,true,true,true,true,true,true,true,true,true,true,true,false] rfl rfl (one_of HT_.out (by kernel_rfl)) (by decide) (fun K hK => ?_)
                 refine Kd.R_append_step k32 (w0 := w) w.heap.size (by rfl) (.tmp 52) (.tmp 64) 28 32 (.agg #[(.int .i64 0),(.int .i64 0)]) 16 rfl Tryd.underlying28 info32 rfl (by decide) (by omega) u4 x4_1 (⟨(rd_T61 t304 x5_1).f0,(rd_T61 t304 x6_3).f1⟩ : S32) [.int .i64 ((rd_T61 t304 x5_1).f0),.int .i64 ((rd_T61 t304 x6_3).f1)] (fun _ => True) (fun _ => False) rfl rfl ?aP (fun _ hk => hk.elim) ?aF ?aO ?aB ?aS ?aL ?_
                 (case aP => exact k32_mkM _ _ _ (⟨(rd_T61 t304 x5_1).f0,(rd_T61 t304 x6_3).f1⟩ : S32))
                 (case aB => exact au0)
                 (case aF => exact (fun _ _ => trivial))
                 (case aO => exact au8)
                 (case aS => exact (below_size au0))
                 (case aL => have := LMc30.out;omega)
                 intro v316 w33 ho hb hg hat
                 rw [← Ny315.out] at ho
                 have n0_ := Aside0.mk (Kd.R_over' au5 (Kd.R_typed au8) (by decide) hg)
                 have n1_ := Aside0.mk (hb)
                 have n2_ := Aside0.mk (ho)
                 clear HO_3
                 clear HB
                 clear HO_4
                 have HO_3 := n0_
                 have HB := n1_
                 have HO317 := n2_
                 clear n0_ n1_ n2_
                 clear ho hb hg hat
                 refine hK.out _ _ ?_
                 clear hK K
                 refine norm_ (a' := ?_) ?_ ?_
                 rotate_left
                 ·show Act.put _ (some 65) _ = _
                  simp only [Act.put,List.setIfInBounds_toArray,List.set_cons_zero,List.set_cons_succ,i64_w,i32_w]
                  rfl
                 refine pure_ (i := 14) (N := some 4) (v := ?_) (a' := ?_) #[true,true,true,true,true,true,true,true,true,true,true,true,true,true,true] rfl rfl (any_of HT_.out (by kernel_rfl)) (fun _ _ _ h => h) (Or.inl ⟨by rfl,?_⟩) ?_ ?_
                 rotate_left
                 ·intro w'
                  go_simp
                  with_reducible rfl
                 rotate_left
                 ·simp only [Act.put,List.setIfInBounds_toArray,List.set_cons_zero,List.set_cons_succ,i64_w,i32_w]
                  rfl
                 refine done_ (done_of HT_.out (by kernel_rfl)) ?_
                 try go_wp2
                 go_roundg k3
                 case measure => have := HK1.out;have := HJ4.out;have := HK3.out;omega
                 case rel => exact ⟨(y315),(wrap64 (x5_1 + 1)),au3,H',⟨by have := HK1.out;have := HJ4.out;have := HK3.out;omega⟩,⟨by (with_reducible repeat (first | apply Kd.R_alloc | apply Kd.R_drewN | apply Kd.R_drew));exact HO_3.out⟩,⟨by (with_reducible repeat (first | apply Kd.R_alloc | apply Kd.R_drewN | apply Kd.R_drew));exact HO317.out⟩,⟨au0⟩⟩
                ·rw [if_neg c30] at H
                 exact absurd H (by simp)
               ·rw [if_neg c29] at H
                exact absurd H (by simp)
              ·rw [if_neg c28] at H
               exact absurd H (by simp)
             ·rw [if_neg c27] at H
              exact absurd H (by simp)
            ·rw [if_neg c26] at H
             exact absurd H (by simp)
          ·rw [if_neg c22] at H
           exact absurd H (by simp)
         ·rw [if_neg c20] at H
          have c20b0 : decide ((wrap64 (x6_3 + 1)) < (t304.length : Int)) = false := decide_eq_false c20
          clear c20
          by_cases c34 : 0 ≤ x5_1
          ·rw [if_pos c34] at H
           have c34b0 : decide (0 ≤ x5_1) = true := decide_eq_true c34
           clear c34
           by_cases c35 : x5_1 < (t304.length : Int)
           ·rw [if_pos c35] at H
            have c35b0 : decide (x5_1 < (t304.length : Int)) = true := decide_eq_true c35
            clear c35
            by_cases c36 : 0 ≤ x6_3
            ·rw [if_pos c36] at H
             have c36b0 : decide (0 ≤ x6_3) = true := decide_eq_true c36
             clear c36
             by_cases c37 : x6_3 < (t304.length : Int)
             ·rw [if_pos c37] at H
              have c37b0 : decide (x6_3 < (t304.length : Int)) = true := decide_eq_true c37
              clear c37
              by_cases c38 : x4_1.length < 8796093022208
              ·rw [if_pos c38] at H
               have LMc38 := Aside0.mk c38
               clear c38
               obtain ⟨y320,hy320⟩ : ∃ y_ : List (S32),y_ = (x4_1 ++ [(⟨(rd_T61 t304 x5_1).f0,(rd_T61 t304 x6_3).f1⟩ : S32)]) := ⟨_,rfl⟩
               replace H : (bodkinref05_Spans.l0 k3 a0 t304 y320 (wrap64 (x5_1 + 1))) = some r := by first | (rw [hy320];with_reducible exact H) | (have H2_ := (Option.bind_some _ _).symm.trans H;rw [hy320];with_reducible exact H2_) | (have H2_ := (Option.bind_some _ _).symm.trans H;with_reducible exact H2_) | with_reducible exact H | (rw [hy320];exact H) | exact H
               have Ny320 := Aside0.mk hy320
               clear hy320
               have H' := Aside0.mk H
               clear H
               try go_wp2
               have n0_ := Aside0.mk (Kd.R_drew HO_3.out)
               have n1_ := Aside0.mk (Kd.R_drew HO_4.out)
               have n2_ := Aside0.mk (below_drew1 HB.out)
               clear HO_3
               clear HO_4
               clear HB
               have HO_3 := n0_
               have HO_4 := n1_
               have HB := n2_
               clear n0_ n1_ n2_
               have p318 : 0 ≤ (x5_1 : Int) := of_decide_eq_true au4
               have q318 : x5_1 < (t304.length : Int) := of_decide_eq_true au4
               obtain ⟨ad318,e318,hx318_0,hx318_1,hx318_2,hx318_3⟩ := at_T61 (Kd.R_reads' HO_3.out).2.2 x5_1 p318 q318
               cases e318
               replace p318 := eq_true p318
               replace q318 := eq_true q318
               have p319 : 0 ≤ (x6_3 : Int) := of_decide_eq_true au4
               have q319 : x6_3 < (t304.length : Int) := of_decide_eq_true au4
               obtain ⟨ad319,e319,hx319_0,hx319_1,hx319_2,hx319_3⟩ := at_T61 (Kd.R_reads' HO_3.out).2.2 x6_3 p319 q319
               obtain rfl : ad318 = ad319 := (by injection e319)
               replace p319 := eq_true p319
               replace q319 := eq_true q319
               refine start_ (n := 15) (S := fun w' => w'.cell? (ad318.add ((x5_1).toNat * 4)) = some (.int .i64 ((rd_T61 t304 x5_1).f0)) ∧ w'.cell? ⟨(ad318.add ((x5_1).toNat * 4)).block,(ad318.add ((x5_1).toNat * 4)).off + 1,none⟩ = some (.int .i64 ((rd_T61 t304 x5_1).f1)) ∧ w'.cell? ⟨(ad318.add ((x5_1).toNat * 4)).block,(ad318.add ((x5_1).toNat * 4)).off + 2,none⟩ = some (.int .i64 ((rd_T61 t304 x5_1).f2)) ∧ w'.cell? ⟨(ad318.add ((x5_1).toNat * 4)).block,(ad318.add ((x5_1).toNat * 4)).off + 3,none⟩ = some (.int .i64 ((rd_T61 t304 x5_1).f3)) ∧ w'.cell? (ad318.add ((x6_3).toNat * 4)) = some (.int .i64 ((rd_T61 t304 x6_3).f0)) ∧ w'.cell? ⟨(ad318.add ((x6_3).toNat * 4)).block,(ad318.add ((x6_3).toNat * 4)).off + 1,none⟩ = some (.int .i64 ((rd_T61 t304 x6_3).f1)) ∧ w'.cell? ⟨(ad318.add ((x6_3).toNat * 4)).block,(ad318.add ((x6_3).toNat * 4)).off + 2,none⟩ = some (.int .i64 ((rd_T61 t304 x6_3).f2)) ∧ w'.cell? ⟨(ad318.add ((x6_3).toNat * 4)).block,(ad318.add ((x6_3).toNat * 4)).off + 3,none⟩ = some (.int .i64 ((rd_T61 t304 x6_3).f3))) (ds := [12,13]) #[false,false,false,false,false,false,false,false,false,false,false,false,false,false,false] (by kernel_rfl) rfl rfl ⟨hx318_0,hx318_1,hx318_2,hx318_3,hx319_0,hx319_1,hx319_2,hx319_3⟩ (fun hHeld => ?_);refine with_tabW bodkinref05_Spans.tab10 bodkinref05_Spans.bits10 (fun HT_ HW_ => ?_)
               generalize wr.drew = w39 at HO_3 HO_4 HB hx318_0 hx318_1 hx318_2 hx318_3 hx319_0 hx319_1 hx319_2 hx319_3 hHeld ⊢
               refine pure_ (i := 0) (N := some 52) (v := ?_) (a' := ?_) #[true,false,false,false,false,false,false,false,false,false,false,false,false,false,false] rfl rfl (any_of HT_.out (by kernel_rfl)) (fun _ _ _ h => h) (Or.inl ⟨by rfl,?_⟩) ?_ ?_
               rotate_left
               ·intro w'
                go_simp
                with_reducible rfl
               rotate_left
               ·simp only [Act.put,List.setIfInBounds_toArray,List.set_cons_zero,List.set_cons_succ,i64_w,i32_w]
                rfl
               refine pure_ (i := 1) (N := some 53) (v := ?_) (a' := ?_) #[true,true,false,false,false,false,false,false,false,false,false,false,false,false,false] rfl rfl (any_of HT_.out (by kernel_rfl)) (fun _ _ _ h => h) (Or.inl ⟨by rfl,?_⟩) ?_ ?_
               rotate_left
               ·intro w'
                go_simp
                with_reducible rfl
               rotate_left
               ·simp only [Act.put,List.setIfInBounds_toArray,List.set_cons_zero,List.set_cons_succ,i64_w,i32_w]
                rfl
               refine pure_ (i := 2) (N := some 54) (v := ?_) (a' := ?_) #[true,true,true,false,false,false,false,false,false,false,false,false,false,false,false] rfl rfl (any_of HT_.out (by kernel_rfl)) (fun _ _ _ h => h) (Or.inl ⟨by rfl,?_⟩) ?_ ?_
               rotate_left
               ·intro w'
                go_simp
                with_reducible rfl
               rotate_left
               ·simp only [Act.put,List.setIfInBounds_toArray,List.set_cons_zero,List.set_cons_succ,i64_w,i32_w]
                rfl
               refine pure_ (i := 3) (N := some 55) (v := ?_) (a' := ?_) #[true,true,true,true,false,false,false,false,false,false,false,false,false,false,false] rfl rfl (any_of HT_.out (by kernel_rfl)) (fun _ _ _ h => h) (Or.inl ⟨by rfl,?_⟩) ?_ ?_
               rotate_left
               ·intro w'
                go_simp
                with_reducible rfl
               rotate_left
               ·simp only [Act.put,List.setIfInBounds_toArray,List.set_cons_zero,List.set_cons_succ,i64_w,i32_w]
                rfl
               refine pure_ (i := 4) (N := some 56) (v := ?_) (a' := ?_) #[true,true,true,true,true,false,false,false,false,false,false,false,false,false,false] rfl rfl (any_of HT_.out (by kernel_rfl)) (fun _ _ _ h => h) (Or.inl ⟨by rfl,?_⟩) ?_ ?_
               rotate_left
               ·intro w'
                go_simp
                with_reducible rfl
               rotate_left
               ·simp only [Act.put,List.setIfInBounds_toArray,List.set_cons_zero,List.set_cons_succ,i64_w,i32_w]
                rfl
               refine pure_ (i := 6) (N := some 58) (v := ?_) (a' := ?_) #[true,true,true,true,true,false,true,false,false,false,false,false,false,false,false] rfl rfl (any_of HT_.out (by kernel_rfl)) (fun _ _ _ h => h) (Or.inl ⟨by rfl,?_⟩) ?_ ?_
               rotate_left
               ·intro w'
                go_simp
                with_reducible rfl
               rotate_left
               ·simp only [Act.put,List.setIfInBounds_toArray,List.set_cons_zero,List.set_cons_succ,i64_w,i32_w]
                rfl
               refine pure_ (i := 7) (N := some 59) (v := ?_) (a' := ?_) #[true,true,true,true,true,false,true,true,false,false,false,false,false,false,false] rfl rfl (any_of HT_.out (by kernel_rfl)) (fun _ _ _ h => h) (Or.inl ⟨by rfl,?_⟩) ?_ ?_
               rotate_left
               ·intro w'
                go_simp
                with_reducible rfl
               rotate_left
               ·simp only [Act.put,List.setIfInBounds_toArray,List.set_cons_zero,List.set_cons_succ,i64_w,i32_w]
                rfl
               refine pure_ (i := 8) (N := some 60) (v := ?_) (a' := ?_) #[true,true,true,true,true,false,true,true,true,false,false,false,false,false,false] rfl rfl (any_of HT_.out (by kernel_rfl)) (fun _ _ _ h => h) (Or.inl ⟨by rfl,?_⟩) ?_ ?_
               rotate_left
               ·intro w'
                go_simp
                with_reducible rfl
               rotate_left
               ·simp only [Act.put,List.setIfInBounds_toArray,List.set_cons_zero,List.set_cons_succ,i64_w,i32_w]
                rfl
               refine pure_ (i := 9) (N := some 61) (v := ?_) (a' := ?_) #[true,true,true,true,true,false,true,true,true,true,false,false,false,false,false] rfl rfl (any_of HT_.out (by kernel_rfl)) (fun _ _ _ h => h) (Or.inl ⟨by rfl,?_⟩) ?_ ?_
               rotate_left
               ·intro w'
                go_simp
                with_reducible rfl
               rotate_left
               ·simp only [Act.put,List.setIfInBounds_toArray,List.set_cons_zero,List.set_cons_succ,i64_w,i32_w]
                rfl
               refine take_ (i := 5) (N := some 57) (v := ?_) (a' := ?_) #[true,true,true,true,true,true,true,true,true,true,false,false,false,false,false] rfl rfl (take_ofW HT_.out HW_.out (by kernel_rfl)) (fun _ _ _ h => h) (Or.inl ⟨by rfl,?_⟩) hHeld ?_ ?_
               rotate_left
               ·rintro w' ⟨s0,s1,s2,s3,s4,s5,s6,s7⟩
                go_simp
                with_reducible rfl
               rotate_left
               ·simp only [Act.put,List.setIfInBounds_toArray,List.set_cons_zero,List.set_cons_succ,i64_w,i32_w]
                rfl
               refine take_ (i := 10) (N := some 62) (v := ?_) (a' := ?_) #[true,true,true,true,true,true,true,true,true,true,true,false,false,false,false] rfl rfl (take_ofW HT_.out HW_.out (by kernel_rfl)) (fun _ _ _ h => h) (Or.inl ⟨by rfl,?_⟩) hHeld ?_ ?_
               rotate_left
               ·rintro w' ⟨s0,s1,s2,s3,s4,s5,s6,s7⟩
                go_simp
                with_reducible rfl
               rotate_left
               ·simp only [Act.put,List.setIfInBounds_toArray,List.set_cons_zero,List.set_cons_succ,i64_w,i32_w]
                rfl
               refine pure_ (i := 11) (N := some 63) (v := ?_) (a' := ?_) #[true,true,true,true,true,true,true,true,true,true,true,true,false,false,false] rfl rfl (any_of HT_.out (by kernel_rfl)) (fun _ _ _ h => h) (Or.inl ⟨by rfl,?_⟩) ?_ ?_
               rotate_left
               ·intro w'
                go_simp
                with_reducible rfl
               rotate_left
               ·simp only [Act.put,List.setIfInBounds_toArray,List.set_cons_zero,List.set_cons_succ,i64_w,i32_w]
                rfl
               refine last_ (i := 12) (N := some 64) #[true,true,true,true,true,true,true,true,true,true,true,true,true,false,false] rfl rfl (one_of HT_.out (by kernel_rfl)) (by decide) (fun K hK => ?_)
               refine value_ (w1 := ?_) (v := ?_) (by rfl) rfl ?_ ?_
               rotate_left 2
               ·go_simp
                constructor
                ·rfl
                ·rfl
               refine hK.out _ _ ?_
               clear hK K
               refine norm_ (a' := ?_) ?_ ?_
               rotate_left
               ·show Act.put _ (some 64) _ = _
                simp only [Act.put,List.setIfInBounds_toArray,List.set_cons_zero,List.set_cons_succ,i64_w,i32_w]
                rfl
               refine last_ (i := 13) (N := some 65) #[true,true,true,true,true,true,true,true,true,true,true,true,true,true,false] rfl rfl (one_of HT_.out (by kernel_rfl)) (by decide) (fun K hK => ?_)
               refine Kd.R_append_step k32 (w0 := w) w.heap.size (by rfl) (.tmp 52) (.tmp 64) 28 32 (.agg #[(.int .i64 0),(.int .i64 0)]) 16 rfl Tryd.underlying28 info32 rfl (by decide) (by omega) u4 x4_1 (⟨(rd_T61 t304 x5_1).f0,(rd_T61 t304 x6_3).f1⟩ : S32) [.int .i64 ((rd_T61 t304 x5_1).f0),.int .i64 ((rd_T61 t304 x6_3).f1)] (fun _ => True) (fun _ => False) rfl rfl ?aP (fun _ hk => hk.elim) ?aF ?aO ?aB ?aS ?aL ?_
               (case aP => exact k32_mkM _ _ _ (⟨(rd_T61 t304 x5_1).f0,(rd_T61 t304 x6_3).f1⟩ : S32))
               (case aB => exact au0)
               (case aF => exact (fun _ _ => trivial))
               (case aO => exact au8)
               (case aS => exact (below_size au0))
               (case aL => have := LMc38.out;omega)
               intro v321 w40 ho hb hg hat
               rw [← Ny320.out] at ho
               have n0_ := Aside0.mk (Kd.R_over' au5 (Kd.R_typed au8) (by decide) hg)
               have n1_ := Aside0.mk (hb)
               have n2_ := Aside0.mk (ho)
               clear HO_3
               clear HB
               clear HO_4
               have HO_3 := n0_
               have HB := n1_
               have HO322 := n2_
               clear n0_ n1_ n2_
               clear ho hb hg hat
               refine hK.out _ _ ?_
               clear hK K
               refine norm_ (a' := ?_) ?_ ?_
               rotate_left
               ·show Act.put _ (some 65) _ = _
                simp only [Act.put,List.setIfInBounds_toArray,List.set_cons_zero,List.set_cons_succ,i64_w,i32_w]
                rfl
               refine pure_ (i := 14) (N := some 4) (v := ?_) (a' := ?_) #[true,true,true,true,true,true,true,true,true,true,true,true,true,true,true] rfl rfl (any_of HT_.out (by kernel_rfl)) (fun _ _ _ h => h) (Or.inl ⟨by rfl,?_⟩) ?_ ?_
               rotate_left
               ·intro w'
                go_simp
                with_reducible rfl
               rotate_left
               ·simp only [Act.put,List.setIfInBounds_toArray,List.set_cons_zero,List.set_cons_succ,i64_w,i32_w]
                rfl
               refine done_ (done_of HT_.out (by kernel_rfl)) ?_
               try go_wp2
               go_roundg k3
               case measure => have := HK1.out;have := HJ4.out;have := HK3.out;omega
               case rel => exact ⟨(y320),(wrap64 (x5_1 + 1)),au3,H',⟨by have := HK1.out;have := HJ4.out;have := HK3.out;omega⟩,⟨by (with_reducible repeat (first | apply Kd.R_alloc | apply Kd.R_drewN | apply Kd.R_drew));exact HO_3.out⟩,⟨by (with_reducible repeat (first | apply Kd.R_alloc | apply Kd.R_drewN | apply Kd.R_drew));exact HO322.out⟩,⟨au0⟩⟩
              ·rw [if_neg c38] at H
               exact absurd H (by simp)
             ·rw [if_neg c37] at H
              exact absurd H (by simp)
            ·rw [if_neg c36] at H
             exact absurd H (by simp)
           ·rw [if_neg c35] at H
            exact absurd H (by simp)
          ·rw [if_neg c34] at H
           exact absurd H (by simp)
   ·rw [if_neg c4] at H
    have c4b0 : decide (x5_1 < (t304.length : Int)) = false := decide_eq_false c4
    clear c4
    obtain rfl := Option.some.inj H
    obtain ⟨Ao41,co41,eo41⟩ := Kd.R_slice HO_3.out
    subst eo41
    go_wp2
    go_ret
    exact ⟨_,by first | rfl | (simp [errW_none,errW_some] <;> rfl) | (simp [*,errW_none,errW_some] <;> rfl),by (with_reducible repeat (first | apply Kd.R_alloc | apply Kd.R_drewN | apply Kd.R_drew));exact HO_4.out,au0⟩
end Go.Proofs.YtkficbgnjpekaaaDoor.U
end
section
namespace Go.Proofs.YtkficbgnjpekaaaDoor.U
open Go.RowKit Go.Proofs.YtkficbgnjpekaaaDoorW.PrintWords Go.Proofs.YtkficbgnjpekaaaDoorW.PrintLast Go.Proofs.YtkficbgnjpekaaaDoorW.PrintMore
attribute [local go_sem] max2_int min2_int max_two min_two max_three min_three max_four min_four   -- for this text's walks alone
set_option linter.unusedVariables false
set_option linter.unusedSimpArgs false
def bodkinref01_encoding.l0 : Nat → Int → Int → List Int → Int → Option (ByteArray)
 | 0,_,_,_,_ => none
 | k + 1,x0,x3,x4,x5 => if x5 > 0 then (if 0 ≤ x5 then (if x5 < (x4.length : Int) then (bodkinref01_encoding.l0 k (wrap32 (Int.tdiv x0 64)) x3 (x4.set (x5 : Int).toNat ((wrap32 (128 + (Int.tmod x0 64))) % 256)) (wrap64 (x5 - 1))) else (none)) else (none)) else ((some (([0,0,192,224,240] : List Int) : List Int)).bind fun y489 => (if 0 ≤ x3 then (if x3 < (y489.length : Int) then (if 0 < (x4.length : Int) then (some (strOfNums (x4.set (0 : Int).toNat ((wrap64 ((rd y489 x3) + (wrap64 (x0)))) % 256)))) else (none)) else (none)) else (none)))
def bodkinref01_encoding.f (k : Nat) (a0 : Int) : Option (ByteArray) := (bodkinref01_size.f a0).bind fun t481 => (if t481 = 1 then (some (strOfNums (([(a0) % 256] : List Int)))) else (if 0 ≤ t481 then (if (t481 : Int).toNat ≤ 281474976710656 then (bodkinref01_encoding.l0 k a0 t481 (List.replicate (t481 : Int).toNat 0) (wrap64 (t481 - 1))) else (none)) else (none)))
set_option maxHeartbeats 8000000 in
set_option maxRecDepth 100000 in
theorem bodkinref01_encoding.calls (k : Nat) (a0 : Int) (r : ByteArray) (w : World) (h : bodkinref01_encoding.f k a0 = some r) :
  Calls Tryd.prog 85 #[.int .i32 a0] w fun e w' => e = .returned (.string r) ∧ Below w.heap.size w w' := by
 have HB := Aside0.mk (Below.refl w.heap.size w)
 have H : ((bodkinref01_size.f a0).bind fun t481 => (if t481 = 1 then (some (strOfNums (([(a0) % 256] : List Int)))) else (if 0 ≤ t481 then (if (t481 : Int).toNat ≤ 281474976710656 then (bodkinref01_encoding.l0 k a0 t481 (List.replicate (t481 : Int).toNat 0) (wrap64 (t481 - 1))) else (none)) else (none)))) = some r := h
 clear h
 replace H := Option.bind_eq_some_iff.mp H
 obtain ⟨t481,A20,H⟩ := H
 replace H : (if t481 = 1 then (some (strOfNums (([(a0) % 256] : List Int)))) else (if 0 ≤ t481 then (if (t481 : Int).toNat ≤ 281474976710656 then (bodkinref01_encoding.l0 k a0 t481 (List.replicate (t481 : Int).toNat 0) (wrap64 (t481 - 1))) else (none)) else (none))) = some r := H
 have A2 := Aside0.mk A20
 clear A20
 by_cases c3 : t481 = 1
 ·rw [if_pos c3] at H
  have c3b0 : (t481 == 1) = true := beq_iff_eq.mpr c3
  have c3b1 : (t481 != 1) = false := bne_eq_false_iff_eq.mpr c3
  clear c3
  obtain ⟨y482,hy482⟩ : ∃ y_ : List Int,y_ = (([(a0) % 256] : List Int)) := ⟨_,rfl⟩
  replace H : (some (strOfNums y482)) = some r := by first | (rw [hy482];with_reducible exact H) | (have H2_ := (Option.bind_some _ _).symm.trans H;rw [hy482];with_reducible exact H2_) | (have H2_ := (Option.bind_some _ _).symm.trans H;with_reducible exact H2_) | with_reducible exact H | (rw [hy482];exact H) | exact H
  have Ny482 := Aside0.mk hy482
  clear hy482
  obtain rfl := Option.some.inj H
  go_enter Tryd.func85,Tryd.ntmps85
  go_wp2_with (first | ((with_reducible refine gate_callee (f := 80) rfl ?_);refine goesL_ (some 8) rfl rfl Tryd.func80 (by kernel_rfl) rfl #[.int .i32 a0] rfl au1 ?_;(with_reducible refine (bodkinref01_size.calls a0 t481 _ A2.out).mono ?_);rintro e w4 ⟨rfl,hb⟩;refine ⟨_,rfl,?_⟩;have n0_ := Aside0.mk (below_step au0 hb);clear HB;have HB := n0_;clear n0_;(try clear hb);(try clear hb2);(try clear hk);(try clear hi)) | ((with_reducible refine gate_dst (N := 13) rfl ?_);refine Kd.R_lit (Kd.int .u8) _ 5 ?hg (N := 13) ?hd (xs := ([(a0) % 256] : List Int)) (inner := [.int .u8 ((a0) % 256)]) (ok := fun _ => True) (okp := fun _ => True) ?hr ?hp (fun _ hk => hk) trivial (Below.refl _ _) (Nat.le_refl _) (by simp) ?_;(case hd => rfl);(case hg => rfl);(case hr => first | (go_simp;done) | (go_simp;rfl));(case hp => exact (Reps.one (show Kd.M (Kd.int .u8) _ _ _ ((a0) % 256) [.int .u8 ((a0) % 256)] from rfl) (Reps.none _ _)));intro v483 w5 ho6 hb hg_ hnew_;clear hg_ hnew_;(first | rw [← Ny482.out] at ho6 | (simp only [Int.reduceToNat] at ho6;rw [← Ny482.out] at ho6));have n0_ := Aside0.mk (Kd.R_lower ho6 (below_size au0));have n1_ := Aside0.mk (below_step au0 hb);clear HB;have HO484 := n0_;have HB := n1_;clear n0_ n1_;clear hb ho6;have hcv7 := own_string (P := Tryd.prog) Tryd.underlying66 Tryd.underlying5 Tryd.underlying9 (Kd.own_of_R HO484.out)))
  go_ret
  exact ⟨au2,au0⟩
 ·rw [if_neg c3] at H
  have c3b0 : (t481 == 1) = false := beq_eq_false_iff_ne.mpr c3
  have c3b1 : (t481 != 1) = true := bne_iff_ne.mpr c3
  by_cases c8 : 0 ≤ t481
  ·rw [if_pos c8] at H
   have c8b0 := eq_true c8
   have c8b1 : decide (0 ≤ t481) = true := decide_eq_true c8
   clear c8
   by_cases c9 : (t481 : Int).toNat ≤ 281474976710656
   ·rw [if_pos c9] at H
    have c9b0 := eq_true c9
    have c9b1 : decide ((t481 : Int).toNat ≤ 281474976710656) = true := decide_eq_true c9
    clear c9
    obtain ⟨y485,hy485⟩ : ∃ y_ : List Int,y_ = (List.replicate (t481 : Int).toNat 0) := ⟨_,rfl⟩
    replace H : (bodkinref01_encoding.l0 k a0 t481 y485 (wrap64 (t481 - 1))) = some r := by first | (rw [hy485];with_reducible exact H) | (have H2_ := (Option.bind_some _ _).symm.trans H;rw [hy485];with_reducible exact H2_) | (have H2_ := (Option.bind_some _ _).symm.trans H;with_reducible exact H2_) | with_reducible exact H | (rw [hy485];exact H) | exact H
    have Ny485 := Aside0.mk hy485
    clear hy485
    have H' := Aside0.mk H
    clear H
    go_enter Tryd.func85,Tryd.ntmps85
    go_wp2_with (first | ((with_reducible refine gate_callee (f := 80) rfl ?_);refine goesL_ (some 8) rfl rfl Tryd.func80 (by kernel_rfl) rfl #[.int .i32 a0] rfl au1 ?_;(with_reducible refine (bodkinref01_size.calls a0 t481 _ A2.out).mono ?_);rintro e w10 ⟨rfl,hb⟩;refine ⟨_,rfl,?_⟩;have n0_ := Aside0.mk (below_step au0 hb);clear HB;have HB := n0_;clear n0_;(try clear hb);(try clear hb2);(try clear hk);(try clear hi)) | ((with_reducible refine gate_dst (N := 16) rfl ?_);refine Kd.R_make (Kd.int .u8) _ 5 rfl (N := 16) rfl 66 _ _ rfl t481 rfl rfl Tryd.underlying66 (.int .u8 0) 1 info5 rfl (by decide) (by omega) 0 (ok := fun _ => True) (okp := fun _ => True) rfl (fun _ hk => hk) trivial (of_decide_eq_true au4) (Nat.le_trans (Nat.mul_le_mul_right _ (of_decide_eq_true au4 : t481.toNat ≤ 281474976710656)) (by omega)) (Below.refl _ _) (Nat.le_refl _) ?_;intro v486 w11 ho12 hb hg_ hnew_;clear hg_ hnew_;(first | rw [← Ny485.out] at ho12 | (simp only [Int.reduceToNat] at ho12;rw [← Ny485.out] at ho12));have n0_ := Aside0.mk (Kd.R_lower ho12 (below_size au0));have n1_ := Aside0.mk (below_step au0 hb);clear HB;have HO487 := n0_;have HB := n1_;clear n0_ n1_;clear hb ho12))
    go_loopg [0,5] k (fun kq v0 v5 w' => ∃ (x0_1 : Int) (x4_1 : List Int) (x5_1 : Int),v0 = .int .i32 x0_1 ∧ v5 = .int .i64 x5_1 ∧ Aside0 (bodkinref01_encoding.l0 kq x0_1 t481 x4_1 x5_1 = some r) ∧ Aside0 (kq ≤ k) ∧ Aside0 (Kd.R (Kd.int .u8) 5 w' w.heap.size (fun _ => True) v486 x4_1) ∧ Aside0 (Below w.heap.size w w'))
    case atStart => exact ⟨(a0),(y485),(wrap64 (t481 - 1)),au3,au3,H',⟨Nat.le_refl _⟩,⟨by (with_reducible repeat (first | apply Kd.R_alloc | apply Kd.R_drewN | apply Kd.R_drew));exact HO487.out⟩,⟨au0⟩⟩
    case round =>
     clear H'
     try clear p2
     try clear c3
     try clear c3b0
     try clear c3b1
     try clear p6
     try clear hcv7
     try clear c8
     try clear c8b0
     try clear c8b1
     try clear c9
     try clear c9b0
     try clear c9b1
     obtain ⟨x0_1,x4_1,x5_1,rfl,rfl,HA,HK1,HO_4,HB⟩ := hrel
     cases gk with
     | zero => exact absurd HA.out (by simp [bodkinref01_encoding.l0])
     | succ k1 =>
      have H := HA.out
      clear HA
      simp only [bodkinref01_encoding.l0] at H
      by_cases c13 : x5_1 > 0
      ·rw [if_pos c13] at H
       have c13b0 : decide (0 < x5_1) = true := decide_eq_true c13
       clear c13
       by_cases c14 : 0 ≤ x5_1
       ·rw [if_pos c14] at H
        have c14b0 : decide (0 ≤ x5_1) = true := decide_eq_true c14
        clear c14
        by_cases c15 : x5_1 < (x4_1.length : Int)
        ·rw [if_pos c15] at H
         have c15b0 : decide (x5_1 < (x4_1.length : Int)) = true := decide_eq_true c15
         clear c15
         obtain ⟨y488,hy488⟩ : ∃ y_ : List Int,y_ = (x4_1.set (x5_1 : Int).toNat ((wrap32 (128 + (Int.tmod x0_1 64))) % 256)) := ⟨_,rfl⟩
         replace H : (bodkinref01_encoding.l0 k1 (wrap32 (Int.tdiv x0_1 64)) t481 y488 (wrap64 (x5_1 - 1))) = some r := by first | (rw [hy488];with_reducible exact H) | (have H2_ := (Option.bind_some _ _).symm.trans H;rw [hy488];with_reducible exact H2_) | (have H2_ := (Option.bind_some _ _).symm.trans H;with_reducible exact H2_) | with_reducible exact H | (rw [hy488];exact H) | exact H
         have Ny488 := Aside0.mk hy488
         clear hy488
         have H' := Aside0.mk H
         clear H
         have p16 : 0 ≤ (x5_1 : Int) := of_decide_eq_true au4
         have q16 : (x5_1 : Int) < ((x4_1.length : Int) : Int) := of_decide_eq_true au4
         obtain ⟨go16,co16,eo16,gb16,gl16,cl16,HG16⟩ := Kd.R_form HO_4.out (by omega)
         (first | cases eo16 | (injection eo16 with ea_ en_ ec_;(first | subst ea_ | (injection ea_ with ea_;subst ea_));subst ec_;clear en_))
         have GB16 := Aside0.mk gb16
         have GG16 := Aside0.mk HG16
         clear gb16 gl16 HG16
         obtain ⟨hx16_0,hf16_0⟩ := Kd.R_celln 0 HO_4.out (x5_1 : Int) p16 q16
         replace p16 := eq_true p16
         replace q16 := eq_true q16
         have HP17 := Kd.R_putg HO_4.out (x5_1 : Int) ((wrap32 (128 + (Int.tmod x0_1 64))) % 256)
         go_wp2_with (first | ((with_reducible refine gate_store (t := 5) (p := 29) rfl ?_);refine store_event (t := 5) (p := 29) (v := ?vo_w18) (w1 := (wr.setCell ⟨go16,(x5_1 : Int).toNat,none⟩ (.int .u8 ((wrap32 (128 + (Int.tmod x0_1 64))) % 256)))) ?hg ?ho ?hn ?hr ?_;(case ho => rfl);(case hg => rfl);(case hn => rfl);(case hr => first | (go_simp;done) | (go_simp;rfl));intro w18 hw;have hg : wr.grownBy w18 (some go16) := (by rw [hw];exact HP17.2);have hp_ : Kd.R (Kd.int .u8) 5 w18 w.heap.size (fun _ => True) (.slice (some ⟨go16,0,none⟩) x4_1.length co16) y488 := (by rw [hw,Ny488.out];exact HP17.1);clear HP17;have n0_ := Aside0.mk (hp_);have n1_ := Aside0.mk ((by rw [hw];exact below_set (HB.out) GB16.out : Below w.heap.size w w18));clear HO_4;clear HB;have HO_4 := n0_;have HB := n1_;clear n0_ n1_;clear hg hw hp_))
         go_roundg k1
         case measure => have := HK1.out;omega
         case rel => exact ⟨(wrap32 (Int.tdiv x0_1 64)),(y488),(wrap64 (x5_1 - 1)),au3,au3,H',⟨by have := HK1.out;omega⟩,⟨by (with_reducible repeat (first | apply Kd.R_alloc | apply Kd.R_drewN | apply Kd.R_drew));exact HO_4.out⟩,⟨au0⟩⟩
        ·rw [if_neg c15] at H
         exact absurd H (by simp)
       ·rw [if_neg c14] at H
        exact absurd H (by simp)
      ·rw [if_neg c13] at H
       have c13b0 : decide (0 < x5_1) = false := decide_eq_false c13
       clear c13
       obtain ⟨y489,hy489⟩ : ∃ y_ : List Int,y_ = (([0,0,192,224,240] : List Int)) := ⟨_,rfl⟩
       replace H : (if 0 ≤ t481 then (if t481 < (y489.length : Int) then (if 0 < (x4_1.length : Int) then (some (strOfNums (x4_1.set (0 : Int).toNat ((wrap64 ((rd y489 t481) + (wrap64 (x0_1)))) % 256)))) else (none)) else (none)) else (none)) = some r := by first | (rw [hy489];with_reducible exact H) | (have H2_ := (Option.bind_some _ _).symm.trans H;rw [hy489];with_reducible exact H2_) | (have H2_ := (Option.bind_some _ _).symm.trans H;with_reducible exact H2_) | with_reducible exact H | (rw [hy489];exact H) | exact H
       have Ny489 := Aside0.mk hy489
       clear hy489
       by_cases c19 : 0 ≤ t481
       ·rw [if_pos c19] at H
        have c19b0 : decide (0 ≤ t481) = true := decide_eq_true c19
        clear c19
        by_cases c20 : t481 < (y489.length : Int)
        ·rw [if_pos c20] at H
         have c20b0 : decide (t481 < (y489.length : Int)) = true := decide_eq_true c20
         clear c20
         by_cases c21 : 0 < (x4_1.length : Int)
         ·rw [if_pos c21] at H
          have c21b0 : decide (0 < (x4_1.length : Int)) = true := decide_eq_true c21
          have c21b1 : decide (0 < x4_1.length) = true := decide_eq_true (by omega)
          clear c21
          obtain ⟨y493,hy493⟩ : ∃ y_ : List Int,y_ = (x4_1.set (0 : Int).toNat ((wrap64 ((rd y489 t481) + (wrap64 (x0_1)))) % 256)) := ⟨_,rfl⟩
          replace H : (some (strOfNums y493)) = some r := by first | (rw [hy493];with_reducible exact H) | (have H2_ := (Option.bind_some _ _).symm.trans H;rw [hy493];with_reducible exact H2_) | (have H2_ := (Option.bind_some _ _).symm.trans H;with_reducible exact H2_) | with_reducible exact H | (rw [hy493];exact H) | exact H
          have Ny493 := Aside0.mk hy493
          clear hy493
          obtain rfl := Option.some.inj H
          go_wp2_with (first | ((with_reducible refine gate_dst (N := 32) rfl ?_);refine Kd.R_lit (Kd.int .i64) _ 3 ?hg (N := 32) ?hd (xs := ([0,0,192,224,240] : List Int)) (inner := [.int .i64 0,.int .i64 0,.int .i64 192,.int .i64 224,.int .i64 240]) (ok := fun _ => True) (okp := fun _ => True) ?hr ?hp (fun _ hk => hk) trivial (Below.refl _ _) (Nat.le_refl _) (by simp) ?_;(case hd => rfl);(case hg => rfl);(case hr => first | (go_simp;done) | (go_simp;rfl));(case hp => exact (Reps.one (show Kd.M (Kd.int .i64) _ _ _ 0 [.int .i64 0] from rfl) (Reps.one (show Kd.M (Kd.int .i64) _ _ _ 0 [.int .i64 0] from rfl) (Reps.one (show Kd.M (Kd.int .i64) _ _ _ 192 [.int .i64 192] from rfl) (Reps.one (show Kd.M (Kd.int .i64) _ _ _ 224 [.int .i64 224] from rfl) (Reps.one (show Kd.M (Kd.int .i64) _ _ _ 240 [.int .i64 240] from rfl) (Reps.none _ _)))))));intro v490 w23 ho24 hb hg_ hnew_;clear hg_ hnew_;(first | rw [← Ny489.out] at ho24 | (simp only [Int.reduceToNat] at ho24;rw [← Ny489.out] at ho24));have n0_ := Aside0.mk (Kd.R_below au8 hb);have n1_ := Aside0.mk (Kd.R_lower ho24 (below_size au0));have n2_ := Aside0.mk (below_step au0 hb);clear HO_4;clear HB;have HO_4 := n0_;have HO491 := n1_;have HB := n2_;clear n0_ n1_ n2_;clear hb ho24;obtain ⟨Ao25,co25,eo25⟩ := Kd.R_slice HO491.out;subst eo25;have p492 : 0 ≤ (t481 : Int) := of_decide_eq_true au4;have q492 : t481 < (y489.length : Int) := of_decide_eq_true au4;obtain ⟨ad492,e492,hx492_0⟩ := Kd.at_int (Kd.R_reads' HO491.out).2.2 t481 p492 q492;cases e492;replace p492 := eq_true p492;replace q492 := eq_true q492;have p22 : 0 ≤ (0 : Int) := (by omega);have q22 : (0 : Int) < ((x4_1.length : Int) : Int) := of_decide_eq_true au4;have qi22 : (0 < x4_1.length) = True := eq_true (by omega);obtain ⟨go22,co22,eo22,gb22,gl22,cl22,HG22⟩ := Kd.R_form HO_4.out (by omega);(first | cases eo22 | (injection eo22 with ea_ en_ ec_;(first | subst ea_ | (injection ea_ with ea_;subst ea_));subst ec_;clear en_));have GB22 := Aside0.mk gb22;have GG22 := Aside0.mk HG22;clear gb22 gl22 HG22;obtain ⟨hx22_0,hf22_0⟩ := Kd.R_celln 0 HO_4.out (0 : Int) p22 q22;(try rw [show ((0 : Int)).toNat = 0 from rfl] at hx22_0);(try simp only [Nat.reduceMul,Nat.zero_mul,Nat.zero_add,Nat.reduceAdd] at hx22_0);(try rw [show ((0 : Int)).toNat = 0 from rfl] at hf22_0);(try simp only [Nat.reduceMul,Nat.zero_mul,Nat.zero_add,Nat.reduceAdd] at hf22_0);replace p22 := eq_true p22;replace q22 := eq_true q22;obtain ⟨hy26_,hz26_⟩ := Kd.R_celln 0 HO_4.out (0 : Int) (by omega) (of_decide_eq_true au4);(try simp only [Int.reduceToNat,Int.toNat_zero,Int.toNat_ofNat,Nat.reduceMul,Nat.zero_mul,Nat.zero_add] at hy26_ hz26_);(try rw [show ((0 : Int)).toNat = 0 from rfl] at hy26_);(try rw [show ((0 : Int)).toNat = 0 from rfl] at hz26_);have HP26 := Kd.R_putg HO_4.out (0 : Int) ((wrap64 ((rd y489 t481) + (wrap64 (x0_1)))) % 256)) | ((with_reducible refine gate_store (t := 5) (p := 42) rfl ?_);refine store_event (t := 5) (p := 42) (v := ?vo_w27) (w1 := (w23.setCell ⟨go22,(0 : Int).toNat,none⟩ (.int .u8 ((wrap64 ((rd y489 t481) + (wrap64 (x0_1)))) % 256)))) ?hg ?ho ?hn ?hr ?_;(case ho => rfl);(case hg => rfl);(case hn => rfl);(case hr => first | (go_simp;done) | (go_simp;rfl));intro w27 hw;have hg : w23.grownBy w27 (some go22) := (by rw [hw];exact HP26.2);have hp_ : Kd.R (Kd.int .u8) 5 w27 w.heap.size (fun _ => True) (.slice (some ⟨go22,0,none⟩) x4_1.length co22) y493 := (by rw [hw,Ny493.out];exact HP26.1);clear HP26;have n0_ := Aside0.mk (hp_);have n1_ := Aside0.mk (Kd.R_over' (v := (.slice (some ⟨go22,0,none⟩) x4_1.length co22)) (by (with_reducible repeat (first | apply Kd.R_alloc | apply Kd.R_drewN | apply Kd.R_drew));exact HO491.out) (Kd.R_typed HO_4.out) (by decide) hg);have n2_ := Aside0.mk ((by rw [hw];exact below_set (HB.out) GB22.out : Below w.heap.size w w27));clear HO_4;clear HO491;clear HB;have HO_4 := n0_;have HO491 := n1_;have HB := n2_;clear n0_ n1_ n2_;clear hg hw hp_;have hcv28 := own_string (P := Tryd.prog) Tryd.underlying66 Tryd.underlying5 Tryd.underlying9 (Kd.own_of_R HO_4.out)))
          go_ret
          exact ⟨au2,au0⟩
         ·rw [if_neg c21] at H
          exact absurd H (by simp)
        ·rw [if_neg c20] at H
         exact absurd H (by simp)
       ·rw [if_neg c19] at H
        exact absurd H (by simp)
   ·rw [if_neg c9] at H
    exact absurd H (by simp)
  ·rw [if_neg c8] at H
   exact absurd H (by simp)
def bodkinref01_Encode.l0 : Nat → List Int → List Int → Int → Option (ByteArray)
 | 0,_,_,_ => none
 | k + 1,x0,x3,x4 => if x4 < (x0.length : Int) then (if 0 ≤ x4 then ((bodkinref01_scalar.f (rd x0 x4)).bind fun t495 => (if t495 = true then ((bodkinref01_encoding.f k (rd x0 x4)).bind fun t497 => (if x3.length + t497.size < 140737488355328 then (bodkinref01_Encode.l0 k x0 (x3 ++ bytesOf t497) (wrap64 (x4 + 1))) else (none))) else (bodkinref01_Encode.l0 k x0 x3 (wrap64 (x4 + 1))))) else (none)) else (some (strOfNums x3))
def bodkinref01_Encode.f (k : Nat) (l0 : List Int) : Option (ByteArray) := bodkinref01_Encode.l0 k l0 ([] : List Int) 0
set_option maxHeartbeats 8000000 in
set_option maxRecDepth 100000 in
theorem bodkinref01_Encode.calls (k : Nat) (A0 : Option Addr) (c0 : Nat) (l0 : List Int) (r : ByteArray) (w : World) (hr0 : Kd.C (Kd.int .i32) w A0 l0.length l0) (hc0 : l0.length ≤ c0) (h : bodkinref01_Encode.f k l0 = some r) :
  Calls Tryd.prog 75 #[.slice A0 l0.length c0] w fun e w' => e = .returned (.string r) ∧ Below w.heap.size w w' := by
 have HR0 := Aside0.mk hr0
 have HC0 := Aside0.mk hc0
 clear hr0 hc0
 have HB := Aside0.mk (Below.refl w.heap.size w)
 have H : (bodkinref01_Encode.l0 k l0 ([] : List Int) 0) = some r := h
 clear h
 have H' := Aside0.mk H
 clear H
 go_enter Tryd.func75,Tryd.ntmps75
 go_wp2
 go_loopg [3,4] k (fun kq v3 v4 w' => ∃ (x3_1 : List Int) (x4_1 : Int),v4 = .int .i64 x4_1 ∧ Aside0 (bodkinref01_Encode.l0 kq l0 x3_1 x4_1 = some r) ∧ Aside0 (kq ≤ k) ∧ Aside0 (Kd.R (Kd.int .u8) 5 w' w.heap.size (fun _ => True) v3 x3_1) ∧ Aside0 (Below w.heap.size w w'))
 case atStart => exact ⟨(([] : List Int)),(0),au3,H',⟨Nat.le_refl _⟩,⟨by first | exact Kd.R_nil _ _ _ _ _ | exact Kd.N_nil _ _ _ _ _ | exact Kd.V_nil _ _ _ _ _ | exact Kd.Q_nil _ _ _ _ _ | exact Kd.S_nil _ _ _ _ _⟩,⟨au0⟩⟩
 case round =>
  clear H'
  obtain ⟨x3_1,x4_1,rfl,HA,HK1,HO_3,HB⟩ := hrel
  cases gk with
  | zero => exact absurd HA.out (by simp [bodkinref01_Encode.l0])
  | succ k1 =>
   have H := HA.out
   clear HA
   simp only [bodkinref01_Encode.l0] at H
   by_cases c2 : x4_1 < (l0.length : Int)
   ·rw [if_pos c2] at H
    have c2b0 : decide (x4_1 < (l0.length : Int)) = true := decide_eq_true c2
    clear c2
    by_cases c3 : 0 ≤ x4_1
    ·rw [if_pos c3] at H
     have c3b0 : decide (0 ≤ x4_1) = true := decide_eq_true c3
     clear c3
     replace H := Option.bind_eq_some_iff.mp H
     obtain ⟨t495,A40,H⟩ := H
     replace H : (if t495 = true then ((bodkinref01_encoding.f k1 (rd l0 x4_1)).bind fun t497 => (if x3_1.length + t497.size < 140737488355328 then (bodkinref01_Encode.l0 k1 l0 (x3_1 ++ bytesOf t497) (wrap64 (x4_1 + 1))) else (none))) else (bodkinref01_Encode.l0 k1 l0 x3_1 (wrap64 (x4_1 + 1)))) = some r := H
     have A4 := Aside0.mk A40
     clear A40
     by_cases c5 : t495 = true
     ·subst c5
      have H1 : ((bodkinref01_encoding.f k1 (rd l0 x4_1)).bind fun t497 => (if x3_1.length + t497.size < 140737488355328 then (bodkinref01_Encode.l0 k1 l0 (x3_1 ++ bytesOf t497) (wrap64 (x4_1 + 1))) else (none))) = some r := by rw [if_pos rfl] at H;exact H
      clear H
      have H := H1
      clear H1
      replace H := Option.bind_eq_some_iff.mp H
      obtain ⟨t497,A60,H⟩ := H
      replace H : (if x3_1.length + t497.size < 140737488355328 then (bodkinref01_Encode.l0 k1 l0 (x3_1 ++ bytesOf t497) (wrap64 (x4_1 + 1))) else (none)) = some r := H
      have A6 := Aside0.mk A60
      clear A60
      by_cases c7 : x3_1.length + t497.size < 140737488355328
      ·rw [if_pos c7] at H
       have LMc7 := Aside0.mk c7
       clear c7
       obtain ⟨y498,hy498⟩ : ∃ y_ : List Int,y_ = (x3_1 ++ bytesOf t497) := ⟨_,rfl⟩
       replace H : (bodkinref01_Encode.l0 k1 l0 y498 (wrap64 (x4_1 + 1))) = some r := by first | (rw [hy498];with_reducible exact H) | (have H2_ := (Option.bind_some _ _).symm.trans H;rw [hy498];with_reducible exact H2_) | (have H2_ := (Option.bind_some _ _).symm.trans H;with_reducible exact H2_) | with_reducible exact H | (rw [hy498];exact H) | exact H
       have Ny498 := Aside0.mk hy498
       clear hy498
       have H' := Aside0.mk H
       clear H
       have p494 : 0 ≤ (x4_1 : Int) := of_decide_eq_true au4
       have q494 : x4_1 < (l0.length : Int) := of_decide_eq_true au4
       obtain ⟨ad494,e494,hx494_0⟩ := Kd.at_int HR0.out x4_1 p494 q494
       cases e494
       replace hx494_0 := (HB.out.cell (World.block_lt_of_cell? w _ hx494_0)).trans hx494_0
       replace p494 := eq_true p494
       replace q494 := eq_true q494
       go_wp2_with (first | ((with_reducible refine gate_callee (f := 84) rfl ?_);refine goesL_ (some 16) rfl rfl Tryd.func84 (by kernel_rfl) rfl #[.int .i32 (rd l0 x4_1)] rfl au1 ?_;(with_reducible refine (bodkinref01_scalar.calls (rd l0 x4_1) true _ A4.out).mono ?_);rintro e w' ⟨rfl,⟨nd,rfl⟩⟩;refine ⟨_,rfl,?_⟩;have p496 : 0 ≤ (x4_1 : Int) := of_decide_eq_true au4;have q496 : x4_1 < (l0.length : Int) := of_decide_eq_true au4;obtain ⟨ad496,e496,hx496_0⟩ := Kd.at_int HR0.out x4_1 p496 q496;obtain rfl : ad494 = ad496 := (by injection e496);replace hx496_0 := (HB.out.cell (World.block_lt_of_cell? w _ hx496_0)).trans hx496_0;replace p496 := eq_true p496;replace q496 := eq_true q496) | ((with_reducible refine gate_callee (f := 85) rfl ?_);refine goesL_ (some 21) rfl rfl Tryd.func85 (by kernel_rfl) rfl #[.int .i32 (rd l0 x4_1)] rfl au1 ?_;(with_reducible refine (bodkinref01_encoding.calls k1 (rd l0 x4_1) t497 _ A6.out).mono ?_);rintro e w8 ⟨rfl,hb⟩;refine ⟨_,rfl,?_⟩;have n0_ := Aside0.mk (Kd.R_below au5 hb);have n1_ := Aside0.mk (below_step au0 hb);clear HO_3;clear HB;have HO_3 := n0_;have HB := n1_;clear n0_ n1_;(try clear hb);(try clear hb2);(try clear hk);(try clear hi)) | (at_builtin;refine print_append_str (w0 := w) w.heap.size rfl (.tmp 22) _ 66 9 5 rfl Tryd.underlying66 Tryd.underlying9 info5 u3 x3_1 t497 rfl rfl ?aO ?aB ?aS ?aL ?_;(case aB => exact au0);(case aO => exact (Kd.own_of_R au5));(case aS => exact (below_size au0));(case aL => have := LMc7.out;omega);intro v499 w9 ho0 hb hg;have ho := Kd.R_of_own (h1 := fun _ => rfl) (ok := fun _ => True) ho0 (fun _ _ => trivial);clear ho0;have hat := True.intro;rw [← Ny498.out] at ho;change Kd.R (Kd.int .u8) 5 w9 w.heap.size (fun _ => True) v499 y498 at ho;have n0_ := Aside0.mk (hb);have n1_ := Aside0.mk (ho);clear HB;clear HO_3;have HB := n0_;have HO500 := n1_;clear n0_ n1_;clear ho hb hg hat))
       go_roundg k1
       case measure => have := HK1.out;omega
       case rel => exact ⟨(y498),(wrap64 (x4_1 + 1)),au3,H',⟨by have := HK1.out;omega⟩,⟨by (with_reducible repeat (first | apply Kd.R_alloc | apply Kd.R_drewN | apply Kd.R_drew));exact HO500.out⟩,⟨au0⟩⟩
      ·rw [if_neg c7] at H
       exact absurd H (by simp)
     ·replace c5 := Bool.eq_false_iff.mpr c5
      subst c5
      have H1 : (bodkinref01_Encode.l0 k1 l0 x3_1 (wrap64 (x4_1 + 1))) = some r := by rw [if_neg (show ¬ (false = true) by decide)] at H;exact H
      clear H
      have H := H1
      clear H1
      have H' := Aside0.mk H
      clear H
      have p494 : 0 ≤ (x4_1 : Int) := of_decide_eq_true au4
      have q494 : x4_1 < (l0.length : Int) := of_decide_eq_true au4
      obtain ⟨ad494,e494,hx494_0⟩ := Kd.at_int HR0.out x4_1 p494 q494
      cases e494
      replace hx494_0 := (HB.out.cell (World.block_lt_of_cell? w _ hx494_0)).trans hx494_0
      replace p494 := eq_true p494
      replace q494 := eq_true q494
      go_wp2_with (first | ((with_reducible refine gate_callee (f := 84) rfl ?_);refine goesL_ (some 16) rfl rfl Tryd.func84 (by kernel_rfl) rfl #[.int .i32 (rd l0 x4_1)] rfl au1 ?_;(with_reducible refine (bodkinref01_scalar.calls (rd l0 x4_1) false _ A4.out).mono ?_);rintro e w' ⟨rfl,⟨nd,rfl⟩⟩;refine ⟨_,rfl,?_⟩))
      go_roundg k1
      case measure => have := HK1.out;omega
      case rel => exact ⟨(x3_1),(wrap64 (x4_1 + 1)),au3,H',⟨by have := HK1.out;omega⟩,⟨by (with_reducible repeat (first | apply Kd.R_alloc | apply Kd.R_drewN | apply Kd.R_drew));exact HO_3.out⟩,⟨au0⟩⟩
    ·rw [if_neg c3] at H
     exact absurd H (by simp)
   ·rw [if_neg c2] at H
    have c2b0 : decide (x4_1 < (l0.length : Int)) = false := decide_eq_false c2
    clear c2
    obtain rfl := Option.some.inj H
    have hcv10 := own_string (P := Tryd.prog) Tryd.underlying66 Tryd.underlying5 Tryd.underlying9 (Kd.own_of_R HO_3.out)
    go_wp2
    go_ret
    exact ⟨au2,au0⟩
def bodkinref05_formed.l0 : Nat → ByteArray → Bool → List (S42) → ByteArray → Int → Int → Option (ByteArray)
 | 0,_,_,_,_,_,_ => none
 | k + 1,x0,x1,x5,x6,x7,x8 => if x8 < (x5.length : Int) then (if 0 ≤ x8 then (if ((rd_T42 x5 x8).f0) < 0 then (if 0 ≤ x7 then (if x7 ≤ (wrap64 (x7 + 1)) then (if (wrap64 (x7 + 1)) ≤ (x0.size : Int) then (if x6.size + (x0.extract (x7 : Int).toNat ((wrap64 (x7 + 1)) : Int).toNat).size ≤ 9223372036854775807 then (bodkinref05_formed.l0 k x0 x1 x5 (x6 ++ (x0.extract (x7 : Int).toNat ((wrap64 (x7 + 1)) : Int).toNat)) (wrap64 (x7 + ((rd_T42 x5 x8).f1))) (wrap64 (x8 + 1))) else (none)) else (none)) else (none)) else (none)) else (if x1 = true then ((bodkinref05_UpperOf.f k ((rd_T42 x5 x8).f0)).bind fun t506 => ((bodkinref01_Encode.f k (([t506] : List Int))).bind fun t510 => (if x6.size + t510.size ≤ 9223372036854775807 then (bodkinref05_formed.l0 k x0 x1 x5 (x6 ++ t510) (wrap64 (x7 + ((rd_T42 x5 x8).f1))) (wrap64 (x8 + 1))) else (none)))) else ((bodkinref05_LowerOf.f k ((rd_T42 x5 x8).f0)).bind fun t512 => ((bodkinref01_Encode.f k (([t512] : List Int))).bind fun t516 => (if x6.size + t516.size ≤ 9223372036854775807 then (bodkinref05_formed.l0 k x0 x1 x5 (x6 ++ t516) (wrap64 (x7 + ((rd_T42 x5 x8).f1))) (wrap64 (x8 + 1))) else (none)))))) else (none)) else (some x6)
def bodkinref05_formed.f (k : Nat) (a0 : ByteArray) (a1 : Bool) : Option (ByteArray) := (bodkinref01_Units.f k a0).bind fun t501 => (bodkinref05_formed.l0 k a0 a1 t501 (⟨#[]⟩ : ByteArray) 0 0)
set_option maxHeartbeats 8000000 in
set_option maxRecDepth 100000 in
theorem bodkinref05_formed.calls (k : Nat) (a0 : ByteArray) (a1 : Bool) (r : ByteArray) (w : World) (h : bodkinref05_formed.f k a0 a1 = some r) :
  Calls Tryd.prog 56 #[.string a0,.bool a1] w fun e w' => e = .returned (.string r) ∧ Below w.heap.size w w' := by
 have HB := Aside0.mk (Below.refl w.heap.size w)
 have H : ((bodkinref01_Units.f k a0).bind fun t501 => (bodkinref05_formed.l0 k a0 a1 t501 (⟨#[]⟩ : ByteArray) 0 0)) = some r := h
 clear h
 replace H := Option.bind_eq_some_iff.mp H
 obtain ⟨t501,A30,H⟩ := H
 replace H : (bodkinref05_formed.l0 k a0 a1 t501 (⟨#[]⟩ : ByteArray) 0 0) = some r := H
 have A3 := Aside0.mk A30
 clear A30
 have H' := Aside0.mk H
 clear H
 go_enter Tryd.func56,Tryd.ntmps56
 go_wp2_with (first | ((with_reducible refine gate_callee (f := 66) rfl ?_);refine goesL_ (some 11) rfl rfl Tryd.func66 (by kernel_rfl) rfl #[.string a0] rfl au1 ?_;(with_reducible refine (bodkinref01_Units.calls k a0 t501 _ A3.out).mono ?_);rintro e w4 ⟨v502,rfl,ho0,hb⟩;refine ⟨_,rfl,?_⟩;have n0_ := Aside0.mk (Kd.R_lower ho0 (below_size au0));have n1_ := Aside0.mk (below_step au0 hb);clear HB;have HO503 := n0_;have HB := n1_;clear n0_ n1_;(try clear hb);(try clear hb2);(try clear hk);(try clear hi);(try clear ho0)))
 go_loopg [6,7,8] k (fun kq v6 v7 v8 w' => ∃ (x6_1 : ByteArray) (x7_1 : Int) (x8_1 : Int),v6 = .string x6_1 ∧ v7 = .int .i64 x7_1 ∧ v8 = .int .i64 x8_1 ∧ Aside0 (bodkinref05_formed.l0 kq a0 a1 t501 x6_1 x7_1 x8_1 = some r) ∧ Aside0 (kq ≤ k) ∧ Aside0 (Kd.R k42 42 w' w.heap.size (fun _ => True) v502 t501) ∧ Aside0 (Below w.heap.size w w'))
 case atStart => exact ⟨((⟨#[]⟩ : ByteArray)),(0),(0),au3,au3,au3,H',⟨Nat.le_refl _⟩,⟨by (with_reducible repeat (first | apply Kd.R_alloc | apply Kd.R_drewN | apply Kd.R_drew));exact HO503.out⟩,⟨au0⟩⟩
 case round =>
  clear H'
  try clear p2
  obtain ⟨x6_1,x7_1,x8_1,rfl,rfl,rfl,HA,HK1,HO_5,HB⟩ := hrel
  cases gk with
  | zero => exact absurd HA.out (by simp [bodkinref05_formed.l0])
  | succ k1 =>
   have H := HA.out
   clear HA
   simp only [bodkinref05_formed.l0] at H
   by_cases c5 : x8_1 < (t501.length : Int)
   ·rw [if_pos c5] at H
    have c5b0 : decide (x8_1 < (t501.length : Int)) = true := decide_eq_true c5
    clear c5
    by_cases c6 : 0 ≤ x8_1
    ·rw [if_pos c6] at H
     have c6b0 : decide (0 ≤ x8_1) = true := decide_eq_true c6
     clear c6
     by_cases c7 : ((rd_T42 t501 x8_1).f0) < 0
     ·rw [if_pos c7] at H
      have c7b0 : decide (((rd_T42 t501 x8_1).f0) < 0) = true := decide_eq_true c7
      clear c7
      by_cases c8 : 0 ≤ x7_1
      ·rw [if_pos c8] at H
       have c8b0 := eq_true c8
       have c8b1 : decide (0 ≤ x7_1) = true := decide_eq_true c8
       clear c8
       by_cases c9 : x7_1 ≤ (wrap64 (x7_1 + 1))
       ·rw [if_pos c9] at H
        have c9b0 := eq_true c9
        have c9b1 : decide (x7_1 ≤ (wrap64 (x7_1 + 1))) = true := decide_eq_true c9
        by_cases c10 : (wrap64 (x7_1 + 1)) ≤ (a0.size : Int)
        ·rw [if_pos c10] at H
         have c10b0 := eq_true c10
         have c10b1 : decide ((wrap64 (x7_1 + 1)) ≤ (a0.size : Int)) = true := decide_eq_true c10
         by_cases c11 : x6_1.size + (a0.extract (x7_1 : Int).toNat ((wrap64 (x7_1 + 1)) : Int).toNat).size ≤ 9223372036854775807
         ·rw [if_pos c11] at H
          have c11b0 := eq_true c11
          have c11b1 : decide (x6_1.size + (a0.extract (x7_1 : Int).toNat ((wrap64 (x7_1 + 1)) : Int).toNat).size ≤ 9223372036854775807) = true := decide_eq_true c11
          try have c11b2 : (9223372036854775807 < x6_1.size + (a0.extract (x7_1 : Int).toNat ((wrap64 (x7_1 + 1)) : Int).toNat).size) = False := eq_false (Nat.not_lt.2 c11)
          have H' := Aside0.mk H
          clear H
          obtain ⟨Ao12,co12,eo12⟩ := Kd.R_slice HO_5.out
          subst eo12
          have p504 : 0 ≤ (x8_1 : Int) := of_decide_eq_true au4
          have q504 : x8_1 < (t501.length : Int) := of_decide_eq_true au4
          obtain ⟨ad504,e504,hx504_0,hx504_1⟩ := at_T42 (Kd.R_reads' HO_5.out).2.2 x8_1 p504 q504
          cases e504
          replace p504 := eq_true p504
          replace q504 := eq_true q504
          have p505 : 0 ≤ (x8_1 : Int) := of_decide_eq_true au4
          have q505 : x8_1 < (t501.length : Int) := of_decide_eq_true au4
          obtain ⟨ad505,e505,hx505_0,hx505_1⟩ := at_T42 (Kd.R_reads' HO_5.out).2.2 x8_1 p505 q505
          obtain rfl : ad504 = ad505 := (by injection e505)
          replace p505 := eq_true p505
          replace q505 := eq_true q505
          go_wp2
          go_roundg k1
          case measure => have := HK1.out;omega
          case rel => exact ⟨(x6_1 ++ (a0.extract (x7_1 : Int).toNat ((wrap64 (x7_1 + 1)) : Int).toNat)),(wrap64 (x7_1 + ((rd_T42 t501 x8_1).f1))),(wrap64 (x8_1 + 1)),au3,au3,au3,H',⟨by have := HK1.out;omega⟩,⟨by (with_reducible repeat (first | apply Kd.R_alloc | apply Kd.R_drewN | apply Kd.R_drew));exact HO_5.out⟩,⟨au0⟩⟩
         ·rw [if_neg c11] at H
          exact absurd H (by simp)
        ·rw [if_neg c10] at H
         exact absurd H (by simp)
       ·rw [if_neg c9] at H
        exact absurd H (by simp)
      ·rw [if_neg c8] at H
       exact absurd H (by simp)
     ·rw [if_neg c7] at H
      have c7b0 : decide (((rd_T42 t501 x8_1).f0) < 0) = false := decide_eq_false c7
      clear c7
      by_cases c13 : a1 = true
      ·subst c13
       have H1 : ((bodkinref05_UpperOf.f k1 ((rd_T42 t501 x8_1).f0)).bind fun t506 => ((bodkinref01_Encode.f k1 (([t506] : List Int))).bind fun t510 => (if x6_1.size + t510.size ≤ 9223372036854775807 then (bodkinref05_formed.l0 k1 a0 true t501 (x6_1 ++ t510) (wrap64 (x7_1 + ((rd_T42 t501 x8_1).f1))) (wrap64 (x8_1 + 1))) else (none)))) = some r := by rw [if_pos rfl] at H;exact H
       clear H
       have H := H1
       clear H1
       replace H := Option.bind_eq_some_iff.mp H
       obtain ⟨t506,A140,H⟩ := H
       replace H : ((bodkinref01_Encode.f k1 (([t506] : List Int))).bind fun t510 => (if x6_1.size + t510.size ≤ 9223372036854775807 then (bodkinref05_formed.l0 k1 a0 true t501 (x6_1 ++ t510) (wrap64 (x7_1 + ((rd_T42 t501 x8_1).f1))) (wrap64 (x8_1 + 1))) else (none))) = some r := H
       have A14 := Aside0.mk A140
       clear A140
       obtain ⟨y507,hy507⟩ : ∃ y_ : List Int,y_ = (([t506] : List Int)) := ⟨_,rfl⟩
       replace H : ((bodkinref01_Encode.f k1 y507).bind fun t510 => (if x6_1.size + t510.size ≤ 9223372036854775807 then (bodkinref05_formed.l0 k1 a0 true t501 (x6_1 ++ t510) (wrap64 (x7_1 + ((rd_T42 t501 x8_1).f1))) (wrap64 (x8_1 + 1))) else (none))) = some r := by first | (rw [hy507];with_reducible exact H) | (have H2_ := (Option.bind_some _ _).symm.trans H;rw [hy507];with_reducible exact H2_) | (have H2_ := (Option.bind_some _ _).symm.trans H;with_reducible exact H2_) | with_reducible exact H | (rw [hy507];exact H) | exact H
       have Ny507 := Aside0.mk hy507
       clear hy507
       replace H := Option.bind_eq_some_iff.mp H
       obtain ⟨t510,A150,H⟩ := H
       replace H : (if x6_1.size + t510.size ≤ 9223372036854775807 then (bodkinref05_formed.l0 k1 a0 true t501 (x6_1 ++ t510) (wrap64 (x7_1 + ((rd_T42 t501 x8_1).f1))) (wrap64 (x8_1 + 1))) else (none)) = some r := H
       have A15 := Aside0.mk A150
       clear A150
       by_cases c16 : x6_1.size + t510.size ≤ 9223372036854775807
       ·rw [if_pos c16] at H
        have c16b0 := eq_true c16
        have c16b1 : decide (x6_1.size + t510.size ≤ 9223372036854775807) = true := decide_eq_true c16
        try have c16b2 : (9223372036854775807 < x6_1.size + t510.size) = False := eq_false (Nat.not_lt.2 c16)
        have H' := Aside0.mk H
        clear H
        obtain ⟨Ao17,co17,eo17⟩ := Kd.R_slice HO_5.out
        subst eo17
        have p504 : 0 ≤ (x8_1 : Int) := of_decide_eq_true au4
        have q504 : x8_1 < (t501.length : Int) := of_decide_eq_true au4
        obtain ⟨ad504,e504,hx504_0,hx504_1⟩ := at_T42 (Kd.R_reads' HO_5.out).2.2 x8_1 p504 q504
        cases e504
        replace p504 := eq_true p504
        replace q504 := eq_true q504
        go_wp2_with (first | ((with_reducible refine gate_callee (f := 16) rfl ?_);refine goesL_ (some 43) rfl rfl Tryd.func16 (by kernel_rfl) rfl #[.int .i32 ((rd_T42 t501 x8_1).f0)] rfl au1 ?_;(with_reducible refine (bodkinref05_UpperOf.calls k1 ((rd_T42 t501 x8_1).f0) t506 _ A14.out).mono ?_);rintro e w18 ⟨rfl,hb⟩;refine ⟨_,rfl,?_⟩;have n0_ := Aside0.mk (Kd.R_below au32 hb);have n1_ := Aside0.mk (below_step au0 hb);clear HO_5;clear HB;have HO_5 := n0_;have HB := n1_;clear n0_ n1_;(try clear hb);(try clear hb2);(try clear hk);(try clear hi)) | ((with_reducible refine gate_dst (N := 44) rfl ?_);refine Kd.R_lit (Kd.int .i32) _ 21 ?hg (N := 44) ?hd (xs := ([t506] : List Int)) (inner := [.int .i32 t506]) (ok := fun _ => True) (okp := fun _ => True) ?hr ?hp (fun _ hk => hk) trivial (Below.refl _ _) (Nat.le_refl _) (by simp) ?_;(case hd => rfl);(case hg => rfl);(case hr => first | (go_simp;done) | (go_simp;rfl));(case hp => exact (Reps.one (show Kd.M (Kd.int .i32) _ _ _ t506 [.int .i32 t506] from rfl) (Reps.none _ _)));intro v508 w19 ho20 hb hg_ hnew_;clear hg_ hnew_;(first | rw [← Ny507.out] at ho20 | (simp only [Int.reduceToNat] at ho20;rw [← Ny507.out] at ho20));have n0_ := Aside0.mk (Kd.R_below au32 hb);have n1_ := Aside0.mk (Kd.R_lower ho20 (below_size au0));have n2_ := Aside0.mk (below_step au0 hb);clear HO_5;clear HB;have HO_5 := n0_;have HO509 := n1_;have HB := n2_;clear n0_ n1_ n2_;clear hb ho20;obtain ⟨Ao21,co21,eo21⟩ := Kd.R_slice HO509.out;subst eo21) | ((with_reducible refine gate_callee (f := 75) rfl ?_);refine goesL_ (some 45) rfl rfl Tryd.func75 (by kernel_rfl) rfl #[.slice Ao21 y507.length co21] rfl au1 ?_;(with_reducible refine (bodkinref01_Encode.calls k1 _ _ y507 t510 _ ?side1 ?side2 A15.out).mono ?_);(case side1 => repeat (first | exact (Kd.R_reads' HO509.out).2.2 | (with_reducible refine Kd.C_alloc ?_ _) | (with_reducible refine Kd.C_drewN ?_ _) | (with_reducible refine Kd.C_drew ?_)));(case side2 => exact (Kd.R_reads' HO509.out).2.1);rintro e w22 ⟨rfl,hb⟩;refine ⟨_,rfl,?_⟩;have n0_ := Aside0.mk (Kd.R_below au32 hb);have n1_ := Aside0.mk (Kd.R_below (by (with_reducible repeat (first | apply Kd.R_alloc | apply Kd.R_drewN | apply Kd.R_drew));exact HO509.out) hb);have n2_ := Aside0.mk (below_step au0 hb);clear HO_5;clear HO509;clear HB;have HO_5 := n0_;have HO509 := n1_;have HB := n2_;clear n0_ n1_ n2_;(try clear hb);(try clear hb2);(try clear hk);(try clear hi);have p511 : 0 ≤ (x8_1 : Int) := of_decide_eq_true au4;have q511 : x8_1 < (t501.length : Int) := of_decide_eq_true au4;obtain ⟨ad511,e511,hx511_0,hx511_1⟩ := at_T42 (Kd.R_reads' HO_5.out).2.2 x8_1 p511 q511;obtain rfl : ad504 = ad511 := (by injection e511);replace p511 := eq_true p511;replace q511 := eq_true q511))
        go_roundg k1
        case measure => have := HK1.out;omega
        case rel => exact ⟨(x6_1 ++ t510),(wrap64 (x7_1 + ((rd_T42 t501 x8_1).f1))),(wrap64 (x8_1 + 1)),au3,au3,au3,H',⟨by have := HK1.out;omega⟩,⟨by (with_reducible repeat (first | apply Kd.R_alloc | apply Kd.R_drewN | apply Kd.R_drew));exact HO_5.out⟩,⟨au0⟩⟩
       ·rw [if_neg c16] at H
        exact absurd H (by simp)
      ·replace c13 := Bool.eq_false_iff.mpr c13
       subst c13
       have H1 : ((bodkinref05_LowerOf.f k1 ((rd_T42 t501 x8_1).f0)).bind fun t512 => ((bodkinref01_Encode.f k1 (([t512] : List Int))).bind fun t516 => (if x6_1.size + t516.size ≤ 9223372036854775807 then (bodkinref05_formed.l0 k1 a0 false t501 (x6_1 ++ t516) (wrap64 (x7_1 + ((rd_T42 t501 x8_1).f1))) (wrap64 (x8_1 + 1))) else (none)))) = some r := by rw [if_neg (show ¬ (false = true) by decide)] at H;exact H
       clear H
       have H := H1
       clear H1
       replace H := Option.bind_eq_some_iff.mp H
       obtain ⟨t512,A230,H⟩ := H
       replace H : ((bodkinref01_Encode.f k1 (([t512] : List Int))).bind fun t516 => (if x6_1.size + t516.size ≤ 9223372036854775807 then (bodkinref05_formed.l0 k1 a0 false t501 (x6_1 ++ t516) (wrap64 (x7_1 + ((rd_T42 t501 x8_1).f1))) (wrap64 (x8_1 + 1))) else (none))) = some r := H
       have A23 := Aside0.mk A230
       clear A230
       obtain ⟨y513,hy513⟩ : ∃ y_ : List Int,y_ = (([t512] : List Int)) := ⟨_,rfl⟩
       replace H : ((bodkinref01_Encode.f k1 y513).bind fun t516 => (if x6_1.size + t516.size ≤ 9223372036854775807 then (bodkinref05_formed.l0 k1 a0 false t501 (x6_1 ++ t516) (wrap64 (x7_1 + ((rd_T42 t501 x8_1).f1))) (wrap64 (x8_1 + 1))) else (none))) = some r := by first | (rw [hy513];with_reducible exact H) | (have H2_ := (Option.bind_some _ _).symm.trans H;rw [hy513];with_reducible exact H2_) | (have H2_ := (Option.bind_some _ _).symm.trans H;with_reducible exact H2_) | with_reducible exact H | (rw [hy513];exact H) | exact H
       have Ny513 := Aside0.mk hy513
       clear hy513
       replace H := Option.bind_eq_some_iff.mp H
       obtain ⟨t516,A240,H⟩ := H
       replace H : (if x6_1.size + t516.size ≤ 9223372036854775807 then (bodkinref05_formed.l0 k1 a0 false t501 (x6_1 ++ t516) (wrap64 (x7_1 + ((rd_T42 t501 x8_1).f1))) (wrap64 (x8_1 + 1))) else (none)) = some r := H
       have A24 := Aside0.mk A240
       clear A240
       by_cases c25 : x6_1.size + t516.size ≤ 9223372036854775807
       ·rw [if_pos c25] at H
        have c25b0 := eq_true c25
        have c25b1 : decide (x6_1.size + t516.size ≤ 9223372036854775807) = true := decide_eq_true c25
        try have c25b2 : (9223372036854775807 < x6_1.size + t516.size) = False := eq_false (Nat.not_lt.2 c25)
        have H' := Aside0.mk H
        clear H
        obtain ⟨Ao26,co26,eo26⟩ := Kd.R_slice HO_5.out
        subst eo26
        have p504 : 0 ≤ (x8_1 : Int) := of_decide_eq_true au4
        have q504 : x8_1 < (t501.length : Int) := of_decide_eq_true au4
        obtain ⟨ad504,e504,hx504_0,hx504_1⟩ := at_T42 (Kd.R_reads' HO_5.out).2.2 x8_1 p504 q504
        cases e504
        replace p504 := eq_true p504
        replace q504 := eq_true q504
        go_wp2_with (first | ((with_reducible refine gate_callee (f := 18) rfl ?_);refine goesL_ (some 25) rfl rfl Tryd.func18 (by kernel_rfl) rfl #[.int .i32 ((rd_T42 t501 x8_1).f0)] rfl au1 ?_;(with_reducible refine (bodkinref05_LowerOf.calls k1 ((rd_T42 t501 x8_1).f0) t512 _ A23.out).mono ?_);rintro e w27 ⟨rfl,hb⟩;refine ⟨_,rfl,?_⟩;have n0_ := Aside0.mk (Kd.R_below au32 hb);have n1_ := Aside0.mk (below_step au0 hb);clear HO_5;clear HB;have HO_5 := n0_;have HB := n1_;clear n0_ n1_;(try clear hb);(try clear hb2);(try clear hk);(try clear hi)) | ((with_reducible refine gate_dst (N := 26) rfl ?_);refine Kd.R_lit (Kd.int .i32) _ 21 ?hg (N := 26) ?hd (xs := ([t512] : List Int)) (inner := [.int .i32 t512]) (ok := fun _ => True) (okp := fun _ => True) ?hr ?hp (fun _ hk => hk) trivial (Below.refl _ _) (Nat.le_refl _) (by simp) ?_;(case hd => rfl);(case hg => rfl);(case hr => first | (go_simp;done) | (go_simp;rfl));(case hp => exact (Reps.one (show Kd.M (Kd.int .i32) _ _ _ t512 [.int .i32 t512] from rfl) (Reps.none _ _)));intro v514 w28 ho29 hb hg_ hnew_;clear hg_ hnew_;(first | rw [← Ny513.out] at ho29 | (simp only [Int.reduceToNat] at ho29;rw [← Ny513.out] at ho29));have n0_ := Aside0.mk (Kd.R_below au32 hb);have n1_ := Aside0.mk (Kd.R_lower ho29 (below_size au0));have n2_ := Aside0.mk (below_step au0 hb);clear HO_5;clear HB;have HO_5 := n0_;have HO515 := n1_;have HB := n2_;clear n0_ n1_ n2_;clear hb ho29;obtain ⟨Ao30,co30,eo30⟩ := Kd.R_slice HO515.out;subst eo30) | ((with_reducible refine gate_callee (f := 75) rfl ?_);refine goesL_ (some 27) rfl rfl Tryd.func75 (by kernel_rfl) rfl #[.slice Ao30 y513.length co30] rfl au1 ?_;(with_reducible refine (bodkinref01_Encode.calls k1 _ _ y513 t516 _ ?side1 ?side2 A24.out).mono ?_);(case side1 => repeat (first | exact (Kd.R_reads' HO515.out).2.2 | (with_reducible refine Kd.C_alloc ?_ _) | (with_reducible refine Kd.C_drewN ?_ _) | (with_reducible refine Kd.C_drew ?_)));(case side2 => exact (Kd.R_reads' HO515.out).2.1);rintro e w31 ⟨rfl,hb⟩;refine ⟨_,rfl,?_⟩;have n0_ := Aside0.mk (Kd.R_below au32 hb);have n1_ := Aside0.mk (Kd.R_below (by (with_reducible repeat (first | apply Kd.R_alloc | apply Kd.R_drewN | apply Kd.R_drew));exact HO515.out) hb);have n2_ := Aside0.mk (below_step au0 hb);clear HO_5;clear HO515;clear HB;have HO_5 := n0_;have HO515 := n1_;have HB := n2_;clear n0_ n1_ n2_;(try clear hb);(try clear hb2);(try clear hk);(try clear hi);have p517 : 0 ≤ (x8_1 : Int) := of_decide_eq_true au4;have q517 : x8_1 < (t501.length : Int) := of_decide_eq_true au4;obtain ⟨ad517,e517,hx517_0,hx517_1⟩ := at_T42 (Kd.R_reads' HO_5.out).2.2 x8_1 p517 q517;obtain rfl : ad504 = ad517 := (by injection e517);replace p517 := eq_true p517;replace q517 := eq_true q517))
        go_roundg k1
        case measure => have := HK1.out;omega
        case rel => exact ⟨(x6_1 ++ t516),(wrap64 (x7_1 + ((rd_T42 t501 x8_1).f1))),(wrap64 (x8_1 + 1)),au3,au3,au3,H',⟨by have := HK1.out;omega⟩,⟨by (with_reducible repeat (first | apply Kd.R_alloc | apply Kd.R_drewN | apply Kd.R_drew));exact HO_5.out⟩,⟨au0⟩⟩
       ·rw [if_neg c25] at H
        exact absurd H (by simp)
    ·rw [if_neg c6] at H
     exact absurd H (by simp)
   ·rw [if_neg c5] at H
    have c5b0 : decide (x8_1 < (t501.length : Int)) = false := decide_eq_false c5
    clear c5
    obtain rfl := Option.some.inj H
    obtain ⟨Ao32,co32,eo32⟩ := Kd.R_slice HO_5.out
    subst eo32
    go_wp2
    go_ret
    exact ⟨au2,au0⟩
def bodkinref05_Upper.f (k : Nat) (a0 : ByteArray) : Option (ByteArray) := (bodkinref05_formed.f k a0 true).bind fun t518 => (some t518)
set_option maxHeartbeats 8000000 in
set_option maxRecDepth 100000 in
theorem bodkinref05_Upper.calls (k : Nat) (a0 : ByteArray) (r : ByteArray) (w : World) (h : bodkinref05_Upper.f k a0 = some r) :
  Calls Tryd.prog 31 #[.string a0] w fun e w' => e = .returned (.string r) ∧ Below w.heap.size w w' := by
 have HB := Aside0.mk (Below.refl w.heap.size w)
 have H : ((bodkinref05_formed.f k a0 true).bind fun t518 => (some t518)) = some r := h
 clear h
 replace H := Option.bind_eq_some_iff.mp H
 obtain ⟨t518,A20,H⟩ := H
 replace H : (some t518) = some r := H
 have A2 := Aside0.mk A20
 clear A20
 obtain rfl := Option.some.inj H
 go_enter Tryd.func31,Tryd.ntmps31
 go_wp2_with (first | ((with_reducible refine gate_callee (f := 56) rfl ?_);refine goesL_ (some 4) rfl rfl Tryd.func56 (by kernel_rfl) rfl #[.string a0,.bool true] rfl au1 ?_;(with_reducible refine (bodkinref05_formed.calls k a0 true t518 _ A2.out).mono ?_);rintro e w3 ⟨rfl,hb⟩;refine ⟨_,rfl,?_⟩;have n0_ := Aside0.mk (below_step au0 hb);clear HB;have HB := n0_;clear n0_;(try clear hb);(try clear hb2);(try clear hk);(try clear hi)))
 go_ret
 exact ⟨au2,au0⟩
def bodkinref05_Lower.f (k : Nat) (a0 : ByteArray) : Option (ByteArray) := (bodkinref05_formed.f k a0 false).bind fun t519 => (some t519)
set_option maxHeartbeats 8000000 in
set_option maxRecDepth 100000 in
theorem bodkinref05_Lower.calls (k : Nat) (a0 : ByteArray) (r : ByteArray) (w : World) (h : bodkinref05_Lower.f k a0 = some r) :
  Calls Tryd.prog 33 #[.string a0] w fun e w' => e = .returned (.string r) ∧ Below w.heap.size w w' := by
 have HB := Aside0.mk (Below.refl w.heap.size w)
 have H : ((bodkinref05_formed.f k a0 false).bind fun t519 => (some t519)) = some r := h
 clear h
 replace H := Option.bind_eq_some_iff.mp H
 obtain ⟨t519,A20,H⟩ := H
 replace H : (some t519) = some r := H
 have A2 := Aside0.mk A20
 clear A20
 obtain rfl := Option.some.inj H
 go_enter Tryd.func33,Tryd.ntmps33
 go_wp2_with (first | ((with_reducible refine gate_callee (f := 56) rfl ?_);refine goesL_ (some 4) rfl rfl Tryd.func56 (by kernel_rfl) rfl #[.string a0,.bool false] rfl au1 ?_;(with_reducible refine (bodkinref05_formed.calls k a0 false t519 _ A2.out).mono ?_);rintro e w3 ⟨rfl,hb⟩;refine ⟨_,rfl,?_⟩;have n0_ := Aside0.mk (below_step au0 hb);clear HB;have HB := n0_;clear n0_;(try clear hb);(try clear hb2);(try clear hk);(try clear hi)))
 go_ret
 exact ⟨au2,au0⟩
end Go.Proofs.YtkficbgnjpekaaaDoor.U
end
