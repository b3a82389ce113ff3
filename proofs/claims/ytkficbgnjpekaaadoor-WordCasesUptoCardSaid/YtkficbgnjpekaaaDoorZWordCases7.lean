/- What the law WordCases reaches of this seat's own texts, merged; what nothing uses is left out. -/
import Derived.Test.YtkficbgnjpekaaaDoorZWordCases0
import Derived.Test.YtkficbgnjpekaaaDoorZWordCases4
import Derived.Test.YtkficbgnjpekaaaDoorZWordCases5
import Derived.Test.YtkficbgnjpekaaaDoorZWordCases6
section
namespace Go.Proofs.YtkficbgnjpekaaaDoor.U
open Go.RowKit Go.Proofs.YtkficbgnjpekaaaDoorW.PrintWords Go.Proofs.YtkficbgnjpekaaaDoorW.PrintLast Go.Proofs.YtkficbgnjpekaaaDoorW.PrintMore
attribute [local go_sem] max2_int min2_int max_two min_two max_three min_three max_four min_four   -- for this text's walks alone
set_option linter.unusedVariables false
set_option linter.unusedSimpArgs false
def bodkinref05_Capital.l0 : Nat → ByteArray → ByteArray → List (S32) → Int → Option (ByteArray)
 | 0,_,_,_,_ => none
 | k + 1,x0,x3,x4,x5 => if x5 < (x4.length : Int) then (if 0 ≤ x5 then ((bodkinref01_At.f k x0 ((rd_T32 x4 x5).f0)).bind fun bt525 => (if 0 ≤ ((rd_T32 x4 x5).f0) then (if ((rd_T32 x4 x5).f0) ≤ (x3.size : Int) then (if ((rd_T32 x4 x5).f0) ≤ (wrap64 (((rd_T32 x4 x5).f0) + bt525.2.1)) then (if (wrap64 (((rd_T32 x4 x5).f0) + bt525.2.1)) ≤ (x0.size : Int) then ((bodkinref05_Upper.f k (x0.extract (((rd_T32 x4 x5).f0) : Int).toNat ((wrap64 (((rd_T32 x4 x5).f0) + bt525.2.1)) : Int).toNat)).bind fun t530 => (if (x3.extract 0 (((rd_T32 x4 x5).f0) : Int).toNat).size + t530.size ≤ 9223372036854775807 then (if 0 ≤ (wrap64 (((rd_T32 x4 x5).f0) + bt525.2.1)) then (if (wrap64 (((rd_T32 x4 x5).f0) + bt525.2.1)) ≤ (x3.size : Int) then (if ((x3.extract 0 (((rd_T32 x4 x5).f0) : Int).toNat) ++ t530).size + (x3.extract ((wrap64 (((rd_T32 x4 x5).f0) + bt525.2.1)) : Int).toNat x3.size).size ≤ 9223372036854775807 then (bodkinref05_Capital.l0 k x0 (((x3.extract 0 (((rd_T32 x4 x5).f0) : Int).toNat) ++ t530) ++ (x3.extract ((wrap64 (((rd_T32 x4 x5).f0) + bt525.2.1)) : Int).toNat x3.size)) x4 (wrap64 (x5 + 1))) else (none)) else (none)) else (none)) else (none))) else (none)) else (none)) else (none)) else (none))) else (none)) else (some x3)
def bodkinref05_Capital.f (k : Nat) (a0 : ByteArray) : Option (ByteArray) := (bodkinref05_Lower.f k a0).bind fun t520 => ((bodkinref05_Spans.f k a0).bind fun t521 => (bodkinref05_Capital.l0 k a0 t520 t521 0))
def bodkinref05_Capital.T8 : Bool × List (List Nat × List Nat) := (true,[([],[]),([],[]),([0,1],[0,1]),([],[]),([],[]),([],[]),([],[]),([6],[6]),([5,7],[5,7]),([3,4,8],[3,4,8]),([9],[9]),([2,10],[2,10]),([],[]),([],[]),([],[]),([14],[14]),([13,15],[13,15]),([12,16],[12,16]),([11,17],[11,17]),([18,10,0,1,2,3,4,5,6,7,8,9,10,11,12,13,14,15,16,17,18],[0,12,18])])
def bodkinref05_Capital.B8 : List Nat := [0,0,3,0,0,0,0,64,224,504,1016,2047,0,0,0,16384,57344,126976,262143,524287]
theorem bodkinref05_Capital.tab8 : rtab .any (opsOf Tryd.f35 8) = bodkinref05_Capital.T8 := by kernel_rfl
theorem bodkinref05_Capital.bits8 : waitsOk bodkinref05_Capital.T8.2 bodkinref05_Capital.B8 = true := by kernel_rfl
set_option maxHeartbeats 8000000 in
set_option maxRecDepth 100000 in
theorem bodkinref05_Capital.calls (k : Nat) (a0 : ByteArray) (r : ByteArray) (w : World) (h : bodkinref05_Capital.f k a0 = some r) :
  Calls Tryd.prog 35 #[.string a0] w fun e w' => e = .returned (.string r) ∧ Below w.heap.size w w' := by
 have hu42 := Tryd.underlying42
 have HB := Aside0.mk (Below.refl w.heap.size w)
 have H : ((bodkinref05_Lower.f k a0).bind fun t520 => ((bodkinref05_Spans.f k a0).bind fun t521 => (bodkinref05_Capital.l0 k a0 t520 t521 0))) = some r := h
 clear h
 replace H := Option.bind_eq_some_iff.mp H
 obtain ⟨t520,A20,H⟩ := H
 replace H : ((bodkinref05_Spans.f k a0).bind fun t521 => (bodkinref05_Capital.l0 k a0 t520 t521 0)) = some r := H
 have A2 := Aside0.mk A20
 clear A20
 replace H := Option.bind_eq_some_iff.mp H
 obtain ⟨t521,A30,H⟩ := H
 replace H : (bodkinref05_Capital.l0 k a0 t520 t521 0) = some r := H
 have A3 := Aside0.mk A30
 clear A30
 have H' := Aside0.mk H
 clear H
 go_enter Tryd.func35,Tryd.ntmps35
 go_wp2_with (first | ((with_reducible refine gate_callee (f := 33) rfl ?_);refine goesL_ (some 10) rfl rfl Tryd.func33 (by kernel_rfl) rfl #[.string a0] rfl au1 ?_;(with_reducible refine (bodkinref05_Lower.calls k a0 t520 _ A2.out).mono ?_);rintro e w4 ⟨rfl,hb⟩;refine ⟨_,rfl,?_⟩;have n0_ := Aside0.mk (below_step au0 hb);clear HB;have HB := n0_;clear n0_;(try clear hb);(try clear hb2);(try clear hk);(try clear hi)) | ((with_reducible refine gate_callee (f := 19) rfl ?_);refine goesL_ (some 12) rfl rfl Tryd.func19 (by kernel_rfl) rfl #[.string a0] rfl au1 ?_;(with_reducible refine (bodkinref05_Spans.calls k a0 t521 _ A3.out).mono ?_);rintro e w5 ⟨v522,rfl,ho0,hb⟩;refine ⟨_,rfl,?_⟩;have n0_ := Aside0.mk (Kd.R_lower ho0 (below_size au0));have n1_ := Aside0.mk (below_step au0 hb);clear HB;have HO523 := n0_;have HB := n1_;clear n0_ n1_;(try clear hb);(try clear hb2);(try clear hk);(try clear hi);(try clear ho0)))
 go_loopg [3,5] k (fun kq v3 v5 w' => ∃ (x3_1 : ByteArray) (x5_1 : Int),v3 = .string x3_1 ∧ v5 = .int .i64 x5_1 ∧ Aside0 (bodkinref05_Capital.l0 kq a0 x3_1 t521 x5_1 = some r) ∧ Aside0 (kq ≤ k) ∧ Aside0 (Kd.R k32 32 w' w.heap.size (fun _ => True) v522 t521) ∧ Aside0 (Below w.heap.size w w'))
 case atStart => exact ⟨(t520),(0),au3,au3,H',⟨Nat.le_refl _⟩,⟨by (with_reducible repeat (first | apply Kd.R_alloc | apply Kd.R_drewN | apply Kd.R_drew));exact HO523.out⟩,⟨au0⟩⟩
 case round =>
  clear H'
  try clear c1
  try clear p2
  try clear c3
  obtain ⟨x3_1,x5_1,rfl,rfl,HA,HK1,HO_4,HB⟩ := hrel
  cases gk with
  | zero => exact absurd HA.out (by simp [bodkinref05_Capital.l0])
  | succ k1 =>
   have H := HA.out
   clear HA
   simp only [bodkinref05_Capital.l0] at H
   by_cases c6 : x5_1 < (t521.length : Int)
   ·rw [if_pos c6] at H
    have c6b0 : decide (x5_1 < (t521.length : Int)) = true := decide_eq_true c6
    clear c6
    by_cases c7 : 0 ≤ x5_1
    ·rw [if_pos c7] at H
     have c7b0 : decide (0 ≤ x5_1) = true := decide_eq_true c7
     clear c7
     replace H := Option.bind_eq_some_iff.mp H
     obtain ⟨⟨t525,t526,t527⟩,A80,H⟩ := H
     replace H : (if 0 ≤ ((rd_T32 t521 x5_1).f0) then (if ((rd_T32 t521 x5_1).f0) ≤ (x3_1.size : Int) then (if ((rd_T32 t521 x5_1).f0) ≤ (wrap64 (((rd_T32 t521 x5_1).f0) + t526)) then (if (wrap64 (((rd_T32 t521 x5_1).f0) + t526)) ≤ (a0.size : Int) then ((bodkinref05_Upper.f k1 (a0.extract (((rd_T32 t521 x5_1).f0) : Int).toNat ((wrap64 (((rd_T32 t521 x5_1).f0) + t526)) : Int).toNat)).bind fun t530 => (if (x3_1.extract 0 (((rd_T32 t521 x5_1).f0) : Int).toNat).size + t530.size ≤ 9223372036854775807 then (if 0 ≤ (wrap64 (((rd_T32 t521 x5_1).f0) + t526)) then (if (wrap64 (((rd_T32 t521 x5_1).f0) + t526)) ≤ (x3_1.size : Int) then (if ((x3_1.extract 0 (((rd_T32 t521 x5_1).f0) : Int).toNat) ++ t530).size + (x3_1.extract ((wrap64 (((rd_T32 t521 x5_1).f0) + t526)) : Int).toNat x3_1.size).size ≤ 9223372036854775807 then (bodkinref05_Capital.l0 k1 a0 (((x3_1.extract 0 (((rd_T32 t521 x5_1).f0) : Int).toNat) ++ t530) ++ (x3_1.extract ((wrap64 (((rd_T32 t521 x5_1).f0) + t526)) : Int).toNat x3_1.size)) t521 (wrap64 (x5_1 + 1))) else (none)) else (none)) else (none)) else (none))) else (none)) else (none)) else (none)) else (none)) = some r := H
     have A8 := Aside0.mk A80
     clear A80
     by_cases c9 : 0 ≤ ((rd_T32 t521 x5_1).f0)
     ·rw [if_pos c9] at H
      have c9b0 := eq_true c9
      have c9b1 : decide (0 ≤ ((rd_T32 t521 x5_1).f0)) = true := decide_eq_true c9
      clear c9
      by_cases c10 : ((rd_T32 t521 x5_1).f0) ≤ (x3_1.size : Int)
      ·rw [if_pos c10] at H
       have c10b0 := eq_true c10
       have c10b1 : decide (((rd_T32 t521 x5_1).f0) ≤ (x3_1.size : Int)) = true := decide_eq_true c10
       clear c10
       have c11b0 := eq_true (of_decide_eq_true au4 : 0 ≤ ((rd_T32 t521 x5_1).f0))
       by_cases c12 : ((rd_T32 t521 x5_1).f0) ≤ (wrap64 (((rd_T32 t521 x5_1).f0) + t526))
       ·rw [if_pos c12] at H
        have c12b0 := eq_true c12
        have c12b1 : decide (((rd_T32 t521 x5_1).f0) ≤ (wrap64 (((rd_T32 t521 x5_1).f0) + t526))) = true := decide_eq_true c12
        by_cases c13 : (wrap64 (((rd_T32 t521 x5_1).f0) + t526)) ≤ (a0.size : Int)
        ·rw [if_pos c13] at H
         have c13b0 := eq_true c13
         have c13b1 : decide ((wrap64 (((rd_T32 t521 x5_1).f0) + t526)) ≤ (a0.size : Int)) = true := decide_eq_true c13
         replace H := Option.bind_eq_some_iff.mp H
         obtain ⟨t530,A140,H⟩ := H
         replace H : (if (x3_1.extract 0 (((rd_T32 t521 x5_1).f0) : Int).toNat).size + t530.size ≤ 9223372036854775807 then (if 0 ≤ (wrap64 (((rd_T32 t521 x5_1).f0) + t526)) then (if (wrap64 (((rd_T32 t521 x5_1).f0) + t526)) ≤ (x3_1.size : Int) then (if ((x3_1.extract 0 (((rd_T32 t521 x5_1).f0) : Int).toNat) ++ t530).size + (x3_1.extract ((wrap64 (((rd_T32 t521 x5_1).f0) + t526)) : Int).toNat x3_1.size).size ≤ 9223372036854775807 then (bodkinref05_Capital.l0 k1 a0 (((x3_1.extract 0 (((rd_T32 t521 x5_1).f0) : Int).toNat) ++ t530) ++ (x3_1.extract ((wrap64 (((rd_T32 t521 x5_1).f0) + t526)) : Int).toNat x3_1.size)) t521 (wrap64 (x5_1 + 1))) else (none)) else (none)) else (none)) else (none)) = some r := H
         have A14 := Aside0.mk A140
         clear A140
         by_cases c15 : (x3_1.extract 0 (((rd_T32 t521 x5_1).f0) : Int).toNat).size + t530.size ≤ 9223372036854775807
         ·rw [if_pos c15] at H
          have c15b0 := eq_true c15
          have c15b1 : decide ((x3_1.extract 0 (((rd_T32 t521 x5_1).f0) : Int).toNat).size + t530.size ≤ 9223372036854775807) = true := decide_eq_true c15
          try have c15b2 : (9223372036854775807 < (x3_1.extract 0 (((rd_T32 t521 x5_1).f0) : Int).toNat).size + t530.size) = False := eq_false (Nat.not_lt.2 c15)
          have c15s : (9223372036854775807 < (((rd_T32 t521 x5_1).f0) : Int).toNat + t530.size) = False := eq_false (by have e_ := c15;simp only [ByteArray.size_append,ByteArray.size_extract] at e_;(try have h_c10b0 := of_eq_true c10b0);(try have h_c13b0 := of_eq_true c13b0);omega)
          obtain ⟨ji16,hji16⟩ : ∃ j_ : Int,(wrap64 (((rd_T32 t521 x5_1).f0) + t526)) = j_ := ⟨_,rfl⟩
          replace H : (if 0 ≤ (ji16) then (if (ji16) ≤ (x3_1.size : Int) then (if ((x3_1.extract 0 (((rd_T32 t521 x5_1).f0) : Int).toNat) ++ t530).size + (x3_1.extract ((ji16) : Int).toNat x3_1.size).size ≤ 9223372036854775807 then (bodkinref05_Capital.l0 k1 a0 (((x3_1.extract 0 (((rd_T32 t521 x5_1).f0) : Int).toNat) ++ t530) ++ (x3_1.extract ((ji16) : Int).toNat x3_1.size)) t521 (wrap64 (x5_1 + 1))) else (none)) else (none)) else (none)) = some r := by first | (rw [hji16] at H;exact H) | (simp only [hji16] at H ⊢;exact H)
          (try rw [hji16] at c12b0)
          (try rw [hji16] at c12b1)
          (try rw [hji16] at c12)
          (try rw [hji16] at c13b0)
          (try rw [hji16] at c13b1)
          (try rw [hji16] at c13)
          (try rw [hji16] at A8)
          (try rw [hji16] at A14)
          have hji16w : (IntKind.i64.wrap (((rd_T32 t521 x5_1).f0) + t526)) = ji16 := (i64_w _).trans hji16
          by_cases c17 : 0 ≤ (ji16)
          ·rw [if_pos c17] at H
           have c17b0 := eq_true c17
           have c17b1 : decide (0 ≤ (ji16)) = true := decide_eq_true c17
           clear c17
           by_cases c18 : (ji16) ≤ (x3_1.size : Int)
           ·rw [if_pos c18] at H
            have c18b0 := eq_true c18
            have c18b1 : decide ((ji16) ≤ (x3_1.size : Int)) = true := decide_eq_true c18
            clear c18
            by_cases c19 : ((x3_1.extract 0 (((rd_T32 t521 x5_1).f0) : Int).toNat) ++ t530).size + (x3_1.extract ((ji16) : Int).toNat x3_1.size).size ≤ 9223372036854775807
            ·rw [if_pos c19] at H
             have c19b0 := eq_true c19
             have c19b1 : decide (((x3_1.extract 0 (((rd_T32 t521 x5_1).f0) : Int).toNat) ++ t530).size + (x3_1.extract ((ji16) : Int).toNat x3_1.size).size ≤ 9223372036854775807) = true := decide_eq_true c19
             try have c19b2 : (9223372036854775807 < ((x3_1.extract 0 (((rd_T32 t521 x5_1).f0) : Int).toNat) ++ t530).size + (x3_1.extract ((ji16) : Int).toNat x3_1.size).size) = False := eq_false (Nat.not_lt.2 c19)
             have c19s : (9223372036854775807 < ((((rd_T32 t521 x5_1).f0) : Int).toNat + t530.size) + (x3_1.size - (ji16 : Int).toNat)) = False := eq_false (by have e_ := c19;simp only [ByteArray.size_append,ByteArray.size_extract] at e_;(try have h_c10b0 := of_eq_true c10b0);(try have h_c13b0 := of_eq_true c13b0);(try have h_c18b0 := of_eq_true c18b0);omega)
             have H' := Aside0.mk H
             clear H
             obtain ⟨Ao20,co20,eo20⟩ := Kd.R_slice HO_4.out
             subst eo20
             have p524 : 0 ≤ (x5_1 : Int) := of_decide_eq_true au4
             have q524 : x5_1 < (t521.length : Int) := of_decide_eq_true au4
             obtain ⟨ad524,e524,hx524_0,hx524_1⟩ := at_T32 (Kd.R_reads' HO_4.out).2.2 x5_1 p524 q524
             cases e524
             replace p524 := eq_true p524
             replace q524 := eq_true q524
             try go_wp2_with (first | ((with_reducible refine gate_callee (f := 59) rfl ?_);refine goesL_ (some 26) rfl rfl Tryd.func59 (by kernel_rfl) rfl #[.string a0,.int .i64 ((rd_T32 t521 x5_1).f0)] rfl au1 ?_;(with_reducible refine (bodkinref01_At.calls k1 a0 ((rd_T32 t521 x5_1).f0) t525 t526 t527 _ A8.out).mono ?_);rintro e w21 ⟨rfl,hb⟩;refine ⟨_,rfl,?_⟩;have n0_ := Aside0.mk (Kd.R_below au8 hb);have n1_ := Aside0.mk (below_step au0 hb);clear HO_4;clear HB;have HO_4 := n0_;have HB := n1_;clear n0_ n1_;(try clear hb);(try clear hb2);(try clear hk);(try clear hi)) | ((with_reducible refine gate_dst (N := 6) rfl ?_);refine box_event ?hg (N := 6) ?hd (cs := #[.int .i32 0,.int .i64 0]) (t := 42) ?hr ?_;(case hd => rfl);(case hg => rfl);(case hr => first | (go_simp;done) | (go_simp;rfl));intro gb528 hg w22 hbox hb;have n0_ := Aside0.mk (Kd.R_below au8 hb);have n1_ := Aside0.mk (below_step au0 hb);have n2_ := Aside0.mk (hbox);have n3_ := Aside0.mk ((by rw [hg];exact (below_size au0) : w.heap.size ≤ gb528));have n4_ := Aside0.mk ((by rw [hg];exact (below_size au0) : w.heap.size ≤ gb528));clear HO_4;clear HB;have HO_4 := n0_;have HB := n1_;have BK528 := n2_;have GW528 := n3_;have GE528 := n4_;clear n0_ n1_ n2_ n3_ n4_;clear hb hbox hg;have hcz23_0 : w22.cell? ⟨gb528,0,none⟩ = some (.int .i32 0) := (blk_cell BK528.out 0).trans rfl;have hcz23_1 : w22.cell? ⟨gb528,1,none⟩ = some (.int .i64 0) := (blk_cell BK528.out 1).trans rfl;have hfz23_0 := blk_frozen BK528.out 0;have hfz23_1 := blk_frozen BK528.out 1;have p529 : 0 ≤ (x5_1 : Int) := of_decide_eq_true au4;have q529 : x5_1 < (t521.length : Int) := of_decide_eq_true au4;obtain ⟨ad529,e529,hx529_0,hx529_1⟩ := at_T32 (Kd.R_reads' HO_4.out).2.2 x5_1 p529 q529;obtain rfl : ad524 = ad529 := (by injection e529);have hn529_0 : ad524.block ≠ gb528 := Kd.own_blk (Kd.R_ne HO_4.out BK528.out (by decide));have hn529_1 : ad524.block ≠ gb528 := Kd.own_blk (Kd.R_ne HO_4.out BK528.out (by decide));replace hx529_0 := (cell_far (p := ⟨gb528,0,none⟩) (by first | (rw [add_block];exact hn529_0) | (show (Addr.add _ _).block ≠ _;rw [add_block];exact hn529_0) | exact hn529_0) (.int .i32 t525)).trans hx529_0;replace hx529_1 := (cell_far (p := ⟨gb528,0,none⟩) (by first | (rw [add_block];exact hn529_0) | (show (Addr.add _ _).block ≠ _;rw [add_block];exact hn529_0) | exact hn529_0) (.int .i32 t525)).trans hx529_1;replace hx529_0 := (cell_far (p := ⟨gb528,1,none⟩) (by first | (rw [add_block];exact hn529_1) | (show (Addr.add _ _).block ≠ _;rw [add_block];exact hn529_1) | exact hn529_1) (.int .i64 t526)).trans hx529_0;replace hx529_1 := (cell_far (p := ⟨gb528,1,none⟩) (by first | (rw [add_block];exact hn529_1) | (show (Addr.add _ _).block ≠ _;rw [add_block];exact hn529_1) | exact hn529_1) (.int .i64 t526)).trans hx529_1;clear hn529_0;clear hn529_1;replace p529 := eq_true p529;replace q529 := eq_true q529))
             have n0_ : Aside0 (Kd.R k32 32 ((w22.setCell ⟨gb528,0,none⟩ (.int .i32 t525)).setCell ⟨gb528,1,none⟩ (.int .i64 t526)) w.heap.size (fun _ => True) (.slice (some ad524) t521.length co20) t521) := ⟨by (with_reducible repeat (first | apply Kd.R_alloc | apply Kd.R_drewN | apply Kd.R_drew));exact Kd.R_mono (Kd.R_far (p := ⟨gb528,1,none⟩) (Kd.R_far (p := ⟨gb528,0,none⟩) (Kd.R_types HO_4.out BK528.out (by decide)) (fun _ hk => hk.2) (.int .i32 t525)) (fun _ hk => hk.2) (.int .i64 t526)) (fun _ hk => trivial)⟩
             have n1_ : Aside0 (((w22.setCell ⟨gb528,0,none⟩ (.int .i32 t525)).setCell ⟨gb528,1,none⟩ (.int .i64 t526)).heap[gb528]? = some (.cells #[.int .i32 t525,.int .i64 t526] 42 (0,0))) := ⟨by (with_reducible repeat (first | refine blk_drewN ?_ _ | refine blk_drew ?_ | refine blk_alloc ?_ _));refine blk_put (cs := #[.int .i32 t525,.int .i64 0]) ?_ 1 _ rfl;(with_reducible repeat (first | refine blk_drewN ?_ _ | refine blk_drew ?_ | refine blk_alloc ?_ _));refine blk_put (cs := #[.int .i32 0,.int .i64 0]) ?_ 0 _ rfl;(with_reducible repeat (first | refine blk_drewN ?_ _ | refine blk_drew ?_ | refine blk_alloc ?_ _));exact BK528.out⟩
             have n2_ : Aside0 (Below w.heap.size w ((w22.setCell ⟨gb528,0,none⟩ (.int .i32 t525)).setCell ⟨gb528,1,none⟩ (.int .i64 t526))) := ⟨by repeat (first | (with_reducible first | exact HB.out | apply below_alloc | apply pw_below_drewN | apply below_drew1 | refine below_set ?_ GE528.out) | exact HB.out)⟩
             (try clear HO_4)
             (try clear BK528)
             (try clear HB)
             generalize ((w22.setCell ⟨gb528,0,none⟩ (.int .i32 t525)).setCell ⟨gb528,1,none⟩ (.int .i64 t526)) = w24 at n0_ n1_ n2_ ⊢
             have HO_4 := n0_
             have BK528 := n1_
             have HB := n2_
             clear n0_ n1_ n2_
             have n0_ := Aside0.mk (Kd.R_drew HO_4.out)
             have n1_ := Aside0.mk (blk_drew BK528.out)
             have n2_ := Aside0.mk (below_drew1 HB.out)
             clear HO_4
             clear BK528
             clear HB
             have HO_4 := n0_
             have BK528 := n1_
             have HB := n2_
             clear n0_ n1_ n2_
             refine start_ (n := 20) (S := fun w' => w'.cell? ⟨gb528,0,none⟩ = some (.int .i32 t525) ∧ w'.cell? ⟨gb528,1,none⟩ = some (.int .i64 t526)) (ds := []) #[false,false,false,false,false,false,false,false,false,false,false,false,false,false,false,false,false,false,false,false] (by kernel_rfl) rfl rfl ⟨(blk_cell BK528.out 0).trans rfl,(blk_cell BK528.out 1).trans rfl⟩ (fun hHeld => ?_);refine with_tabW bodkinref05_Capital.tab8 bodkinref05_Capital.bits8 (fun HT_ HW_ => ?_)
             generalize w24.drew = w25 at HO_4 BK528 HB hHeld ⊢
             refine pure_ (i := 0) (N := some 34) (v := ?_) (a' := ?_) #[true,false,false,false,false,false,false,false,false,false,false,false,false,false,false,false,false,false,false,false] rfl rfl (any_of HT_.out (by kernel_rfl)) (fun _ _ _ h => h) (Or.inl ⟨by rfl,?_⟩) ?_ ?_
             rotate_left
             ·intro w'
              go_simp
              with_reducible rfl
             rotate_left
             ·simp only [Act.put,List.setIfInBounds_toArray,List.set_cons_zero,List.set_cons_succ,i64_w,i32_w]
              rfl
             refine pure_ (i := 1) (N := some 35) (v := ?_) (a' := ?_) #[true,true,false,false,false,false,false,false,false,false,false,false,false,false,false,false,false,false,false,false] rfl rfl (any_of HT_.out (by kernel_rfl)) (fun _ _ _ h => h) (Or.inl ⟨by rfl,?_⟩) ?_ ?_
             rotate_left
             ·intro w'
              go_simp
              with_reducible rfl
             rotate_left
             ·simp only [Act.put,List.setIfInBounds_toArray,List.set_cons_zero,List.set_cons_succ,i64_w,i32_w]
              rfl
             refine pure_ (i := 2) (N := some 36) (v := ?_) (a' := ?_) #[true,true,true,false,false,false,false,false,false,false,false,false,false,false,false,false,false,false,false,false] rfl rfl (any_of HT_.out (by kernel_rfl)) (fun _ _ _ h => h) (Or.inl ⟨by rfl,?_⟩) ?_ ?_
             rotate_left
             ·intro w'
              go_simp
              with_reducible rfl
             rotate_left
             ·simp only [Act.put,List.setIfInBounds_toArray,List.set_cons_zero,List.set_cons_succ,i64_w,i32_w]
              rfl
             refine pure_ (i := 3) (N := some 37) (v := ?_) (a' := ?_) #[true,true,true,true,false,false,false,false,false,false,false,false,false,false,false,false,false,false,false,false] rfl rfl (any_of HT_.out (by kernel_rfl)) (fun _ _ _ h => h) (Or.inl ⟨by rfl,?_⟩) ?_ ?_
             rotate_left
             ·intro w'
              go_simp
              with_reducible rfl
             rotate_left
             ·simp only [Act.put,List.setIfInBounds_toArray,List.set_cons_zero,List.set_cons_succ,i64_w,i32_w]
              rfl
             refine pure_ (i := 4) (N := some 38) (v := ?_) (a' := ?_) #[true,true,true,true,true,false,false,false,false,false,false,false,false,false,false,false,false,false,false,false] rfl rfl (any_of HT_.out (by kernel_rfl)) (fun _ _ _ h => h) (Or.inl ⟨by rfl,?_⟩) ?_ ?_
             rotate_left
             ·intro w'
              go_simp
              with_reducible rfl
             rotate_left
             ·simp only [Act.put,List.setIfInBounds_toArray,List.set_cons_zero,List.set_cons_succ,i64_w,i32_w]
              rfl
             refine pure_ (i := 5) (N := some 39) (v := ?_) (a' := ?_) #[true,true,true,true,true,true,false,false,false,false,false,false,false,false,false,false,false,false,false,false] rfl rfl (any_of HT_.out (by kernel_rfl)) (fun _ _ _ h => h) (Or.inl ⟨by rfl,?_⟩) ?_ ?_
             rotate_left
             ·intro w'
              go_simp
              with_reducible rfl
             rotate_left
             ·simp only [Act.put,List.setIfInBounds_toArray,List.set_cons_zero,List.set_cons_succ,i64_w,i32_w]
              rfl
             refine pure_ (i := 6) (N := some 40) (v := ?_) (a' := ?_) #[true,true,true,true,true,true,true,false,false,false,false,false,false,false,false,false,false,false,false,false] rfl rfl (any_of HT_.out (by kernel_rfl)) (fun _ _ _ h => h) (Or.inl ⟨by rfl,?_⟩) ?_ ?_
             rotate_left
             ·intro w'
              go_simp
              with_reducible rfl
             rotate_left
             ·simp only [Act.put,List.setIfInBounds_toArray,List.set_cons_zero,List.set_cons_succ,i64_w,i32_w]
              rfl
             refine pure_ (i := 12) (N := some 46) (v := ?_) (a' := ?_) #[true,true,true,true,true,true,true,false,false,false,false,false,true,false,false,false,false,false,false,false] rfl rfl (any_of HT_.out (by kernel_rfl)) (fun _ _ _ h => h) (Or.inl ⟨by rfl,?_⟩) ?_ ?_
             rotate_left
             ·intro w'
              go_simp
              with_reducible rfl
             rotate_left
             ·simp only [Act.put,List.setIfInBounds_toArray,List.set_cons_zero,List.set_cons_succ,i64_w,i32_w]
              rfl
             refine pure_ (i := 13) (N := some 47) (v := ?_) (a' := ?_) #[true,true,true,true,true,true,true,false,false,false,false,false,true,true,false,false,false,false,false,false] rfl rfl (any_of HT_.out (by kernel_rfl)) (fun _ _ _ h => h) (Or.inl ⟨by rfl,?_⟩) ?_ ?_
             rotate_left
             ·intro w'
              go_simp
              with_reducible rfl
             rotate_left
             ·simp only [Act.put,List.setIfInBounds_toArray,List.set_cons_zero,List.set_cons_succ,i64_w,i32_w]
              rfl
             refine pure_ (i := 14) (N := some 48) (v := ?_) (a' := ?_) #[true,true,true,true,true,true,true,false,false,false,false,false,true,true,true,false,false,false,false,false] rfl rfl (any_of HT_.out (by kernel_rfl)) (fun _ _ _ h => h) (Or.inl ⟨by rfl,?_⟩) ?_ ?_
             rotate_left
             ·intro w'
              go_simp
              with_reducible rfl
             rotate_left
             ·simp only [Act.put,List.setIfInBounds_toArray,List.set_cons_zero,List.set_cons_succ,i64_w,i32_w]
              rfl
             refine take_ (i := 7) (N := some 41) (v := ?_) (a' := ?_) #[true,true,true,true,true,true,true,true,false,false,false,false,true,true,true,false,false,false,false,false] rfl rfl (take_ofW HT_.out HW_.out (by kernel_rfl)) (fun _ _ _ h => h) (Or.inl ⟨by rfl,?_⟩) hHeld ?_ ?_
             rotate_left
             ·rintro w' ⟨s0,s1⟩
              go_simp
              with_reducible rfl
             rotate_left
             ·simp only [Act.put,List.setIfInBounds_toArray,List.set_cons_zero,List.set_cons_succ,i64_w,i32_w]
              rfl
             refine pure_ (i := 8) (N := some 42) (v := ?_) (a' := ?_) #[true,true,true,true,true,true,true,true,true,false,false,false,true,true,true,false,false,false,false,false] rfl rfl (any_of HT_.out (by kernel_rfl)) (fun _ _ _ h => h) (Or.inl ⟨by rfl,?_⟩) ?_ ?_
             rotate_left
             ·intro w'
              go_simp
              with_reducible rfl
             rotate_left
             ·simp only [Act.put,List.setIfInBounds_toArray,List.set_cons_zero,List.set_cons_succ,i64_w,i32_w]
              rfl
             refine pure_ (i := 9) (N := some 43) (v := ?_) (a' := ?_) #[true,true,true,true,true,true,true,true,true,true,false,false,true,true,true,false,false,false,false,false] rfl rfl (any_of HT_.out (by kernel_rfl)) (fun _ _ _ h => h) (Or.inl ⟨by rfl,?_⟩) ?_ ?_
             rotate_left
             ·intro w'
              go_simp
              with_reducible rfl
             rotate_left
             ·simp only [Act.put,List.setIfInBounds_toArray,List.set_cons_zero,List.set_cons_succ,i64_w,i32_w]
              rfl
             refine take_ (i := 15) (N := some 49) (v := ?_) (a' := ?_) #[true,true,true,true,true,true,true,true,true,true,false,false,true,true,true,true,false,false,false,false] rfl rfl (take_ofW HT_.out HW_.out (by kernel_rfl)) (fun _ _ _ h => h) (Or.inl ⟨by rfl,?_⟩) hHeld ?_ ?_
             rotate_left
             ·rintro w' ⟨s0,s1⟩
              go_simp
              with_reducible rfl
             rotate_left
             ·simp only [Act.put,List.setIfInBounds_toArray,List.set_cons_zero,List.set_cons_succ,i64_w,i32_w]
              rfl
             refine pure_ (i := 16) (N := some 50) (v := ?_) (a' := ?_) #[true,true,true,true,true,true,true,true,true,true,false,false,true,true,true,true,true,false,false,false] rfl rfl (any_of HT_.out (by kernel_rfl)) (fun _ _ _ h => h) (Or.inl ⟨by rfl,?_⟩) ?_ ?_
             rotate_left
             ·intro w'
              go_simp
              with_reducible rfl
             rotate_left
             ·simp only [Act.put,List.setIfInBounds_toArray,List.set_cons_zero,List.set_cons_succ,i64_w,i32_w]
              rfl
             refine pure_ (i := 17) (N := some 51) (v := ?_) (a' := ?_) #[true,true,true,true,true,true,true,true,true,true,false,false,true,true,true,true,true,true,false,false] rfl rfl (any_of HT_.out (by kernel_rfl)) (fun _ _ _ h => h) (Or.inl ⟨by rfl,?_⟩) ?_ ?_
             rotate_left
             ·intro w'
              go_simp
              with_reducible rfl
             rotate_left
             ·simp only [Act.put,List.setIfInBounds_toArray,List.set_cons_zero,List.set_cons_succ,i64_w,i32_w]
              rfl
             refine one_ (i := 10) (N := some 44) #[true,true,true,true,true,true,true,true,true,true,true,false,true,true,true,true,true,true,false,false] rfl rfl (one_of HT_.out (by kernel_rfl)) (by decide) (fun K hK => ?_)
             refine goes_ Tryd.func31 (by kernel_rfl) rfl #[.string (a0.extract (((rd_T32 t521 x5_1).f0) : Int).toNat ((ji16) : Int).toNat)] (by rfl) rfl rfl (by (try simp only [List.map_toArray,List.map_cons,List.map_nil]);first | done | (simp only [hji16];rfl) | rfl | (simp only [List.length_drop,List.length_take];rfl)) ?_
             with_reducible refine (bodkinref05_Upper.calls k1 (a0.extract (((rd_T32 t521 x5_1).f0) : Int).toNat ((ji16) : Int).toNat) t530 _ A14.out).mono ?_
             rintro e w26 ⟨rfl,hb⟩
             refine ⟨_,rfl,?_⟩
             have n0_ := Aside0.mk (Kd.R_below au8 hb)
             have n1_ := Aside0.mk (blk_below (g := gb528) (o := .cells #[.int .i32 t525,.int .i64 t526] 42 (0,0)) (by (with_reducible repeat (first | refine blk_drewN ?_ _ | refine blk_drew ?_ | refine blk_alloc ?_ _));exact BK528.out) hb)
             have n2_ := Aside0.mk (below_step (by repeat (first | (with_reducible first | exact HB.out | apply below_alloc | apply pw_below_drewN | apply below_drew1 | refine below_set ?_ GE528.out) | exact HB.out)) hb)
             clear HO_4
             clear BK528
             clear HB
             have HO_4 := n0_
             have BK528 := n1_
             have HB := n2_
             clear n0_ n1_ n2_
             (try clear hb)
             (try clear hb2)
             (try clear hk)
             (try clear hi)
             refine hK.out _ _ ⟨(blk_cell BK528.out 0).trans rfl,(blk_cell BK528.out 1).trans rfl⟩ (fun hHeld => ?_)
             clear hK K
             refine norm_ (a' := ?_) ?_ ?_
             rotate_left
             ·show Act.put _ (some 44) _ = _
              simp only [Act.put,List.setIfInBounds_toArray,List.set_cons_zero,List.set_cons_succ,i64_w,i32_w]
              rfl
             refine pure_ (i := 11) (N := some 45) (v := ?_) (a' := ?_) #[true,true,true,true,true,true,true,true,true,true,true,true,true,true,true,true,true,true,false,false] rfl rfl (any_of HT_.out (by kernel_rfl)) (fun _ _ _ h => h) (Or.inl ⟨by rfl,?_⟩) ?_ ?_
             rotate_left
             ·intro w'
              go_simp
              with_reducible rfl
             rotate_left
             ·simp only [Act.put,List.setIfInBounds_toArray,List.set_cons_zero,List.set_cons_succ,i64_w,i32_w]
              rfl
             refine pure_ (i := 18) (N := some 52) (v := ?_) (a' := ?_) #[true,true,true,true,true,true,true,true,true,true,true,true,true,true,true,true,true,true,true,false] rfl rfl (any_of HT_.out (by kernel_rfl)) (fun _ _ _ h => h) (Or.inl ⟨by rfl,?_⟩) ?_ ?_
             rotate_left
             ·intro w'
              go_simp
              with_reducible rfl
             rotate_left
             ·simp only [Act.put,List.setIfInBounds_toArray,List.set_cons_zero,List.set_cons_succ,i64_w,i32_w]
              rfl
             refine pure_ (i := 19) (N := some 3) (v := ?_) (a' := ?_) #[true,true,true,true,true,true,true,true,true,true,true,true,true,true,true,true,true,true,true,true] rfl rfl (any_of HT_.out (by kernel_rfl)) (fun _ _ _ h => h) (Or.inl ⟨by rfl,?_⟩) ?_ ?_
             rotate_left
             ·intro w'
              go_simp
              with_reducible rfl
             rotate_left
             ·simp only [Act.put,List.setIfInBounds_toArray,List.set_cons_zero,List.set_cons_succ,i64_w,i32_w]
              rfl
             refine done_ (done_of HT_.out (by kernel_rfl)) ?_
             try go_wp2
             go_roundg k1
             case measure => have := HK1.out;omega
             case rel => exact ⟨(((x3_1.extract 0 (((rd_T32 t521 x5_1).f0) : Int).toNat) ++ t530) ++ (x3_1.extract ((ji16) : Int).toNat x3_1.size)),(wrap64 (x5_1 + 1)),(by first | rfl | (simp;done) | (simp only [← hji16] <;> (first | rfl | simp)) | (simp [*];done)),au3,H',⟨by have := HK1.out;omega⟩,⟨by (with_reducible repeat (first | apply Kd.R_alloc | apply Kd.R_drewN | apply Kd.R_drew));exact HO_4.out⟩,⟨by repeat (first | (with_reducible first | exact HB.out | apply below_alloc | apply pw_below_drewN | apply below_drew1 | refine below_set ?_ GE528.out) | exact HB.out)⟩⟩
            ·rw [if_neg c19] at H
             exact absurd H (by simp)
           ·rw [if_neg c18] at H
            exact absurd H (by simp)
          ·rw [if_neg c17] at H
           exact absurd H (by simp)
         ·rw [if_neg c15] at H
          exact absurd H (by simp)
        ·rw [if_neg c13] at H
         exact absurd H (by simp)
       ·rw [if_neg c12] at H
        exact absurd H (by simp)
      ·rw [if_neg c10] at H
       exact absurd H (by simp)
     ·rw [if_neg c9] at H
      exact absurd H (by simp)
    ·rw [if_neg c7] at H
     exact absurd H (by simp)
   ·rw [if_neg c6] at H
    have c6b0 : decide (x5_1 < (t521.length : Int)) = false := decide_eq_false c6
    clear c6
    obtain rfl := Option.some.inj H
    obtain ⟨Ao27,co27,eo27⟩ := Kd.R_slice HO_4.out
    subst eo27
    go_wp2
    go_ret
    exact ⟨au2,au0⟩
end Go.Proofs.YtkficbgnjpekaaaDoor.U
end
section
namespace Go.Proofs.YtkficbgnjpekaaaDoor.Rf
open Go Go.RowKit
/-- What a round keeps: what lies below n₀;the cells that lie from B on;and the cells of the blocks of Pr (what the iterator has captured). -/
def KeepB (n₀ : Nat) (Pr : Nat → Prop) (B : Nat) (W W' : World) : Prop :=
 Below n₀ W W' ∧ ∀ (k : Nat) (o : Obj),(Pr k ∨ B ≤ k) → W.heap[k]? = some o → o.isCells = true → W'.heap[k]? = some o
theorem KeepB.refl (n₀ : Nat) (Pr : Nat → Prop) (B : Nat) (W : World) : KeepB n₀ Pr B W W := ⟨Below.refl _ _,fun _ _ _ h _ => h⟩
theorem KeepB.trans {n₀ : Nat} {Pr : Nat → Prop} {B : Nat} {X Y Z : World} (h : KeepB n₀ Pr B X Y) (k : KeepB n₀ Pr B Y Z) : KeepB n₀ Pr B X Z :=
 ⟨h.1.trans k.1,fun i o hi ho hc => k.2 i o hi (h.2 i o hi ho hc) hc⟩
theorem KeepB.of_below {n₀ : Nat} {Pr : Nat → Prop} {B : Nat} {X Y : World} (hn : n₀ ≤ X.heap.size) (h : Below X.heap.size X Y) : KeepB n₀ Pr B X Y :=
 ⟨h.mono hn,fun k _o _ ho _ => (h.block k (Array.getElem?_eq_some_iff.1 ho).1).trans ho⟩
theorem KeepB.putObj {n₀ : Nat} {Pr : Nat → Prop} {B : Nat} {W : World} {l : Nat} {o : Obj} (o' : Obj) (hn : n₀ ≤ W.heap.size) (hl : n₀ ≤ l) (h : W.heap[l]? = some o) (ho : o.isCells = false) : KeepB n₀ Pr B W (W.putObj l o') :=
 ⟨(Below.refl n₀ W).grown (grownBy_putObj' W l o') hn (fun k e => by cases e;omega),fun k p _ hk hc => by
  refine (World.putObj_heap_other (fun e => ?_)).trans hk
  subst e;rw [h] at hk;cases hk;rw [ho] at hc;cases hc⟩
/-- The iterator's contract: at each call of yield it tells a world W0 in which the caller's word held,and what it has laid since. -/
def SeqB {α : Type} (F : Fence) (n : Nat) (P : Program) (g : Nat) (lb : Array Value) (encs : α → Array Value) (n₀ : Nat) (Pr : Nat → Prop) (S Sp : List α → Prop) (N : Nat) (w : World) : Prop :=
 ∀ (l : Nat) (J Jx : List α → World → Prop) (W : World),Below w.heap.size w W → AbidesFrom W.heap.size J → AbidesFrom W.heap.size Jx →
  (∀ pre x W0 W1,J pre W0 → Below W0.heap.size W0 W1 → pre.length < N → YieldAt F (n - 1) P l (encs x) W1 fun e W' =>
   (e = .returned (.bool true) ∧ J (pre ++ [x]) W' ∧ KeepB n₀ Pr W0.heap.size W1 W') ∨ (e = .returned (.bool false) ∧ Jx (pre ++ [x]) W')) →
  J [] W →
  CallsIn F n P g (#[.func (.yield l) #[] #[]] ++ lb) W fun e W' => (∃ v,e = .returned v) ∧ ((∃ xs,S xs ∧ J xs W') ∨ (∃ pre,Sp pre ∧ Jx pre W'))
theorem SeqB.inRound {α : Type} {F : Fence} {n : Nat} {P : Program} {g : Nat} {lb : Array Value} {encs : α → Array Value} {n₀ : Nat} {Pr : Nat → Prop} {S Sp : List α → Prop} {N : Nat} {w : World} (l : Nat)
  (h : SeqB F n P g lb encs n₀ Pr S Sp N w) : SeqB (F.inRound l) n P g lb encs n₀ Pr S Sp N w := h
/-- How a round may be left. -/
def PostB {α : Type} (C n₀ : Nat) (Pr : Nat → Prop) (B : Nat) (I : Nat → List α → World → Prop) (Ix : Code → List α → World → Prop) (xs : List α) (W : World) : Exit → Act → World → Prop
 | .normal,_,W' => KeepsFrom C W W' ∧ KeepB n₀ Pr B W W' ∧ I W'.heap.size xs W'
 | .ret,_,W' => KeepsFrom C W W' ∧ Ix .ret xs W'
 | .exit id,_,W' => KeepsFrom C W W' ∧ Ix (.exit id) xs W'
 | .goto t,_,W' => KeepsFrom C W W' ∧ Ix (.goto t) xs W'
 | .panic _,_,_ => False
 | .outgrown,_,_ => False
variable {F : Fence} {n : Nat} {P : Program}
/-- What of a loop's own book-keeping lasts through its rounds: its record,and the block for deferred calls,where there is one. -/
structure Book (dz : Option Nat) (L : Nat) (r : Loop) (W : World) : Prop where
 at_ : W.heap[L]? = some (.loop r)
 dz_ : ∀ d,dz = some d → W.heap[d]? = some (.deferred (some []))
theorem Book.walks {dz : Option Nat} {L : Nat} {r : Loop} {A B : World} {row : Option Nat} (h : Book dz L r A) (hg : A.grownBy B row) (hr : ∀ k,row = some k → ∃ o : Obj,A.heap[k]? = some o ∧ o.isWalk = true) : Book dz L r B :=
 ⟨(grownBy_keeps hg hr h.at_ rfl).trans h.at_,fun d e => (grownBy_keeps hg hr (h.dz_ d e) rfl).trans (h.dz_ d e)⟩
theorem Book.from_ {dz : Option Nat} {L C : Nat} {r : Loop} {A B : World} (h : Book dz L r A) (hL : C ≤ L) (hd : ∀ d,dz = some d → C ≤ d ∧ d ≠ L) (hk : KeepsFrom C A B) : Book dz L r B :=
 ⟨hk.same _ _ hL h.at_ rfl,fun d e => hk.same _ _ (hd d e).1 (h.dz_ d e) rfl⟩
theorem Book.put {dz : Option Nat} {L C : Nat} {r : Loop} {A : World} (h : Book dz L r A) (hd : ∀ d,dz = some d → C ≤ d ∧ d ≠ L) (r' : Loop) : Book dz L r' (A.putObj L (.loop r')) :=
 ⟨World.putObj_heap_same (Array.getElem?_eq_some_iff.1 h.at_).1,fun d e => (World.putObj_heap_other (hd d e).2).trans (h.dz_ d e)⟩
/-- The rounds,whichever way the loop was entered. -/
theorem rounds {α : Type} {fid : FuncId} {ps : Array Tmp} {assign body : Code} {tm : Array Value} {C n₀ L D gf : Nat} {Pr : Nat → Prop} {lb : Array Value} {W1 w0 : World} {dz : Option Nat}
  {encs : α → Array Value} {S Sp : List α → Prop} {N : Nat} (hfid : F.fn fid) (hseq : SeqB F (n - 1) P gf lb encs n₀ Pr S Sp N w0) (hb1 : Below w0.heap.size w0 W1) (hps : ∀ x,(encs x).size = ps.size)
  (rec : LoopState → Option Code → Loop) (hrec : rec = fun st pe => { state := st,pending := pe,fn := fid,tmps := tm,params := ps,assign,body,defers := D })
  (hnC : n₀ ≤ C) (hCL : C ≤ L) (hCW : C ≤ W1.heap.size) (hdz : ∀ d,dz = some d → C ≤ d ∧ d ≠ L) (hbk : Book dz L (rec .ready none) W1)
  (I : Nat → List α → World → Prop) (Ix : Code → List α → World → Prop) (hI : ∀ B,OwnFrom C (I B)) (hm : ∀ B B' pre W,B ≤ B' → I B pre W → I B' pre W) (hIx : ∀ c,OwnFrom C (Ix c)) (h0 : I W1.heap.size [] W1)
  (Ax : α → Act → World → Prop) (hAx : ∀ x a',OwnFrom C (fun (_ : Unit) W => Ax x a' W))
  (hassign : ∀ (B : Nat) (pre : List α) (x : α) (W : World) (K : Act → World → Prop),C ≤ W.heap.size → B ≤ W.heap.size → I B pre W → (∀ a' W',KeepsFrom C W W' → KeepB n₀ Pr B W W' → I B pre W' → Ax x a' W' → K a' W') →
   assign.wpIn (F.inRound L) (n - 1 - 1) P (Exit.then K (fun _ _ _ => False)) { tmps := (ps.zip (encs x)).foldl (fun t (p,v) => t.setIfInBounds p v) tm,defers := [] } W)
  (hbody : ∀ (B : Nat) (pre : List α) (x : α) (a' : Act) (W : World),C ≤ W.heap.size → (∃ r,W.heap[L]? = some (.loop r)) → B ≤ W.heap.size → I B pre W → Ax x a' W → pre.length < N → body.wpIn (F.inRound L) (n - 1 - 1) P (PostB C n₀ Pr B I Ix (pre ++ [x]) W) a' W) :
  CallsIn F (n - 1) P gf (#[.func (.yield L) #[] #[]] ++ lb) W1 fun e W' => (∃ v,e = .returned v) ∧
   ((∃ xs,S xs ∧ C ≤ W'.heap.size ∧ I W'.heap.size xs W' ∧ Book dz L (rec .ready none) W') ∨ (∃ pre c,Sp pre ∧ C ≤ W'.heap.size ∧ Ix c pre W' ∧ Book dz L (rec .done (some c)) W')) := by
 have hC0 : ∀ {A B : World} {row : Option Nat},(∀ r,row = some r → W1.heap.size ≤ r ∧ ∃ o : Obj,A.heap[r]? = some o ∧ o.isWalk = true) → (∀ r,row = some r → C ≤ r ∧ ∃ o : Obj,A.heap[r]? = some o ∧ o.isCells = false) :=
  fun hr r e => by obtain ⟨hB,o,ho,hw⟩ := hr r e;exact ⟨Nat.le_trans hCW hB,o,ho,Obj.not_cells_of_walk hw⟩
 refine (hseq L (fun pre W => I W.heap.size pre W ∧ Book dz L (rec .ready none) W ∧ C ≤ W.heap.size) (fun pre W => ∃ c,Ix c pre W ∧ Book dz L (rec .done (some c)) W ∧ C ≤ W.heap.size) W1 hb1 ?_ ?_ ?_ ⟨h0,hbk,hCW⟩).mono ?_
 ·rintro s A B row ⟨h1,h2,h3⟩ hg hr
  exact ⟨hm _ _ _ _ hg.size (hI _ s A B row h1 hg (hC0 (B := B) hr)),h2.walks hg (fun r e => (hr r e).2),Nat.le_trans h3 hg.size⟩
 ·rintro s A B row ⟨c,h1,h2,h3⟩ hg hr
  exact ⟨c,hIx c s A B row h1 hg (hC0 (B := B) hr),h2.walks hg (fun r e => (hr r e).2),Nat.le_trans h3 hg.size⟩
 ·rintro pre x W0 W ⟨hi0,hb0,hC⟩ hbel hlen
  have hg : W0.grownBy W none := ⟨hbel.os,hbel.tape,hbel.output,hbel.size,fun i hi _ => hbel.block i hi⟩
  have hi : I W0.heap.size pre W := hI _ pre W0 W none hi0 hg (fun r e => by cases e)
  have hb : Book dz L (rec .ready none) W := hb0.walks hg (fun r e => by cases e)
  have hCW' : C ≤ W.heap.size := Nat.le_trans hC hbel.size
  have hy := run_yield (P := P) (args := encs x) hb.at_ (by rw [hrec];exact hps x)
  rw [hrec] at hy
  refine ⟨fid,_,assign,body,hy,roundIn_of_wpIn hfid (hassign W0.heap.size pre x W _ hCW' hbel.size hi ?_)⟩
  intro a' Wa hkf hkb hia hax
  have hba := hb.from_ hCL hdz hkf
  have hCa : C ≤ Wa.heap.size := Nat.le_trans hCW' hkf.size
  refine ⟨_,run_beginRound hba.at_ (by rw [hrec]),?_⟩
  have hba2 := hba.put (C := C) hdz { rec .ready none with state := .busy }
  have hkb2 : KeepB n₀ Pr W0.heap.size Wa (Wa.putObj L (.loop { rec .ready none with state := .busy })) := KeepB.putObj _ (Nat.le_trans hnC hCa) (Nat.le_trans hnC hCL) hba.at_ rfl
  have hsz2 : (Wa.putObj L (.loop { rec .ready none with state := .busy })).heap.size = Wa.heap.size := by simp
  refine wpIn_mono (hbody W0.heap.size pre x a' _ (by rw [hsz2];exact hCa) ⟨_,hba2.at_⟩ (by rw [hsz2];exact Nat.le_trans hbel.size hkf.size) ((hI _).putObj _ hia hCL hba.at_ rfl) ((hAx x a').putObj (s := ()) _ hax hCL hba.at_ rfl) hlen) ?_
  have fin : ∀ (jump : Option Code) (W3 : World),KeepsFrom C (Wa.putObj L (.loop { rec .ready none with state := .busy })) W3 →
    (Instr.endRound L jump).run P W3 = .ok (.bool jump.isNone) (W3.putObj L (.loop (rec (if jump.isNone then .ready else .done) jump))) ∧
    W3.heap[L]? = some (.loop { rec .ready none with state := .busy }) ∧ Book dz L (rec (if jump.isNone then .ready else .done) jump) (W3.putObj L (.loop (rec (if jump.isNone then .ready else .done) jump))) ∧
    C ≤ (W3.putObj L (.loop (rec (if jump.isNone then .ready else .done) jump))).heap.size := fun jump W3 hk3 => by
   have hb3 := hba2.from_ hCL hdz hk3
   have he := run_endRound (P := P) jump hb3.at_
   refine ⟨?_,hb3.at_,hb3.put (C := C) hdz _,by have := hk3.size;rw [hsz2] at this;simp;omega⟩
   rw [hrec] at he ⊢
   exact he
  rintro e a3 W3 hp
  cases e with
  | normal =>
   obtain ⟨hk3,hkp3,hi3⟩ := hp
   obtain ⟨hr,hl3,hb4,hC4⟩ := fin none W3 hk3
   have hsz3 : n₀ ≤ W3.heap.size := Nat.le_trans hnC (by simpa using hC4)
   refine ⟨_,_,hr,.inl ⟨rfl,⟨?_,hb4,hC4⟩,((hkb.trans hkb2).trans hkp3).trans (KeepB.putObj _ hsz3 (Nat.le_trans hnC hCL) hl3 rfl)⟩⟩
   have hx := (hI _).putObj (.loop (rec .ready none)) hi3 hCL hl3 rfl
   simpa using hx
  | ret =>
   obtain ⟨hk3,hi3⟩ := hp
   obtain ⟨hr,hl3,hb4,hC4⟩ := fin (some .ret) W3 hk3
   exact ⟨_,_,hr,.inr ⟨rfl,.ret,(hIx _).putObj _ hi3 hCL hl3 rfl,hb4,hC4⟩⟩
  | exit id =>
   obtain ⟨hk3,hi3⟩ := hp
   obtain ⟨hr,hl3,hb4,hC4⟩ := fin (some (.exit id)) W3 hk3
   exact ⟨_,_,hr,.inr ⟨rfl,.exit id,(hIx _).putObj _ hi3 hCL hl3 rfl,hb4,hC4⟩⟩
  | goto t =>
   obtain ⟨hk3,hi3⟩ := hp
   obtain ⟨hr,hl3,hb4,hC4⟩ := fin (some (.goto t)) W3 hk3
   exact ⟨_,_,hr,.inr ⟨rfl,.goto t,(hIx _).putObj _ hi3 hCL hl3 rfl,hb4,hC4⟩⟩
  | panic ch => exact hp.elim
  | outgrown => exact hp.elim
 ·rintro e W2 ⟨⟨v,rfl⟩,(⟨xs,hS,hi,hb,hC⟩ | ⟨pre,hSp,c,hi,hb,hC⟩)⟩
  ·exact ⟨⟨v,rfl⟩,.inl ⟨xs,hS,hC,hi,hb⟩⟩
  ·exact ⟨⟨v,rfl⟩,.inr ⟨pre,c,hSp,hC,hi,hb⟩⟩
/-- A loop that stands in no round. -/
theorem range_outer {α : Type} {g : Operand} {ps : Array Tmp} {assign body : Code} {Q : Exit → Act → World → Prop} {a : Act} {w : World} {n₀ : Nat} {Pr : Nat → Prop}
  (hro : F.round = none) (h1 : 1 ≤ n) {gf : Nat} {lb : Array Value} (hg : a.eval g = .func (.func gf) #[] lb) (hFg : F.fn gf) (eg : ∀ args w,(callFunc gf args).run P w = .ok (.enter gf args) w)
  {encs : α → Array Value} {S Sp : List α → Prop} {N : Nat} {w0 : World} (hseq : SeqB F (n - 1) P gf lb encs n₀ Pr S Sp N w0) (hb0 : Below w0.heap.size w0 w) (hps : ∀ x,(encs x).size = ps.size) (hn₀ : n₀ ≤ w.heap.size)
  (I : Nat → List α → World → Prop) (Ix : Code → List α → World → Prop) (hI : ∀ B,OwnFrom w.heap.size (I B)) (hm : ∀ B B' pre W,B ≤ B' → I B pre W → I B' pre W) (hIx : ∀ c,OwnFrom w.heap.size (Ix c)) (h0 : I w.heap.size [] w)
  (Ax : α → Act → World → Prop) (hAx : ∀ x a',OwnFrom w.heap.size (fun (_ : Unit) W => Ax x a' W))
  (hassign : ∀ (l B : Nat) (pre : List α) (x : α) (W : World) (K : Act → World → Prop),w.heap.size ≤ W.heap.size → B ≤ W.heap.size → I B pre W → (∀ a' W',KeepsFrom w.heap.size W W' → KeepB n₀ Pr B W W' → I B pre W' → Ax x a' W' → K a' W') →
   assign.wpIn (F.inRound l) (n - 1 - 1) P (Exit.then K (fun _ _ _ => False)) { tmps := (ps.zip (encs x)).foldl (fun t (p,v) => t.setIfInBounds p v) a.tmps,defers := [] } W)
  (hbody : ∀ (l B : Nat) (pre : List α) (x : α) (a' : Act) (W : World),w.heap.size ≤ l → w.heap.size ≤ W.heap.size → (∃ r,W.heap[l]? = some (.loop r)) → B ≤ W.heap.size → I B pre W → Ax x a' W → pre.length < N → body.wpIn (F.inRound l) (n - 1 - 1) P (PostB w.heap.size n₀ Pr B I Ix (pre ++ [x]) W) a' W)
  (hdone : ∀ (D : Nat) (xs : List α) (W : World),w.heap.size ≤ D → S xs → I W.heap.size xs W → W.heap[D]? = some (.deferred (some [])) → Q .normal { a with defers := { target := .collected D,args := #[] } :: a.defers } W)
  (hstop : ∀ (D : Nat) (c : Code) (pre : List α) (W : World),w.heap.size ≤ D → Sp pre → Ix c pre W → W.heap[D]? = some (.deferred (some [])) → c.wpIn F n P Q { a with defers := { target := .collected D,args := #[] } :: a.defers } W) :
  (Code.rangeFunc g ps assign body).wpIn F n P Q a w := by
 refine wpIn_rangeFunc ?_
 intro fid hfid
 rw [hro]
 obtain ⟨rec,hrec⟩ : ∃ rec : LoopState → Option Code → Loop,rec = fun st pe => { state := st,pending := pe,fn := fid,tmps := a.tmps,params := ps,assign,body,defers := w.heap.size } := ⟨_,rfl⟩
 obtain ⟨W1,hW1⟩ : ∃ W1,(w.alloc (.deferred (some []))).alloc (.loop (rec .ready none)) = W1 := ⟨_,rfl⟩
 have hbk : Book (some w.heap.size) (w.heap.size + 1) (rec .ready none) W1 := by
  rw [← hW1]
  refine ⟨?_,fun d e => ?_⟩
  ·have := World.alloc_heap_new (w.alloc (.deferred (some []))) (.loop (rec .ready none));rwa [World.size_alloc] at this
  ·cases e;exact (Below.heap_alloc _ _ _ (by simp)).trans (World.alloc_heap_new w _)
 have hsz : W1.heap.size = w.heap.size + 2 := by rw [← hW1];simp
 have hI1 : I W1.heap.size [] W1 := hm w.heap.size W1.heap.size [] W1 (by omega) (by rw [← hW1];exact (hI w.heap.size).alloc _ ((hI w.heap.size).alloc _ h0))
 have hb1 : Below w0.heap.size w0 W1 := by
  rw [← hW1];exact hb0.trans ((((Below.refl _ w).alloc (Nat.le_refl _) _).alloc (by simp) _).mono hb0.size)
 refine ⟨w.heap.size + 1,[{ target := .collected w.heap.size,args := #[] }],W1,{ target := .fn (.func gf) lb,args := #[.func (.yield (w.heap.size + 1)) #[] #[]] },W1,gf,
  #[.func (.yield (w.heap.size + 1)) #[] #[]] ++ lb,W1,?_,?_,?_,?_,fun _ => h1,?_⟩
 ·rw [← hW1,hrec];exact run_enterLoop_outer _ _ _ _ _
 ·simp only [resolve,hg]
  simp [go_sem]
 ·intro f' hf';simp [Target.leads] at hf';subst hf';exact hFg
 ·simp [invoke,go_sem,eg]
 ·refine (rounds (C := w.heap.size) (dz := some w.heap.size) hfid hseq hb1 hps rec hrec hn₀ (by omega) (by omega) (fun d e => by cases e;exact ⟨Nat.le_refl _,by omega⟩) hbk I Ix hI hm hIx hI1 Ax hAx
   (fun B => hassign _ B) (fun B pre x a' W => hbody _ B pre x a' W (by omega))).mono ?_
  rintro e W2 ⟨⟨v,rfl⟩,(⟨xs,hS,hC,hi,hb⟩ | ⟨pre,c,hSp,hC,hi,hb⟩)⟩
  ·refine ⟨none,_,by have := run_endLoop (P := P) hb.at_ (by rw [hrec];simp);rw [hrec] at this;exact this,hdone w.heap.size xs _ (Nat.le_refl _) hS ?_ ((World.putObj_heap_other (by omega)).trans (hb.dz_ _ rfl))⟩
   have hx := (hI _).putObj (.loop { rec .ready none with state := .exhausted }) hi (by omega : w.heap.size ≤ w.heap.size + 1) hb.at_ rfl
   rw [hrec] at hx
   simpa using hx
  ·exact ⟨some c,_,by have := run_endLoop (P := P) hb.at_ (by rw [hrec];simp);rw [hrec] at this;exact this,hstop w.heap.size c pre _ (Nat.le_refl _) hSp ((hIx c).putObj _ hi (by omega) hb.at_ rfl) ((World.putObj_heap_other (by omega)).trans (hb.dz_ _ rfl))⟩
end Go.Proofs.YtkficbgnjpekaaaDoor.Rf
end
section
namespace Go.Proofs.YtkficbgnjpekaaaDoor.Mu
open Go Go.Lib
def byt (s : ByteArray) (i : Nat) : Nat := (s.get! i).toNat
theorem byt_lt (s : ByteArray) (i : Nat) : byt s i < 256 := (s.get! i).toNat_lt
theorem dec_ascii (n b0 b1 b2 b3 : Nat) (h : b0 < 128) : decodeN n b0 b1 b2 b3 = (b0,1) := by unfold decodeN;rw [if_pos h]
theorem dec_two (n b0 b1 b2 b3 : Nat) (h0 : 192 ≤ b0) (h1 : b0 < 224) (hn : 1 < n) (h2 : b1 / 64 = 2) (hc : 128 ≤ b0 % 32 * 64 + b1 % 64) : decodeN n b0 b1 b2 b3 = (b0 % 32 * 64 + b1 % 64,2) := by
 unfold decodeN;rw [if_neg (by omega),if_pos ⟨by omega,hn,h2⟩,if_pos hc]
theorem dec_three (n b0 b1 b2 b3 : Nat) (h0 : 224 ≤ b0) (h1 : b0 < 240) (hn : 2 < n) (h2 : b1 / 64 = 2) (h3 : b2 / 64 = 2) (hc : 2048 ≤ b0 % 16 * 4096 + b1 % 64 * 64 + b2 % 64)
  (hs : b0 % 16 * 4096 + b1 % 64 * 64 + b2 % 64 < 55296 ∨ 57344 ≤ b0 % 16 * 4096 + b1 % 64 * 64 + b2 % 64) : decodeN n b0 b1 b2 b3 = (b0 % 16 * 4096 + b1 % 64 * 64 + b2 % 64,3) := by
 unfold decodeN;rw [if_neg (by omega),if_neg (by omega),if_pos ⟨by omega,⟨by omega,h2⟩,hn,h3⟩,if_pos ⟨hc,by omega⟩]
theorem dec_four (n b0 b1 b2 b3 : Nat) (h0 : 240 ≤ b0) (h1 : b0 < 248) (hn : 3 < n) (h2 : b1 / 64 = 2) (h3 : b2 / 64 = 2) (h4 : b3 / 64 = 2) (hc : 65536 ≤ b0 % 8 * 262144 + b1 % 64 * 4096 + b2 % 64 * 64 + b3 % 64)
  (hs : b0 % 8 * 262144 + b1 % 64 * 4096 + b2 % 64 * 64 + b3 % 64 ≤ 1114111) : decodeN n b0 b1 b2 b3 = (b0 % 8 * 262144 + b1 % 64 * 4096 + b2 % 64 * 64 + b3 % 64,4) := by
 unfold decodeN;rw [if_neg (by omega),if_neg (by omega),if_neg (by omega),if_pos ⟨by omega,⟨by omega,h2⟩,⟨by omega,h3⟩,hn,h4⟩,if_pos ⟨hc,by omega⟩]
/-- What a decoding can be. -/
theorem dec_cases (n b0 b1 b2 b3 : Nat) (hb : b0 < 256) :
  (b0 < 128 ∧ decodeN n b0 b1 b2 b3 = (b0,1)) ∨
  (128 ≤ b0 ∧ decodeN n b0 b1 b2 b3 = (65533,1)) ∨
  (192 ≤ b0 ∧ b0 < 224 ∧ 1 < n ∧ b1 / 64 = 2 ∧ 128 ≤ b0 % 32 * 64 + b1 % 64 ∧ decodeN n b0 b1 b2 b3 = (b0 % 32 * 64 + b1 % 64,2)) ∨
  (224 ≤ b0 ∧ b0 < 240 ∧ 2 < n ∧ b1 / 64 = 2 ∧ b2 / 64 = 2 ∧ 2048 ≤ b0 % 16 * 4096 + b1 % 64 * 64 + b2 % 64 ∧ (b0 % 16 * 4096 + b1 % 64 * 64 + b2 % 64 < 55296 ∨ 57344 ≤ b0 % 16 * 4096 + b1 % 64 * 64 + b2 % 64) ∧
   decodeN n b0 b1 b2 b3 = (b0 % 16 * 4096 + b1 % 64 * 64 + b2 % 64,3)) ∨
  (240 ≤ b0 ∧ b0 < 248 ∧ 3 < n ∧ b1 / 64 = 2 ∧ b2 / 64 = 2 ∧ b3 / 64 = 2 ∧ 65536 ≤ b0 % 8 * 262144 + b1 % 64 * 4096 + b2 % 64 * 64 + b3 % 64 ∧ b0 % 8 * 262144 + b1 % 64 * 4096 + b2 % 64 * 64 + b3 % 64 ≤ 1114111 ∧
   decodeN n b0 b1 b2 b3 = (b0 % 8 * 262144 + b1 % 64 * 4096 + b2 % 64 * 64 + b3 % 64,4)) := by
 by_cases h1 : b0 < 128
 ·exact .inl ⟨h1,dec_ascii _ _ _ _ _ h1⟩
 ·refine .inr ?_
  by_cases h2 : b0 / 32 = 6 ∧ (1 < n ∧ b1 / 64 = 2)
  ·by_cases hc : 128 ≤ b0 % 32 * 64 + b1 % 64
   ·exact .inr (.inl ⟨by omega,by omega,h2.2.1,h2.2.2,hc,dec_two _ _ _ _ _ (by omega) (by omega) h2.2.1 h2.2.2 hc⟩)
   ·exact .inl ⟨by omega,by unfold decodeN;rw [if_neg h1,if_pos h2,if_neg hc]⟩
  ·by_cases h3 : b0 / 16 = 14 ∧ (1 < n ∧ b1 / 64 = 2) ∧ (2 < n ∧ b2 / 64 = 2)
   ·by_cases hc : b0 % 16 * 4096 + b1 % 64 * 64 + b2 % 64 ≥ 2048 ∧ (b0 % 16 * 4096 + b1 % 64 * 64 + b2 % 64 < 55296 ∨ (57344 ≤ b0 % 16 * 4096 + b1 % 64 * 64 + b2 % 64 ∧ b0 % 16 * 4096 + b1 % 64 * 64 + b2 % 64 ≤ 1114111))
    ·exact .inr (.inr (.inl ⟨by omega,by omega,h3.2.2.1,h3.2.1.2,h3.2.2.2,hc.1,by omega,dec_three _ _ _ _ _ (by omega) (by omega) h3.2.2.1 h3.2.1.2 h3.2.2.2 hc.1 (by omega)⟩))
    ·exact .inl ⟨by omega,by unfold decodeN;rw [if_neg h1,if_neg h2,if_pos h3,if_neg hc]⟩
   ·by_cases h4 : b0 / 8 = 30 ∧ (1 < n ∧ b1 / 64 = 2) ∧ (2 < n ∧ b2 / 64 = 2) ∧ (3 < n ∧ b3 / 64 = 2)
    ·by_cases hc : b0 % 8 * 262144 + b1 % 64 * 4096 + b2 % 64 * 64 + b3 % 64 ≥ 65536 ∧ (b0 % 8 * 262144 + b1 % 64 * 4096 + b2 % 64 * 64 + b3 % 64 < 55296 ∨ (57344 ≤ b0 % 8 * 262144 + b1 % 64 * 4096 + b2 % 64 * 64 + b3 % 64 ∧ b0 % 8 * 262144 + b1 % 64 * 4096 + b2 % 64 * 64 + b3 % 64 ≤ 1114111))
     ·exact .inr (.inr (.inr ⟨by omega,by omega,h4.2.2.2.1,h4.2.1.2,h4.2.2.1.2,h4.2.2.2.2,hc.1,by omega,dec_four _ _ _ _ _ (by omega) (by omega) h4.2.2.2.1 h4.2.1.2 h4.2.2.1.2 h4.2.2.2.2 hc.1 (by omega)⟩))
     ·exact .inl ⟨by omega,by unfold decodeN;rw [if_neg h1,if_neg h2,if_neg h3,if_pos h4,if_neg hc]⟩
    ·exact .inl ⟨by omega,by unfold decodeN;rw [if_neg h1,if_neg h2,if_neg h3,if_neg h4]⟩
theorem dec_cont (n b0 b1 b2 b3 : Nat) (h : b0 / 64 = 2) : decodeN n b0 b1 b2 b3 = (65533,1) := by
 rcases dec_cases n b0 b1 b2 b3 (by omega) with h1 | h1 | h1 | h1 | h1
 ·omega
 ·exact h1.2
 all_goals omega
/-- Its bytes. -/
def uN (s : ByteArray) (i : Nat) : Nat := (Utf8.decode s i).2
/-- Its character,-1 of a bad one. -/
def uC (s : ByteArray) (i : Nat) : Int := if (Utf8.decode s i).1 = 65533 ∧ (Utf8.decode s i).2 = 1 then -1 else ((Utf8.decode s i).1 : Int)
theorem dec_eq (s : ByteArray) (i : Nat) : Utf8.decode s i = decodeN (s.size - i) (byt s i) (byt s (i + 1)) (byt s (i + 2)) (byt s (i + 3)) := decode_at s i
theorem uN_pos (s : ByteArray) (i : Nat) : 1 ≤ uN s i := by unfold uN;rw [dec_eq];exact decodeN_ge1 _ _ _ _ _
theorem uN_le4 (s : ByteArray) (i : Nat) : uN s i ≤ 4 := by unfold uN;rw [dec_eq];exact decodeN_le4 _ _ _ _ _
theorem uN_le (s : ByteArray) (i : Nat) (h : i < s.size) : i + uN s i ≤ s.size := by
 have := decodeN_le_n (s.size - i) (byt s i) (byt s (i + 1)) (byt s (i + 2)) (byt s (i + 3)) (by omega)
 rw [← dec_eq] at this
 unfold uN
 omega
/-- Behind the first byte of a unit of several,each byte goes on an encoding. -/
theorem inner_cont (s : ByteArray) (j i : Nat) (h1 : j < i) (h2 : i < j + uN s j) : byt s i / 64 = 2 := by
 have hc := dec_cases (s.size - j) (byt s j) (byt s (j + 1)) (byt s (j + 2)) (byt s (j + 3)) (byt_lt s j)
 unfold uN at h2
 rw [dec_eq] at h2
 rcases hc with h | h | h | h | h
 ·rw [h.2] at h2;simp only at h2;omega
 ·rw [h.2] at h2;simp only at h2;omega
 ·rw [h.2.2.2.2.2] at h2;simp only at h2
  obtain rfl : i = j + 1 := by omega
  exact h.2.2.2.1
 ·rw [h.2.2.2.2.2.2.2] at h2;simp only at h2
  rcases (by omega : i = j + 1 ∨ i = j + 2) with rfl | rfl
  ·exact h.2.2.2.1
  ·exact h.2.2.2.2.1
 ·rw [h.2.2.2.2.2.2.2.2] at h2;simp only at h2
  rcases (by omega : i = j + 1 ∨ i = j + 2 ∨ i = j + 3) with rfl | rfl | rfl
  ·exact h.2.2.2.1
  ·exact h.2.2.2.2.1
  ·exact h.2.2.2.2.2.1
theorem cont_one (s : ByteArray) (i : Nat) (h : byt s i / 64 = 2) : uN s i = 1 ∧ uC s i = -1 := by
 have e : Utf8.decode s i = (65533,1) := by rw [dec_eq];exact dec_cont _ _ _ _ _ h
 unfold uN uC
 rw [e]
 simp
/-- No two encodings overlap. -/
theorem inner_one (s : ByteArray) (j i : Nat) (h1 : j < i) (h2 : i < j + uN s j) : uN s i = 1 := (cont_one s i (inner_cont s j i h1 h2)).1
def Bd (s : ByteArray) (i : Nat) : Prop := i ≤ s.size ∧ ∀ j,j < i → j + uN s j ≤ i
theorem bd_zero (s : ByteArray) : Bd s 0 := ⟨Nat.zero_le _,fun j h => by omega⟩
theorem bd_size (s : ByteArray) : Bd s s.size := ⟨Nat.le_refl _,fun j h => uN_le s j h⟩
theorem bd_next (s : ByteArray) (i : Nat) (h : Bd s i) (hi : i < s.size) : Bd s (i + uN s i) := by
 refine ⟨uN_le s i hi,fun j hj => ?_⟩
 rcases Nat.lt_trichotomy j i with h1 | h1 | h1
 ·have := h.2 j h1;omega
 ·subst h1;omega
 ·have := inner_one s i j h1 hj;omega
theorem not_bd_inner (s : ByteArray) (i k : Nat) (h1 : i < k) (h2 : k < i + uN s i) : ¬ Bd s k := fun h => by have := h.2 i h1;omega
/-- What begins a unit of several bytes is a boundary. -/
theorem bd_long (s : ByteArray) (i : Nat) (hi : i < s.size) (h : 2 ≤ uN s i) : Bd s i := by
 refine ⟨by omega,fun j hj => ?_⟩
 by_cases h2 : i < j + uN s j
 ·have := inner_one s j i hj h2;omega
 ·omega
/-- What is no boundary lies within just one unit. -/
theorem within (s : ByteArray) (i : Nat) (hi : i ≤ s.size) (h : ¬ Bd s i) : ∃ j,j < i ∧ i < j + uN s j ∧ Bd s j ∧ i ≤ j + 3 := by
 have : ¬ ∀ j,j < i → j + uN s j ≤ i := fun h2 => h ⟨hi,h2⟩
 simp only [Classical.not_forall] at this
 obtain ⟨j,hj,hj2⟩ := this
 have h4 := uN_le4 s j
 exact ⟨j,hj,by omega,bd_long s j (by omega) (by omega),by omega⟩
/-- A unit's bytes decide it: in another text that has the same bytes,it is the same. -/
theorem dec_prefix (s t : ByteArray) (i j : Nat) (h2 : 2 ≤ uN s i) (hs : ∀ k,k < uN s i → byt t (j + k) = byt s (i + k)) (hsz : j + uN s i ≤ t.size) : Utf8.decode t j = Utf8.decode s i := by
 have hc := dec_cases (s.size - i) (byt s i) (byt s (i + 1)) (byt s (i + 2)) (byt s (i + 3)) (byt_lt s i)
 unfold uN at h2 hs hsz
 rw [dec_eq] at h2 hs hsz
 rw [dec_eq s i,dec_eq t j]
 rcases hc with h | h | h | h | h
 ·rw [h.2] at h2;simp only at h2;omega
 ·rw [h.2] at h2;simp only at h2;omega
 ·obtain ⟨h0,h1,_,h3,h4,e⟩ := h
  rw [e] at hs hsz ⊢
  simp only at hs hsz
  have e0 := hs 0 (by omega);have e1 := hs 1 (by omega)
  rw [Nat.add_zero,Nat.add_zero] at e0
  rw [← e0,← e1] at h4 ⊢
  rw [← e0] at h0 h1
  rw [← e1] at h3
  exact dec_two _ _ _ _ _ h0 h1 (by omega) h3 h4
 ·obtain ⟨h0,h1,_,h3,h5,h4,h6,e⟩ := h
  rw [e] at hs hsz ⊢
  simp only at hs hsz
  have e0 := hs 0 (by omega);have e1 := hs 1 (by omega);have e2 := hs 2 (by omega)
  rw [Nat.add_zero,Nat.add_zero] at e0
  rw [← e0,← e1,← e2] at h4 h6 ⊢
  rw [← e0] at h0 h1
  rw [← e1] at h3
  rw [← e2] at h5
  exact dec_three _ _ _ _ _ h0 h1 (by omega) h3 h5 h4 h6
 ·obtain ⟨h0,h1,_,h3,h5,h7,h4,h6,e⟩ := h
  rw [e] at hs hsz ⊢
  simp only at hs hsz
  have e0 := hs 0 (by omega);have e1 := hs 1 (by omega);have e2 := hs 2 (by omega);have e3 := hs 3 (by omega)
  rw [Nat.add_zero,Nat.add_zero] at e0
  rw [← e0,← e1,← e2,← e3] at h4 h6 ⊢
  rw [← e0] at h0 h1
  rw [← e1] at h3
  rw [← e2] at h5
  rw [← e3] at h7
  exact dec_four _ _ _ _ _ h0 h1 (by omega) h3 h5 h7 h4 h6
theorem decodeGo_extract (s : ByteArray) (pos : Nat) (h : pos < s.size) : decodeGo (s.extract pos s.size) = Utf8.decode s pos := by
 have hx : (s.extract pos s.size).data.toList = s.data.toList.drop pos := by
  rw [extract_data,List.take_of_length_le (by rw [List.length_drop,← size_eq];omega)]
 have hsz : (s.extract pos s.size).size ≠ 0 := by rw [size_eq,hx,List.length_drop,← size_eq];omega
 unfold decodeGo
 rw [if_neg hsz,← decodeL_drop s pos,← hx]
 rfl
theorem get!_eq (s : ByteArray) (i : Nat) : s.get! i = s.data.toList.getD i 0 := by
 show s.data[i]! = _
 simp [Array.getElem!_eq_getD]
 rfl
theorem byt_extract (s : ByteArray) (a b i : Nat) (h : a + i < b) (_hb : b ≤ s.size) : byt (s.extract a b) i = byt s (a + i) := by
 unfold byt
 rw [get!_eq,get!_eq,extract_data,List.getD_eq_getElem?_getD,List.getD_eq_getElem?_getD,List.getElem?_take,if_pos (by omega),List.getElem?_drop]
theorem byt_append_left (s t : ByteArray) (i : Nat) (h : i < s.size) : byt (s ++ t) i = byt s i := by
 unfold byt
 rw [get!_eq,get!_eq,List.getD_eq_getElem?_getD,List.getD_eq_getElem?_getD]
 have e : (s ++ t).data.toList = s.data.toList ++ t.data.toList := by simp
 rw [e,List.getElem?_append_left (by rw [← size_eq];exact h)]
theorem byt_append_right (s t : ByteArray) (i : Nat) : byt (s ++ t) (s.size + i) = byt t i := by
 unfold byt
 rw [get!_eq,get!_eq,List.getD_eq_getElem?_getD,List.getD_eq_getElem?_getD]
 have e : (s ++ t).data.toList = s.data.toList ++ t.data.toList := by simp
 rw [e,List.getElem?_append_right (by rw [← size_eq];omega),← size_eq,show s.size + i - s.size = i by omega]
theorem size_extract (s : ByteArray) (a b : Nat) (hb : b ≤ s.size) : (s.extract a b).size = b - a := by simp;omega
end Go.Proofs.YtkficbgnjpekaaaDoor.Mu
end
section
namespace Go.Proofs.YtkficbgnjpekaaaDoor.U
open Go.RowKit Go.Shelf Go.Proofs.YtkficbgnjpekaaaDoor.Mu Go.Proofs.YtkficbgnjpekaaaDoor.Rf Go.Proofs.YtkficbgnjpekaaaDoorW.PrintWords Go.Proofs.YtkficbgnjpekaaaDoorW.PrintLast Go.Proofs.YtkficbgnjpekaaaDoorW.PrintMore
attribute [local go_sem] Oper.semAt_some
set_option linter.unusedVariables false
set_option linter.unusedSimpArgs false
def uAt (s : ByteArray) (i : Nat) : S42 := ⟨uC s i,(uN s i : Int)⟩
def walkL (s : ByteArray) : Nat → Nat → List (Int × S42)
 | 0,_ => []
 | k + 1,i => if i < s.size then ((i : Int),uAt s i) :: walkL s k (i + uN s i) else []
def walkU (s : ByteArray) : List (Int × S42) := walkL s s.size 0
def unitsL (s : ByteArray) : List S42 := (walkU s).map (·.2)
theorem walkL_length (s : ByteArray) : ∀ k i,(walkL s k i).length ≤ k
 | 0,_ => by simp [walkL]
 | k + 1,i => by
  unfold walkL
  split
  ·have := walkL_length s k (i + uN s i);simp;omega
  ·simp
theorem unitsL_length (s : ByteArray) : (unitsL s).length ≤ s.size := by
 unfold unitsL walkU;rw [List.length_map];exact walkL_length s s.size 0
theorem first_at (s : ByteArray) (i : Nat) (h : i < s.size) : unit_first.f (s.extract i s.size) = some (uC s i,(uN s i : Int)) := by
 unfold unit_first.f utf8_DecodeRuneInString.f
 rw [decodeGo_extract s i h]
 unfold uC uN
 simp only [Option.bind_some]
 generalize Utf8.decode s i = d
 obtain ⟨c,m⟩ := d
 by_cases hc : c = 65533
 ·by_cases hm : m = 1
  ·subst hc;subst hm;simp
  ·have : ¬ ((m : Int) = 1) := by omega
   simp [hc,hm,this]
 ·have : ¬ ((c : Int) = 65533) := by omega
  simp [hc,this]
abbrev encU (x : Int × S42) : Array Value := #[.int .i64 x.1,.agg #[.int .i32 x.2.f0,.int .i64 x.2.f1]]
set_option maxRecDepth 100000 in
set_option maxHeartbeats 2000000 in
/-- unit.Walk's inner function: its contract. -/
theorem walk1_seq (n : Nat) (hn : 1 ≤ n) (w₀ w : World) (s : ByteArray) (Bs : Nat) (hs : s.size ≤ 4611686018427387904) (hT : Lib.Utf8Tabs 0 1 w₀) (hb : Below w₀.heap.size w₀ w) (hc : Boxed w Bs 9 (.string s)) :
  SeqB Fence.wide n Tryd.prog 89 #[.pointer (some ⟨Bs,0,none⟩)] encU w₀.heap.size (fun k => k = Bs) (fun xs => Hid (xs = walkU s)) (fun pre => pre <+: walkU s) (walkU s).length w := by
 intro l J Jx W hW hJ hJx hY h0
 refine callsIn_of_wp Tryd.func89 rfl trivial ?_ rfl
 simp only [Tryd.ntmps89,List.size_toArray,List.length_cons,List.length_nil,Nat.reduceAdd,Nat.reduceSub,Array.replicate_succ,Array.replicate_zero,List.push_toArray,List.append_toArray,List.nil_append,List.cons_append]
 gi_wp2
 gi_loopw [3] (fun v wr => ∃ (i k : Nat) (pre : List (Int × S42)),v = .int .i64 i ∧ i ≤ s.size ∧ s.size ≤ i + k ∧ Hid (walkU s = pre ++ walkL s k i) ∧ J pre wr ∧ Boxed wr Bs 9 (.string s) ∧ Below w₀.heap.size w₀ wr)
  (fun v _ => s.size - (intOf v).toNat)
 case atStart =>
  exact ⟨0,s.size,[],rfl,Nat.zero_le _,by omega,Lib.hid rfl,h0,(hW.block Bs hc.lt).trans hc,hb.trans (hW.mono hb.size)⟩
 case round =>
  obtain ⟨i,k,pre,rfl,hi,hk,hx,hJs,hbx,hbl⟩ := hrel
  have hcb := hbx.cell
  by_cases hlt : i < s.size
  ·have hlt' : (i : Int) < (s.size : Int) := by omega
   obtain ⟨k,rfl⟩ : ∃ k',k = k' + 1 := ⟨k - 1,by omega⟩
   obtain ⟨c,hc'⟩ : ∃ c,uC s i = c := ⟨_,rfl⟩
   obtain ⟨m,hm'⟩ : ∃ m,uN s i = m := ⟨_,rfl⟩
   have hf : Hid (unit_first.f (s.extract i s.size) = some (c,(m : Int))) := Lib.hid (by rw [first_at s i hlt,hc',hm'])
   have hx2 : Hid (walkU s = pre ++ ((i : Int),(⟨c,(m : Int)⟩ : S42)) :: walkL s k (i + m)) := Lib.hid (by
    have := hx.out;rw [walkL,if_pos hlt] at this;unfold uAt at this;rw [hc',hm'] at this;exact this)
   have hm1 : 1 ≤ m := hm' ▸ uN_pos s i
   have hm2 : i + m ≤ s.size := hm' ▸ uN_le s i hlt
   clear hx hc' hm'
   have hTw := tabs_below hT hbl
   gi_wp2_with (refine ⟨trivial,?_⟩;gi_at_call 60;refine (callsIn_wide.2 (unit_first.calls (s.extract i s.size) c m wr hTw hf.out)).mono ?_;rintro e w1 ⟨rfl,hb1⟩;obtain ⟨fn,tmps,assign,body,hy,hR⟩ := hY pre ((i : Int),(⟨c,(m : Int)⟩ : S42)) wr (w1.alloc (.cells #[.int .i32 c,.int .i64 m] 42)) hJs (hb1.alloc hb1.size _) (by rw [hx2.out];simp))
   refine hR.mono ?_
   rintro e W3 (⟨rfl,hJ3,hk3⟩ | ⟨rfl,hJx3⟩)
   ·have hu3 := hk3.2 w1.heap.size _ (.inr hb1.size) (World.alloc_heap_new w1 _) rfl
    have hbx3 : Boxed W3 Bs 9 (.string s) := hk3.2 Bs _ (.inl rfl) (((hb1.alloc hb1.size _).block Bs hbx.lt).trans hbx) rfl
    have hbl3 : Below w₀.heap.size w₀ W3 := (hbl.trans ((hb1.alloc hb1.size _).mono hbl.size)).trans hk3.1
    have hcu : W3.cell? ⟨w1.heap.size,1,none⟩ = some (.int .i64 m) := by simp [World.cell?,hu3]
    gi_wp2
    go_roundw
    case rel => exact ⟨i + m,k,pre ++ [((i : Int),(⟨c,(m : Int)⟩ : S42))],by go_num,by omega,by omega,Lib.hid (by rw [hx2.out];simp),hJ3,hbx3,hbl3⟩
    case measure => simp [intOf];omega
   ·gi_wp2
    refine bodyPost_ret (results_none rfl _ _ _) rfl ?_
    exact ⟨⟨_,rfl⟩,.inr ⟨_,⟨walkL s k (i + m),by rw [hx2.out];simp⟩,hJx3⟩⟩
  ·have hge : ¬ ((i : Int) < (s.size : Int)) := by omega
   gi_wp2
   go_end0
   have hz : walkL s k i = [] := by cases k with
    | zero => rfl
    | succ k => rw [walkL,if_neg hlt]
   exact ⟨⟨_,rfl⟩,.inl ⟨pre,Lib.hid (by rw [hx.out,hz,List.append_nil]),hJs⟩⟩
theorem walk_calls (s : ByteArray) (w : World) :
  Calls Tryd.prog 83 #[.string s] w fun e w' => e = .returned (.func (.func 89) #[] #[.pointer (some ⟨w.heap.size,0,none⟩)]) ∧ w' = w.alloc (.cells #[.string s] 9) := by
 go_enter Tryd.func83,Tryd.ntmps83
 go_wp2
 go_ret
 exact ⟨rfl,rfl⟩
def cellsU : List S42 → List Value
 | [] => []
 | u :: us => .int .i32 u.f0 :: .int .i64 u.f1 :: cellsU us
theorem cellsU_snoc (us : List S42) (u : S42) : cellsU (us ++ [u]) = cellsU us ++ [.int .i32 u.f0,.int .i64 u.f1] := by
 induction us with
 | nil => rfl
 | cons x xs ih => simp [cellsU,ih]
theorem reps_cellsU (w : World) (base : Nat) (ok : Nat → Prop) : ∀ us : List S42,Reps (k42.M w base ok) 2 us (cellsU us)
 | [] => Reps.none _ _
 | u :: us => Reps.c2 (k42_mkM w base ok u) (reps_cellsU w base ok us)
theorem cells_two_new (w : World) (x y : Value) (t : TypeId) : ∀ j u,[x,y][j]? = some u → (w.alloc (.cells #[x,y] t)).cell? ((⟨w.heap.size,0,none⟩ : Addr).add j) = some u := by
 intro j u hj
 match j,hj with
 | 0,hj => simp at hj;subst hj;simp [Addr.add]
 | 1,hj => simp at hj;subst hj;simp [Addr.add]
 | (j + 2),hj => simp at hj
/-- An append to a row that a variable holds turns no cells of the iterator's. -/
theorem appended_keepB {W w1 : World} {B outB : Nat} {v v' : Value} {tmp : Obj} {Pr : Nat → Prop} (hgrow : (W.alloc tmp).grownBy w1 v.ownBlock) (hout : outB < B) (hPr : ∀ k, Pr k → k ≠ outB ∧ some k ≠ v.ownBlock)
    (hv : ∀ g, v.ownBlock = some g → g < B) : ∀ (k : Nat) (o : Obj), (Pr k ∨ B ≤ k) → W.heap[k]? = some o → o.isCells = true → (w1.setCell ⟨outB, 0, none⟩ v').heap[k]? = some o := by
  intro k o hk ho _
  have h1 : k ≠ outB := by rcases hk with hk | hk
                           · exact (hPr k hk).1
                           · omega
  have h2 : some k ≠ v.ownBlock := by
    rcases hk with hk | hk
    · exact (hPr k hk).2
    · intro e; have := hv k e.symm; omega
  have hlt := (Array.getElem?_eq_some_iff.1 ho).1
  exact (Below.heap_setCell w1 ⟨outB, 0, none⟩ v' k h1).trans ((hgrow.block k (by simp; omega) h2).trans ((Below.heap_alloc W tmp k hlt).trans ho))
set_option maxRecDepth 100000 in
set_option maxHeartbeats 4000000 in
theorem units_any (s : ByteArray) (w : World) (hs : s.size ≤ 8796093022207) (hT : Lib.Utf8Tabs 0 1 w) :
  Calls Tryd.prog 74 #[.string s] w fun e w' => ∃ v0_ : Value,e = .returned v0_ ∧ Kd.R k42 42 w' w.heap.size (fun _ => True) v0_ (unitsL s) ∧ Below w.heap.size w w' := by
 have hlen : (walkU s).length ≤ s.size := walkL_length s s.size 0
 obtain ⟨i0,hi,hz0,hz1,hz2⟩ := info_parts info42
 refine (callsIn_wide (n := 6)).1 ?_
 refine callsIn_of_wp_marks Tryd.func74 rfl trivial ?_ rfl
 simp only [Tryd.ntmps74,List.size_toArray,List.length_cons,List.length_nil,Nat.reduceAdd,Nat.reduceSub,Array.replicate_succ,Array.replicate_zero,List.push_toArray,List.append_toArray,List.nil_append,List.cons_append]
 gi_wp2_with (refine ⟨trivial,?_⟩;gi_at_call 83;refine (callsIn_wide.2 (walk_calls s _)).mono ?_;rintro e w' ⟨rfl,rfl⟩)
 have bO := (Boxed.new w 80 (.slice none 0 0)).alloc (.cells #[.string s] 9)
 have bS := Boxed.new (w.alloc (.cells #[.slice none 0 0] 80)) 9 (.string s)
 rw [World.size_alloc] at bS
 have hB0 : Below w.heap.size w ((w.alloc (.cells #[.slice none 0 0] 80)).alloc (.cells #[.string s] 9)) := ((Below.refl _ w).alloc (Nat.le_refl _) _).alloc (by simp) _
 have hsz : ((w.alloc (.cells #[.slice none 0 0] 80)).alloc (.cells #[.string s] 9)).heap.size = w.heap.size + 2 := by simp
 obtain ⟨W0,hW0⟩ : ∃ W0,(w.alloc (.cells #[.slice none 0 0] 80)).alloc (.cells #[.string s] 9) = W0 := ⟨_,rfl⟩
 rw [hW0] at bO bS hB0 hsz ⊢
 clear hW0
 refine range_outer (α := Int × S42) rfl (by omega) (gf := 89) (lb := #[.pointer (some ⟨w.heap.size + 1,0,none⟩)]) rfl trivial (enters_of Tryd.func89 (by kernel_rfl) rfl)
  (walk1_seq 5 (by omega) w W0 s (w.heap.size + 1) (by omega) hT hB0 bS) (Below.refl _ _) (fun _ => rfl) (by omega)
  (fun (B : Nat) (pre : List (Int × S42)) (W : World) => (((∃ v,Boxed W w.heap.size 80 v ∧ W.ownsRow w.heap.size 42 2 v pre.length (cellsU (pre.map (·.2))) ∧ (∀ g,v.ownBlock = some g → g < B)) ∧ Boxed W (w.heap.size + 1) 9 (.string s)) ∧ Below w.heap.size w W) ∧ w.heap.size < B)
  (fun _ _ _ => False)
  (fun B => OwnFrom.and (OwnFrom.and (OwnFrom.and (Own.from (holdsRow_own w.heap.size w.heap.size 80 42 2 (fun (pre : List (Int × S42)) => pre.length) (fun pre => cellsU (pre.map (·.2))) (fun _ v => ∀ g,v.ownBlock = some g → g < B)) _) (Own.from (boxed_own _ _ _) _)) (ownFrom_below (Nat.le_refl _) (by omega))) (ownFrom_pure _ (fun _ => w.heap.size < B)))
  (fun B B' pre W hBB h => ⟨⟨⟨by obtain ⟨v,h1,h2,h3⟩ := h.1.1.1;exact ⟨v,h1,h2,fun g hg => Nat.lt_of_lt_of_le (h3 g hg) hBB⟩,h.1.1.2⟩,h.1.2⟩,Nat.lt_of_lt_of_le h.2 hBB⟩)
  (fun _ _ _ _ _ hs _ _ => hs)
  ⟨⟨⟨⟨_,bO,World.ownsRow_nil _ _ _ _,by simp [Value.ownBlock]⟩,bS⟩,hB0⟩,by omega⟩
  (fun (x : Int × S42) (a' : Act) (W : World) => ∃ Bx,Hid (W.heap[Bx]? = some (.cells #[.int .i32 x.2.f0,.int .i64 x.2.f1] 42 (0,0))) ∧ a' = { tmps := #[.string s,undef,.slice none 0 0,.pointer (some ⟨w.heap.size,0,none⟩),undef,.pointer (some ⟨Bx,0,none⟩),.string s,.func (.func 89) #[] #[.pointer (some ⟨w.heap.size + 1,0,none⟩)],.int .i64 x.1,.agg #[.int .i32 x.2.f0,.int .i64 x.2.f1],undef,undef,undef,undef,undef],defers := [] })
  (fun x a' _ X Y row hs hg hr => by
   obtain ⟨Bx,h1,h2⟩ := hs
   refine ⟨Bx,?_,h2⟩
   refine (hg.block Bx (Array.getElem?_eq_some_iff.1 h1).1 (fun e => ?_)).trans h1
   obtain ⟨_,o,ho,hc⟩ := hr Bx e.symm
   rw [show X.heap[Bx]? = _ from h1] at ho;cases ho;cases hc)
  ?assign ?body ?done ?stop
 case assign =>
  rintro l B pre x W K hCW hBW hI hK
  have hsz1 := hI.1.2.size
  gi_wp2
  exact hK _ _ ((KeepsOthers.alloc _ _).from _) (KeepB.of_below hsz1 ((Below.refl _ W).alloc (Nat.le_refl _) _)) ⟨⟨⟨by obtain ⟨v,h1,h2,h3⟩ := hI.1.1.1;exact ⟨v,h1.alloc _,h2.alloc _,h3⟩,hI.1.1.2.alloc _⟩,hI.1.2.alloc hsz1 _⟩,hI.2⟩ ⟨W.heap.size,Lib.hid (World.alloc_heap_new W _),rfl⟩
 case body =>
  rintro l B pre x a' W hl hCW hr hBW ⟨⟨⟨⟨v,hv,hrow,hvB⟩,hbs⟩,hB⟩,hoB⟩ ⟨Bx,hBx,rfl⟩ hlt
  have hc := hv.cell
  have hsz1 := hB.size
  have hcx0 : W.cell? ⟨Bx,0,none⟩ = some (.int .i32 x.2.f0) := by simp [World.cell?,show W.heap[Bx]? = _ from hBx]
  have hcx1 : W.cell? ⟨Bx,1,none⟩ = some (.int .i64 x.2.f1) := by simp [World.cell?,show W.heap[Bx]? = _ from hBx]
  have hu := Tryd.underlying42
  gi_wp2_with (gi_at_builtin;refine wpListIn_append_own _ rfl _ _ 80 rfl w.heap.size 42 i0 _ 2 16 Tryd.underlying80 hi hz0 hz1 hz2 rfl (by decide) _ _ _ rfl (hrow.alloc _) ⟨W.heap.size,0,none⟩ 1 1 [.int .i32 x.2.f0,.int .i64 x.2.f1] rfl rfl (cells_two_new _ _ _ _) (by simp [Value.oneCell']) (by unfold maxLen;omega) (by omega) (by simp;omega) ?_;intro v' w1 hown' hgrow _;obtain ⟨g',cap',rfl⟩ := ownsRow_succ hown';obtain ⟨hv1,hv2,hr2,hk2,hb2⟩ := hv.appended (by decide) hrow hsz1 (Nat.le_refl _) hown' hgrow;have hkb := appended_keepB (v' := .slice (some ⟨g',0,none⟩) (pre.length + 1) cap') (Pr := fun k => k = w.heap.size + 1) hgrow hoB (fun k hk => ⟨by omega,by rw [hk];exact hbs.not_row (by decide) hrow⟩) hvB;have hbs2 : Boxed (w1.setCell ⟨w.heap.size,0,none⟩ (.slice (some ⟨g',0,none⟩) (pre.length + 1) cap')) (w.heap.size + 1) 9 (.string s) := hkb _ _ (.inl rfl) hbs rfl;have hc1 := hv1.cell;have hf1 := hv1.frozen)
  have hsz2 : w.heap.size < (w1.setCell ⟨w.heap.size,0,none⟩ (.slice (some ⟨g',0,none⟩) (pre.length + 1) cap')).heap.size := hv2.lt
  exact ⟨hk2.from _,⟨hb2,hkb⟩,⟨⟨⟨_,hv2,by rw [List.map_append,List.map_cons,List.map_nil,cellsU_snoc,List.length_append];exact hr2,fun g hg => own_lt hr2 g hg⟩,hbs2⟩,hB.trans hb2⟩,hsz2⟩
 case done =>
  rintro D ys W hD hys ⟨⟨⟨⟨v,hv,hrow,_⟩,_⟩,hB⟩,_⟩ hK
  have hc := hv.cell
  gi_wp2
  refine ⟨by simp,.inl ⟨_,_,rfl,run_takeDeferred hK,?_⟩⟩
  refine ⟨_,results_tmp rfl _ _ _,v,rfl,⟨fun _ _ => trivial,cellsU (unitsL s),?_,reps_cellsU _ _ _ _⟩,hB.trans (belowK_b (w := w) (Nat.le_refl _) W D _ _ (by omega) hK rfl rfl)⟩
  have e : ys = walkU s := hys
  have h2 := ownsRow_putObj hrow (.deferred none) hK rfl
  rw [e] at h2
  have e2 : (unitsL s).length = (walkU s).length := by unfold unitsL;simp
  rw [e2]
  exact h2
 case stop =>
  rintro D c pre W _ _ h _
  exact h.elim
def unit_Units.f (a0 : ByteArray) : Option (List (S42)) := if a0.size ≤ 8796093022207 then some (unitsL a0) else none
theorem unit_Units.calls (a0 : ByteArray) (r : List (S42)) (w : World) (hT : Lib.Utf8Tabs 0 1 w) (h : unit_Units.f a0 = some r) :
  Calls Tryd.prog 74 #[.string a0] w fun e w' => ∃ v0_ : Value,e = .returned (v0_) ∧ Kd.R k42 42 w' w.heap.size (fun _ => True) v0_ r ∧ Below w.heap.size w w' := by
 unfold unit_Units.f at h
 split at h
 ·obtain rfl := Option.some.inj h
  rename_i hs
  exact units_any a0 w hs hT
 ·cases h
end Go.Proofs.YtkficbgnjpekaaaDoor.U
end
section
namespace Go.Proofs.YtkficbgnjpekaaaDoor.U
open Go.RowKit Go.Shelf Go.Proofs.YtkficbgnjpekaaaDoorW.PrintWords Go.Proofs.YtkficbgnjpekaaaDoorW.PrintLast Go.Proofs.YtkficbgnjpekaaaDoorW.PrintMore
set_option linter.unusedVariables false
set_option linter.unusedSimpArgs false
theorem reads_int_of_C {k : IntKind} {w : World} {A : Option Addr} {n : Nat} {l : List Int} (h : (Kd.int k).C w A n l) : ReadsInt w k A n l :=
 Kd.reads_of_C (enc := Value.int k) (d := (0 : Int)) (h1 := fun _ => rfl) h
set_option maxRecDepth 100000 in
set_option maxHeartbeats 2000000 in
theorem within1_calls (l : List Int) (c : Int) (A : Option Addr) (cp b0 b1 : Nat) (W : World) (i : Nat) (hi : 2 * i + 1 < l.length) (hl : l.length ≤ 100000) (h0 : W.cell? ⟨b0,0,none⟩ = some (.slice A l.length cp)) (h1 : W.cell? ⟨b1,0,none⟩ = some (.int .i32 c)) (hr : ReadsInt W .i32 A l.length l) :
  Calls Tryd.prog 78 #[.int .i64 i,.pointer (some ⟨b0,0,none⟩),.pointer (some ⟨b1,0,none⟩)] W fun e w' => e = .returned (.bool (decide (rd l (2 * i + 1) ≥ c))) ∧ ∃ q,w' = W.drewN q := by
 obtain ⟨ad,rfl,hc⟩ := hr.at_ (2 * i + 1) (by omega) (by omega)
 have e1 : (2 : Int) * (i : Int) + 1 < (l.length : Int) := by omega
 have e2 : (0 : Int) ≤ 2 * (i : Int) + 1 := by omega
 rw [show ((2 : Int) * i + 1).toNat = 2 * i + 1 by omega] at hc
 rw [show ad.add (2 * i + 1) = ⟨ad.block,ad.off + (2 * i + 1),none⟩ by simp [Addr.add]] at hc
 have hw1 : IntKind.i64.wrap (2 * (i : Int)) = 2 * (i : Int) := (i64_w _).trans (by unfold wrap64;omega)
 have hw2 : IntKind.i64.wrap (2 * (i : Int) + 1) = 2 * (i : Int) + 1 := (i64_w _).trans (by unfold wrap64;omega)
 have ht : (2 * (i : Int) + 1).toNat = 2 * i + 1 := by omega
 go_enter Tryd.func78,Tryd.ntmps78
 go_wp2_with (fail)
 go_quiet (fail)
 go_wp2
 go_ret
 exact ⟨rfl,nq,rfl⟩
set_option maxRecDepth 100000 in
set_option maxHeartbeats 4000000 in
theorem search_calls (g : Nat) (cb : Array Value) (n : Nat) (p : Nat → Bool) (w : World) (eg : ∀ args w,(callFunc g args).run Tryd.prog w = .ok (.enter g args) w) (hn : n < 1000000)
  (hf : ∀ (m i : Nat),i < n → Calls Tryd.prog g (#[.int .i64 i] ++ cb) (w.drewN m) fun e w' => e = .returned (.bool (p i)) ∧ ∃ q,w' = w.drewN q)
  (hmono : ∀ a b,a ≤ b → b < n → p a = true → p b = true) :
  Calls Tryd.prog 77 #[.int .i64 n,.func (.func g) #[] cb] w fun e w' => ∃ i : Nat,e = .returned (.int .i64 i) ∧ i ≤ n ∧ (∀ t,t < i → p t = false) ∧ (∀ t,i ≤ t → t < n → p t = true) ∧ ∃ q,w' = w.drewN q := by
 go_enter Tryd.func77,Tryd.ntmps77
 go_wp2
 go_loopw [5,6] (fun v5 v6 wr => ∃ lo hi q : Nat,v5 = .int .i64 lo ∧ v6 = .int .i64 hi ∧ lo ≤ hi ∧ hi ≤ n ∧ wr = w.drewN q ∧ Hid ((∀ t,t < lo → p t = false) ∧ (∀ t,hi ≤ t → t < n → p t = true)))
  (fun v5 v6 _ => (intOf v6).toNat - (intOf v5).toNat)
 case atStart => exact ⟨0,n,0,rfl,rfl,Nat.zero_le _,Nat.le_refl _,rfl,Lib.hid ⟨fun t h => absurd h (Nat.not_lt_zero _),fun t h1 h2 => by omega⟩⟩
 case round =>
  obtain ⟨lo,hi,q,rfl,rfl,hlh,hhn,rfl,hI⟩ := hrel
  by_cases hlt : lo < hi
  ·have hlt' : (lo : Int) < (hi : Int) := by omega
   go_wp2_with (fail)
   obtain ⟨m,hm⟩ : ∃ m : Nat,((lo : Int) + (hi : Int)) / 2 = m := ⟨(lo + hi) / 2,by omega⟩
   rw [hm]
   refine (hf q m (by omega)).mono ?_
   rintro e w1 ⟨rfl,q1,rfl⟩
   have hm64 : IntKind.i64.wrap ((m : Int) + 1) = (m : Int) + 1 := (i64_w _).trans (by unfold wrap64;omega)
   cases hp : p m
   ·have hlow : ∀ t,t < m + 1 → p t = false := by
     intro t ht
     by_cases h : t < lo
     ·exact hI.out.1 t h
     ·cases hpt : p t with
      | false => rfl
      | true => have h5 := hmono t m (by omega) (by omega) hpt;rw [hp] at h5;cases h5
    have hup := hI.out.2
    go_wp2
    go_roundw
    case rel => exact ⟨m + 1,hi,q1,by simp,rfl,by omega,hhn,rfl,Lib.hid ⟨hlow,hup⟩⟩
    case measure => simp [intOf];omega
   ·go_wp2
    go_roundw
    case rel => exact ⟨lo,m,q1,rfl,rfl,by omega,by omega,rfl,Lib.hid ⟨hI.out.1,fun t h1 h2 => hmono m t h1 h2 hp⟩⟩
    case measure => simp [intOf];omega
  ·have hge : ¬ ((lo : Int) < (hi : Int)) := by omega
   go_wp2_with (fail)
   go_ret
   obtain rfl : lo = hi := by omega
   exact ⟨lo,rfl,hhn,hI.out.1,hI.out.2,q,rfl⟩
theorem boxed_below' {X Y : World} {B : Nat} {t : TypeId} {v : Value} (h : Boxed X B t v) (hb : Below X.heap.size X Y) : Boxed Y B t v := (hb.block B h.lt).trans h
def okTab (l : List Int) : Bool := (List.range l.length).all fun b => (List.range b).all fun a => decide (rd l (a : Int) ≤ rd l (b : Int)) && (decide (a % 2 = 0) || decide (rd l (a : Int) < rd l (b : Int)))
theorem okTab_le {l : List Int} (h : okTab l = true) {a b : Nat} (hab : a < b) (hb : b < l.length) : rd l (a : Int) ≤ rd l (b : Int) ∧ (a % 2 = 1 → rd l (a : Int) < rd l (b : Int)) := by
 unfold okTab at h
 rw [List.all_eq_true] at h
 have h1 := h b (List.mem_range.2 hb)
 rw [List.all_eq_true] at h1
 have h2 := h1 a (List.mem_range.2 hab)
 simp only [Bool.and_eq_true,Bool.or_eq_true,decide_eq_true_eq] at h2
 exact ⟨h2.1,fun ho => by rcases h2.2 with h3 | h3;omega;exact h3⟩
def withinB (l : List Int) (c : Int) : Bool := (List.range (l.length / 2)).any fun k => decide (rd l (2 * (k : Int)) ≤ c) && decide (c ≤ rd l (2 * (k : Int) + 1))
theorem withinB_of {l : List Int} (h : okTab l = true) (c : Int) (i : Nat) (h2 : l.length % 2 = 0) (hi : i ≤ l.length / 2) (hlo : ∀ t,t < i → decide (rd l (2 * (t : Int) + 1) ≥ c) = false) (hup : ∀ t,i ≤ t → t < l.length / 2 → decide (rd l (2 * (t : Int) + 1) ≥ c) = true) :
  withinB l c = (decide (i < l.length / 2) && decide (rd l (2 * (i : Int)) ≤ c)) := by
 rw [Bool.eq_iff_iff]
 unfold withinB
 simp only [List.any_eq_true,List.mem_range,Bool.and_eq_true,decide_eq_true_eq]
 constructor
 ·rintro ⟨k,hk,h3,h4⟩
  have hik : i ≤ k := by
   rcases Nat.lt_or_ge k i with h5 | h5
   ·have := of_decide_eq_false (hlo k h5);omega
   ·exact h5
  rcases Nat.lt_or_ge i k with h5 | h5
  ·exfalso
   have h6 := of_decide_eq_true (hup i (Nat.le_refl _) (by omega))
   have h7 := (okTab_le h (a := 2 * i + 1) (b := 2 * k) (by omega) (by omega)).2 (by omega)
   have e1 : ((2 * i + 1 : Nat) : Int) = 2 * (i : Int) + 1 := by omega
   have e2 : ((2 * k : Nat) : Int) = 2 * (k : Int) := by omega
   rw [e1,e2] at h7
   omega
  ·obtain rfl : i = k := by omega
   exact ⟨hk,h3⟩
 ·rintro ⟨h3,h4⟩
  exact ⟨i,h3,h4,of_decide_eq_true (hup i (Nat.le_refl _) h3)⟩
set_option maxRecDepth 100000 in
set_option maxHeartbeats 4000000 in
theorem within_any (l : List Int) (c : Int) (A : Option Addr) (cp : Nat) (w : World) (hl : l.length ≤ 100000) (h2 : l.length % 2 = 0) (hok : okTab l = true) (hr : ReadsInt w .i32 A l.length l) (hcp : l.length ≤ cp) :
  Calls Tryd.prog 61 #[.slice A l.length cp,.int .i32 c] w fun e w' => e = .returned (.bool (withinB l c)) ∧ Below w.heap.size w w' := by
 have hq : Int.tdiv (l.length : Int) 2 = ((l.length / 2 : Nat) : Int) := by rw [Int.tdiv_eq_ediv_of_nonneg (by omega)];omega
 go_enter Tryd.func61,Tryd.ntmps61
 go_wp2_with (fail)
 obtain ⟨n,hn,hn2⟩ : ∃ n : Nat,((l.length : Int) / 2) = n ∧ n = l.length / 2 := ⟨l.length / 2,by omega,rfl⟩
 rw [hn]
 have b0 := (Boxed.new w 22 (.slice A l.length cp)).alloc (.cells #[.int .i32 c] 21)
 have b1 := Boxed.new (w.alloc (.cells #[.slice A l.length cp] 22)) 21 (.int .i32 c)
 rw [World.size_alloc] at b1
 have hB : Below w.heap.size w ((w.alloc (.cells #[.slice A l.length cp] 22)).alloc (.cells #[.int .i32 c] 21)) := ((Below.refl _ w).alloc (Nat.le_refl _) _).alloc (by simp) _
 generalize (w.alloc (.cells #[.slice A l.length cp] 22)).alloc (.cells #[.int .i32 c] 21) = W2 at b0 b1 hB ⊢
 have hr2 : ReadsInt W2 .i32 A l.length l := hr.below hB
 refine (search_calls 78 #[.pointer (some ⟨w.heap.size,0,none⟩),.pointer (some ⟨w.heap.size + 1,0,none⟩)] n (fun k => decide (rd l (2 * (k : Int) + 1) ≥ c)) W2 (enters_of Tryd.func78 (by kernel_rfl) rfl) (by omega)
  (fun m i hi => ?_) (fun a b hab hb hp => ?_)).mono ?_
 ·have hd : Below W2.heap.size W2 (W2.drewN m) := pw_below_drewN (Below.refl _ _) m
  refine (within1_calls l c A cp w.heap.size (w.heap.size + 1) (W2.drewN m) i (by omega) hl (boxed_below' b0 hd).cell (boxed_below' b1 hd).cell (hr2.below hd)).mono ?_
  rintro e w' ⟨rfl,q,rfl⟩
  exact ⟨rfl,m + q,by rw [World.drewN_drewN]⟩
 ·rcases Nat.lt_or_ge a b with h | h
  ·have h3 := (okTab_le hok (a := 2 * a + 1) (b := 2 * b + 1) (by omega) (by omega)).1
   have e1 : ((2 * a + 1 : Nat) : Int) = 2 * (a : Int) + 1 := by omega
   have e2 : ((2 * b + 1 : Nat) : Int) = 2 * (b : Int) + 1 := by omega
   rw [e1,e2] at h3
   have := of_decide_eq_true hp
   exact decide_eq_true (by omega)
  ·obtain rfl : a = b := by omega
   exact hp
 rintro e w' ⟨i,rfl,hin,hlo,hup,q,rfl⟩
 dsimp only
 have hw : Hid (withinB l c = (decide (i < n) && decide (rd l (2 * (i : Int)) ≤ c))) := Lib.hid (by rw [hn2];exact withinB_of hok c i h2 (by omega) hlo (fun t h3 h4 => hup t h3 (by omega)))
 have hd : Below W2.heap.size W2 (W2.drewN q) := pw_below_drewN (Below.refl _ _) q
 have b0' := boxed_below' b0 hd
 have b1' := boxed_below' b1 hd
 have hr3 := hr2.below hd
 have hB3 := hB.trans (hd.mono hB.size)
 generalize W2.drewN q = W3 at b0' b1' hr3 hB3 ⊢
 have c0 := b0'.cell
 have c1 := b1'.cell
 by_cases hi : i < n
 ·have hi' : decide ((i : Int) < (n : Int)) = true := decide_eq_true (by omega)
  obtain ⟨ad,rfl,hc⟩ := hr3.at_ (2 * i) (by omega) (by omega)
  rw [show ((2 : Int) * i).toNat = 2 * i by omega] at hc
  have hw1 : IntKind.i64.wrap (2 * (i : Int)) = 2 * (i : Int) := (i64_w _).trans (by unfold wrap64;omega)
  clear hn2 hq hin hlo hup
  go_wp2_with (fail)
  go_quiet (fail)
  go_wp2
  have hwv : withinB l c = decide (rd l (2 * (i : Int)) ≤ c) := by rw [hw.out,decide_eq_true hi,Bool.true_and]
  go_ret
  rw [hwv]
  exact ⟨rfl,pw_below_drewN hB3 nq⟩
 ·have hi' : decide ((i : Int) < (n : Int)) = false := decide_eq_false (by omega)
  clear hn2 hq hin hlo hup
  go_wp2_with (fail)
  go_quiet (fail)
  go_wp2
  have hwv : withinB l c = false := by rw [hw.out,decide_eq_false hi,Bool.false_and]
  go_ret
  rw [hwv]
  exact ⟨rfl,pw_below_drewN hB3 nq⟩
def width_within_rune.f (l0 : List Int) (a1 : Int) : Option (Bool) := if l0.length ≤ 100000 ∧ l0.length % 2 = 0 ∧ okTab l0 = true then some (withinB l0 a1) else none
theorem width_within_rune.calls (A0 : Option Addr) (c0 : Nat) (l0 : List Int) (a1 : Int) (r : Bool) (w : World) (hr0 : Kd.C (Kd.int .i32) w A0 l0.length l0) (hc0 : l0.length ≤ c0) (h : width_within_rune.f l0 a1 = some r) :
  Calls Tryd.prog 61 #[.slice A0 l0.length c0,.int .i32 a1] w fun e w' => e = .returned (.bool r) ∧ Below w.heap.size w w' := by
 unfold width_within_rune.f at h
 split at h
 ·rename_i hs
  obtain rfl := Option.some.inj h
  exact within_any l0 a1 A0 c0 w hs.1 hs.2.1 hs.2.2 (reads_int_of_C hr0) hc0
 ·cases h
end Go.Proofs.YtkficbgnjpekaaaDoor.U
end
