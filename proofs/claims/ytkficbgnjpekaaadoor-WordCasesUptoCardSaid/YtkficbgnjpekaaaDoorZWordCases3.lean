/- What the law WordCases reaches of this seat's own texts, merged; what nothing uses is left out. -/
import Derived.Test.YtkficbgnjpekaaaDoorZWordCases0
import Derived.Test.YtkficbgnjpekaaaDoorZWordCases2
section
namespace Go.Proofs.YtkficbgnjpekaaaDoor.U
open Go.RowKit Go.Proofs.YtkficbgnjpekaaaDoorW.PrintWords Go.Proofs.YtkficbgnjpekaaaDoorW.PrintLast Go.Proofs.YtkficbgnjpekaaaDoorW.PrintMore
attribute [local go_sem] max2_int min2_int max_two min_two max_three min_three max_four min_four   -- for this text's walks alone
set_option linter.unusedVariables false
set_option linter.unusedSimpArgs false
attribute [local go_sem high] eqA32
def bodkinref03_joined.j0 : Nat → Bool → Int → Int → Int → Int → Option (Bool)
 | 0,_,_,_,_,_ => none
 | k + 1,x13,x266000,x266001,x267000,x267001 => if x13 = true then (some true) else ((bodkinref02_Class.f k x266000).bind fun t267 => ((bodkinref02_Class.f k x267000).bind fun t268 => (if t268 = 3 then (if t267 = 1 then (some false) else (some (t267 != 2))) else (some false))))
def bodkinref03_joined.f (k : Nat) (a0_0 : Int) (a0_1 : Int) (a1_0 : Int) (a1_1 : Int) : Option (Bool) := if a0_0 = 13 then (bodkinref03_joined.j0 k (a1_0 == 10) a0_0 a0_1 a1_0 a1_1) else (bodkinref03_joined.j0 k false a0_0 a0_1 a1_0 a1_1)
set_option maxHeartbeats 8000000 in
set_option maxRecDepth 100000 in
theorem bodkinref03_joined.calls (k : Nat) (a0_0 : Int) (a0_1 : Int) (a1_0 : Int) (a1_1 : Int) (r : Bool) (w : World) (h : bodkinref03_joined.f k a0_0 a0_1 a1_0 a1_1 = some r) :
  Calls Tryd.prog 67 #[.agg #[.int .i32 a0_0,.int .i64 a0_1],.agg #[.int .i32 a1_0,.int .i64 a1_1]] w fun e w' => e = .returned (.bool r) ∧ Below w.heap.size w w' := by
 have hu42 := Tryd.underlying42
 have HB := Aside0.mk (Below.refl w.heap.size w)
 have H : (if a0_0 = 13 then (bodkinref03_joined.j0 k (a1_0 == 10) a0_0 a0_1 a1_0 a1_1) else (bodkinref03_joined.j0 k false a0_0 a0_1 a1_0 a1_1)) = some r := h
 clear h
 have HC3 := Aside0.mk H
 clear H
 go_enter Tryd.func67,Tryd.ntmps67
 go_upto_region 1 with (first | ((with_reducible refine gate_dst (N := 2) rfl ?_);refine box_event ?hg (N := 2) ?hd (cs := #[.int .i32 a0_0,.int .i64 a0_1]) (t := 42) ?hr ?_;(case hd => rfl);(case hg => rfl);(case hr => first | (go_simp;done) | (go_simp;rfl));intro gb265 hg w4 hbox hb;have n0_ := Aside0.mk (below_step au0 hb);have n1_ := Aside0.mk (hbox);have n2_ := Aside0.mk ((by rw [hg];exact (below_size au0) : w.heap.size ≤ gb265));have n3_ := Aside0.mk ((by rw [hg];exact (below_size au0) : w.heap.size ≤ gb265));clear HB;have HB := n0_;have BK265 := n1_;have GW265 := n2_;have GE265 := n3_;clear n0_ n1_ n2_ n3_;clear hb hbox hg) | ((with_reducible refine gate_dst (N := 3) rfl ?_);refine box_event ?hg (N := 3) ?hd (cs := #[.int .i32 a1_0,.int .i64 a1_1]) (t := 42) ?hr ?_;(case hd => rfl);(case hg => rfl);(case hr => first | (go_simp;done) | (go_simp;rfl));intro gb266 hg w5 hbox hb;have n0_ := Aside0.mk (blk_below (g := gb265) (o := .cells #[.int .i32 a0_0,.int .i64 a0_1] 42 (0,0)) au17 hb);have n1_ := Aside0.mk (below_step (by repeat (first | (with_reducible first | exact HB.out | apply below_alloc | apply pw_below_drewN | apply below_drew1 | refine below_set ?_ GE265.out) | exact HB.out)) hb);have n2_ := Aside0.mk (hbox);have n3_ := Aside0.mk ((by rw [hg];exact (below_size (by repeat (first | (with_reducible first | exact HB.out | apply below_alloc | apply pw_below_drewN | apply below_drew1 | refine below_set ?_ GE265.out) | exact HB.out))) : w.heap.size ≤ gb266));have n4_ := Aside0.mk ((by rw [hg];exact (below_size (by repeat (first | (with_reducible first | exact HB.out | apply below_alloc | apply pw_below_drewN | apply below_drew1 | refine below_set ?_ GE265.out) | exact HB.out))) : w.heap.size ≤ gb266));have n5_ := Aside0.mk ((by rw [hg];exact Nat.ne_of_lt (blk_lt (g := gb265) (o := .cells #[.int .i32 a0_0,.int .i64 a0_1] 42 (0,0)) au17) : gb265 ≠ gb266));have n6_ := Aside0.mk ((by rw [hg];exact Nat.ne_of_gt (blk_lt (g := gb265) (o := .cells #[.int .i32 a0_0,.int .i64 a0_1] 42 (0,0)) au17) : gb266 ≠ gb265));clear BK265;clear HB;have BK265 := n0_;have HB := n1_;have BK266 := n2_;have GW266 := n3_;have GE266 := n4_;have NB265_266 := n5_;have NB266_265 := n6_;clear n0_ n1_ n2_ n3_ n4_ n5_ n6_;clear hb hbox hg))
 (try simp only [Act.put,List.setIfInBounds_toArray,List.set_cons_zero,List.set_cons_succ])
 go_cut [13] (fun v13 wc => ∃ (kq : Nat) (x13_2 : Bool),v13 = .bool x13_2 ∧ Aside0 (bodkinref03_joined.j0 kq x13_2 a0_0 a0_1 a1_0 a1_1 = some r) ∧ Aside0 (kq ≤ k) ∧ Aside0 (wc.heap[gb265]? = some (.cells #[.int .i32 a0_0,.int .i64 a0_1] 42 (0,0))) ∧ Aside0 (wc.heap[gb266]? = some (.cells #[.int .i32 a1_0,.int .i64 a1_1] 42 (0,0))) ∧ Aside0 (Below w.heap.size w wc))
 case first =>
  have H := HC3.out
  clear HC3
  by_cases c6 : a0_0 = 13
  ·rw [if_pos c6] at H
   have c6b0 : (a0_0 == 13) = true := beq_iff_eq.mpr c6
   have c6b1 : (a0_0 != 13) = false := bne_eq_false_iff_eq.mpr c6
   clear c6
   (first | rw [c6b0] | (simp only [i64_w,i32_w];rw [c6b0]) | skip)
   have H' := Aside0.mk H
   clear H
   have hnb7 := NB265_266.out
   have hnc7 := NB266_265.out
   have hcz8_0 : w5.cell? ⟨gb265,0,none⟩ = some (.int .i32 a0_0) := (blk_cell BK265.out 0).trans rfl
   have hcz8_1 : w5.cell? ⟨gb265,1,none⟩ = some (.int .i64 a0_1) := (blk_cell BK265.out 1).trans rfl
   have hfz8_0 := blk_frozen BK265.out 0
   have hfz8_1 := blk_frozen BK265.out 1
   have hcz9_0 : w5.cell? ⟨gb266,0,none⟩ = some (.int .i32 a1_0) := (blk_cell BK266.out 0).trans rfl
   have hcz9_1 : w5.cell? ⟨gb266,1,none⟩ = some (.int .i64 a1_1) := (blk_cell BK266.out 1).trans rfl
   have hfz9_0 := blk_frozen BK266.out 0
   have hfz9_1 := blk_frozen BK266.out 1
   go_wp2
   go_meet
   case rel => exact ⟨_,((a1_0 == 10)),au3,H',⟨by first | omega | exact Nat.le_refl _⟩,⟨by (with_reducible repeat (first | refine blk_drewN ?_ _ | refine blk_drew ?_ | refine blk_alloc ?_ _));exact BK265.out⟩,⟨by (with_reducible repeat (first | refine blk_drewN ?_ _ | refine blk_drew ?_ | refine blk_alloc ?_ _));exact BK266.out⟩,⟨by repeat (first | (with_reducible first | exact HB.out | apply below_alloc | apply pw_below_drewN | apply below_drew1 | refine below_set ?_ GE265.out | refine below_set ?_ GE266.out) | exact HB.out)⟩⟩
  ·rw [if_neg c6] at H
   have c6b0 : (a0_0 == 13) = false := beq_eq_false_iff_ne.mpr c6
   have c6b1 : (a0_0 != 13) = true := bne_iff_ne.mpr c6
   (first | rw [c6b0] | (simp only [i64_w,i32_w];rw [c6b0]) | skip)
   have H' := Aside0.mk H
   clear H
   have hnb10 := NB265_266.out
   have hnc10 := NB266_265.out
   have hcz11_0 : w5.cell? ⟨gb265,0,none⟩ = some (.int .i32 a0_0) := (blk_cell BK265.out 0).trans rfl
   have hcz11_1 : w5.cell? ⟨gb265,1,none⟩ = some (.int .i64 a0_1) := (blk_cell BK265.out 1).trans rfl
   have hfz11_0 := blk_frozen BK265.out 0
   have hfz11_1 := blk_frozen BK265.out 1
   go_wp2
   go_meet
   case rel => exact ⟨_,(false),au3,H',⟨by first | omega | exact Nat.le_refl _⟩,⟨by (with_reducible repeat (first | refine blk_drewN ?_ _ | refine blk_drew ?_ | refine blk_alloc ?_ _));exact BK265.out⟩,⟨by (with_reducible repeat (first | refine blk_drewN ?_ _ | refine blk_drew ?_ | refine blk_alloc ?_ _));exact BK266.out⟩,⟨by repeat (first | (with_reducible first | exact HB.out | apply below_alloc | apply pw_below_drewN | apply below_drew1 | refine below_set ?_ GE265.out | refine below_set ?_ GE266.out) | exact HB.out)⟩⟩
 case rest =>
  clear HC3
  try clear c1
  try clear p2
  try clear c6
  try clear c6b0
  try clear c6b1
  try clear c7
  try clear c10
  try clear hcz11_0
  try clear hcz11_1
  try clear hcz8_0
  try clear hcz8_1
  try clear hcz9_0
  try clear hcz9_1
  try clear hfz11_0
  try clear hfz11_1
  try clear hfz8_0
  try clear hfz8_1
  try clear hfz9_0
  try clear hfz9_1
  obtain ⟨kq,x13_2,rfl,HA,HJ2,BK265,BK266,HB⟩ := hcut
  cases kq with
  | zero => exact absurd HA.out (by simp [bodkinref03_joined.j0])
  | succ kj2 =>
   have H := HA.out
   clear HA
   simp only [bodkinref03_joined.j0] at H
   by_cases c12 : x13_2 = true
   ·subst c12
    have H1 : (some true) = some r := by rw [if_pos rfl] at H;exact H
    clear H
    have H := H1
    clear H1
    obtain rfl := Option.some.inj H
    go_wp2
    go_ret
    exact ⟨au2,by repeat (first | (with_reducible first | exact HB.out | apply below_alloc | apply pw_below_drewN | apply below_drew1 | refine below_set ?_ GE265.out | refine below_set ?_ GE266.out) | exact HB.out)⟩
   ·replace c12 := Bool.eq_false_iff.mpr c12
    subst c12
    have H1 : ((bodkinref02_Class.f kj2 a0_0).bind fun t267 => ((bodkinref02_Class.f kj2 a1_0).bind fun t268 => (if t268 = 3 then (if t267 = 1 then (some false) else (some (t267 != 2))) else (some false)))) = some r := by rw [if_neg (show ¬ (false = true) by decide)] at H;exact H
    clear H
    have H := H1
    clear H1
    replace H := Option.bind_eq_some_iff.mp H
    obtain ⟨t267,A130,H⟩ := H
    replace H : ((bodkinref02_Class.f kj2 a1_0).bind fun t268 => (if t268 = 3 then (if t267 = 1 then (some false) else (some (t267 != 2))) else (some false))) = some r := H
    have A13 := Aside0.mk A130
    clear A130
    replace H := Option.bind_eq_some_iff.mp H
    obtain ⟨t268,A140,H⟩ := H
    replace H : (if t268 = 3 then (if t267 = 1 then (some false) else (some (t267 != 2))) else (some false)) = some r := H
    have A14 := Aside0.mk A140
    clear A140
    by_cases c15 : t268 = 3
    ·rw [if_pos c15] at H
     have c15b0 : (t268 == 3) = true := beq_iff_eq.mpr c15
     have c15b1 : (t268 != 3) = false := bne_eq_false_iff_eq.mpr c15
     clear c15
     by_cases c16 : t267 = 1
     ·rw [if_pos c16] at H
      have c16b0 : (t267 == 1) = true := beq_iff_eq.mpr c16
      have c16b1 : (t267 != 1) = false := bne_eq_false_iff_eq.mpr c16
      clear c16
      obtain rfl := Option.some.inj H
      have hnb17 := NB265_266.out
      have hnc17 := NB266_265.out
      have hcz18_0 : wc.cell? ⟨gb265,0,none⟩ = some (.int .i32 a0_0) := (blk_cell BK265.out 0).trans rfl
      have hcz18_1 : wc.cell? ⟨gb265,1,none⟩ = some (.int .i64 a0_1) := (blk_cell BK265.out 1).trans rfl
      have hfz18_0 := blk_frozen BK265.out 0
      have hfz18_1 := blk_frozen BK265.out 1
      go_wp2_with (first | ((with_reducible refine gate_callee (f := 41) rfl ?_);refine goesL_ (some 16) rfl rfl Tryd.func41 (by kernel_rfl) rfl #[.int .i32 a0_0] rfl au1 ?_;(with_reducible refine (bodkinref02_Class.calls kj2 a0_0 t267 _ A13.out).mono ?_);rintro e w19 ⟨rfl,hb⟩;refine ⟨_,rfl,?_⟩;have n0_ := Aside0.mk (blk_below (g := gb265) (o := .cells #[.int .i32 a0_0,.int .i64 a0_1] 42 (0,0)) au17 hb);have n1_ := Aside0.mk (blk_below (g := gb266) (o := .cells #[.int .i32 a1_0,.int .i64 a1_1] 42 (0,0)) au29 hb);have n2_ := Aside0.mk (below_step au16 hb);clear BK265;clear BK266;clear HB;have BK265 := n0_;have BK266 := n1_;have HB := n2_;clear n0_ n1_ n2_;(try clear hb);(try clear hb2);(try clear hk);(try clear hi);have hcz20_0 : w19.cell? ⟨gb266,0,none⟩ = some (.int .i32 a1_0) := (blk_cell BK266.out 0).trans rfl;have hcz20_1 : w19.cell? ⟨gb266,1,none⟩ = some (.int .i64 a1_1) := (blk_cell BK266.out 1).trans rfl;have hfz20_0 := blk_frozen BK266.out 0;have hfz20_1 := blk_frozen BK266.out 1) | ((with_reducible refine gate_callee (f := 41) rfl ?_);refine goesL_ (some 19) rfl rfl Tryd.func41 (by kernel_rfl) rfl #[.int .i32 a1_0] rfl au1 ?_;(with_reducible refine (bodkinref02_Class.calls kj2 a1_0 t268 _ A14.out).mono ?_);rintro e w21 ⟨rfl,hb⟩;refine ⟨_,rfl,?_⟩;have n0_ := Aside0.mk (blk_below (g := gb265) (o := .cells #[.int .i32 a0_0,.int .i64 a0_1] 42 (0,0)) au17 hb);have n1_ := Aside0.mk (blk_below (g := gb266) (o := .cells #[.int .i32 a1_0,.int .i64 a1_1] 42 (0,0)) au29 hb);have n2_ := Aside0.mk (below_step au16 hb);clear BK265;clear BK266;clear HB;have BK265 := n0_;have BK266 := n1_;have HB := n2_;clear n0_ n1_ n2_;(try clear hb);(try clear hb2);(try clear hk);(try clear hi)))
      go_ret
      exact ⟨au2,by repeat (first | (with_reducible first | exact HB.out | apply below_alloc | apply pw_below_drewN | apply below_drew1 | refine below_set ?_ GE265.out | refine below_set ?_ GE266.out) | exact HB.out)⟩
     ·rw [if_neg c16] at H
      have c16b0 : (t267 == 1) = false := beq_eq_false_iff_ne.mpr c16
      have c16b1 : (t267 != 1) = true := bne_iff_ne.mpr c16
      obtain rfl := Option.some.inj H
      have hnb22 := NB265_266.out
      have hnc22 := NB266_265.out
      have hcz23_0 : wc.cell? ⟨gb265,0,none⟩ = some (.int .i32 a0_0) := (blk_cell BK265.out 0).trans rfl
      have hcz23_1 : wc.cell? ⟨gb265,1,none⟩ = some (.int .i64 a0_1) := (blk_cell BK265.out 1).trans rfl
      have hfz23_0 := blk_frozen BK265.out 0
      have hfz23_1 := blk_frozen BK265.out 1
      go_wp2_with (first | ((with_reducible refine gate_callee (f := 41) rfl ?_);refine goesL_ (some 16) rfl rfl Tryd.func41 (by kernel_rfl) rfl #[.int .i32 a0_0] rfl au1 ?_;(with_reducible refine (bodkinref02_Class.calls kj2 a0_0 t267 _ A13.out).mono ?_);rintro e w24 ⟨rfl,hb⟩;refine ⟨_,rfl,?_⟩;have n0_ := Aside0.mk (blk_below (g := gb265) (o := .cells #[.int .i32 a0_0,.int .i64 a0_1] 42 (0,0)) au17 hb);have n1_ := Aside0.mk (blk_below (g := gb266) (o := .cells #[.int .i32 a1_0,.int .i64 a1_1] 42 (0,0)) au29 hb);have n2_ := Aside0.mk (below_step au16 hb);clear BK265;clear BK266;clear HB;have BK265 := n0_;have BK266 := n1_;have HB := n2_;clear n0_ n1_ n2_;(try clear hb);(try clear hb2);(try clear hk);(try clear hi);have hcz25_0 : w24.cell? ⟨gb266,0,none⟩ = some (.int .i32 a1_0) := (blk_cell BK266.out 0).trans rfl;have hcz25_1 : w24.cell? ⟨gb266,1,none⟩ = some (.int .i64 a1_1) := (blk_cell BK266.out 1).trans rfl;have hfz25_0 := blk_frozen BK266.out 0;have hfz25_1 := blk_frozen BK266.out 1) | ((with_reducible refine gate_callee (f := 41) rfl ?_);refine goesL_ (some 19) rfl rfl Tryd.func41 (by kernel_rfl) rfl #[.int .i32 a1_0] rfl au1 ?_;(with_reducible refine (bodkinref02_Class.calls kj2 a1_0 t268 _ A14.out).mono ?_);rintro e w26 ⟨rfl,hb⟩;refine ⟨_,rfl,?_⟩;have n0_ := Aside0.mk (blk_below (g := gb265) (o := .cells #[.int .i32 a0_0,.int .i64 a0_1] 42 (0,0)) au17 hb);have n1_ := Aside0.mk (blk_below (g := gb266) (o := .cells #[.int .i32 a1_0,.int .i64 a1_1] 42 (0,0)) au29 hb);have n2_ := Aside0.mk (below_step au16 hb);clear BK265;clear BK266;clear HB;have BK265 := n0_;have BK266 := n1_;have HB := n2_;clear n0_ n1_ n2_;(try clear hb);(try clear hb2);(try clear hk);(try clear hi)))
      go_ret
      exact ⟨au2,by repeat (first | (with_reducible first | exact HB.out | apply below_alloc | apply pw_below_drewN | apply below_drew1 | refine below_set ?_ GE265.out | refine below_set ?_ GE266.out) | exact HB.out)⟩
    ·rw [if_neg c15] at H
     have c15b0 : (t268 == 3) = false := beq_eq_false_iff_ne.mpr c15
     have c15b1 : (t268 != 3) = true := bne_iff_ne.mpr c15
     obtain rfl := Option.some.inj H
     have hnb27 := NB265_266.out
     have hnc27 := NB266_265.out
     have hcz28_0 : wc.cell? ⟨gb265,0,none⟩ = some (.int .i32 a0_0) := (blk_cell BK265.out 0).trans rfl
     have hcz28_1 : wc.cell? ⟨gb265,1,none⟩ = some (.int .i64 a0_1) := (blk_cell BK265.out 1).trans rfl
     have hfz28_0 := blk_frozen BK265.out 0
     have hfz28_1 := blk_frozen BK265.out 1
     go_wp2_with (first | ((with_reducible refine gate_callee (f := 41) rfl ?_);refine goesL_ (some 16) rfl rfl Tryd.func41 (by kernel_rfl) rfl #[.int .i32 a0_0] rfl au1 ?_;(with_reducible refine (bodkinref02_Class.calls kj2 a0_0 t267 _ A13.out).mono ?_);rintro e w29 ⟨rfl,hb⟩;refine ⟨_,rfl,?_⟩;have n0_ := Aside0.mk (blk_below (g := gb265) (o := .cells #[.int .i32 a0_0,.int .i64 a0_1] 42 (0,0)) au17 hb);have n1_ := Aside0.mk (blk_below (g := gb266) (o := .cells #[.int .i32 a1_0,.int .i64 a1_1] 42 (0,0)) au29 hb);have n2_ := Aside0.mk (below_step au16 hb);clear BK265;clear BK266;clear HB;have BK265 := n0_;have BK266 := n1_;have HB := n2_;clear n0_ n1_ n2_;(try clear hb);(try clear hb2);(try clear hk);(try clear hi);have hcz30_0 : w29.cell? ⟨gb266,0,none⟩ = some (.int .i32 a1_0) := (blk_cell BK266.out 0).trans rfl;have hcz30_1 : w29.cell? ⟨gb266,1,none⟩ = some (.int .i64 a1_1) := (blk_cell BK266.out 1).trans rfl;have hfz30_0 := blk_frozen BK266.out 0;have hfz30_1 := blk_frozen BK266.out 1) | ((with_reducible refine gate_callee (f := 41) rfl ?_);refine goesL_ (some 19) rfl rfl Tryd.func41 (by kernel_rfl) rfl #[.int .i32 a1_0] rfl au1 ?_;(with_reducible refine (bodkinref02_Class.calls kj2 a1_0 t268 _ A14.out).mono ?_);rintro e w31 ⟨rfl,hb⟩;refine ⟨_,rfl,?_⟩;have n0_ := Aside0.mk (blk_below (g := gb265) (o := .cells #[.int .i32 a0_0,.int .i64 a0_1] 42 (0,0)) au17 hb);have n1_ := Aside0.mk (blk_below (g := gb266) (o := .cells #[.int .i32 a1_0,.int .i64 a1_1] 42 (0,0)) au29 hb);have n2_ := Aside0.mk (below_step au16 hb);clear BK265;clear BK266;clear HB;have BK265 := n0_;have BK266 := n1_;have HB := n2_;clear n0_ n1_ n2_;(try clear hb);(try clear hb2);(try clear hk);(try clear hi)))
     go_ret
     exact ⟨au2,by repeat (first | (with_reducible first | exact HB.out | apply below_alloc | apply pw_below_drewN | apply below_drew1 | refine below_set ?_ GE265.out | refine below_set ?_ GE266.out) | exact HB.out)⟩
def bodkinref02_Cells.f (k : Nat) (a0 : Int) : Option (Int) := (bodkinref02_Class.f k a0).bind fun t269 => (if t269 = 1 then (some 0) else (if t269 = 4 then (some 2) else (if t269 = 2 then (if a0 ≤ 127 then (some 2) else (some 1)) else (some 1))))
set_option maxHeartbeats 8000000 in
set_option maxRecDepth 100000 in
theorem bodkinref02_Cells.calls (k : Nat) (a0 : Int) (r : Int) (w : World) (h : bodkinref02_Cells.f k a0 = some r) :
  Calls Tryd.prog 68 #[.int .i32 a0] w fun e w' => e = .returned (.int .i64 r) ∧ Below w.heap.size w w' := by
 have HB := Aside0.mk (Below.refl w.heap.size w)
 have H : ((bodkinref02_Class.f k a0).bind fun t269 => (if t269 = 1 then (some 0) else (if t269 = 4 then (some 2) else (if t269 = 2 then (if a0 ≤ 127 then (some 2) else (some 1)) else (some 1))))) = some r := h
 clear h
 replace H := Option.bind_eq_some_iff.mp H
 obtain ⟨t269,A20,H⟩ := H
 replace H : (if t269 = 1 then (some 0) else (if t269 = 4 then (some 2) else (if t269 = 2 then (if a0 ≤ 127 then (some 2) else (some 1)) else (some 1)))) = some r := H
 have A2 := Aside0.mk A20
 clear A20
 by_cases c3 : t269 = 1
 ·rw [if_pos c3] at H
  have c3b0 : (t269 == 1) = true := beq_iff_eq.mpr c3
  have c3b1 : (t269 != 1) = false := bne_eq_false_iff_eq.mpr c3
  clear c3
  obtain rfl := Option.some.inj H
  go_enter Tryd.func68,Tryd.ntmps68
  go_wp2_with (first | ((with_reducible refine gate_callee (f := 41) rfl ?_);refine goesL_ (some 5) rfl rfl Tryd.func41 (by kernel_rfl) rfl #[.int .i32 a0] rfl au1 ?_;(with_reducible refine (bodkinref02_Class.calls k a0 t269 _ A2.out).mono ?_);rintro e w4 ⟨rfl,hb⟩;refine ⟨_,rfl,?_⟩;have n0_ := Aside0.mk (below_step au0 hb);clear HB;have HB := n0_;clear n0_;(try clear hb);(try clear hb2);(try clear hk);(try clear hi)))
  go_ret
  exact ⟨au2,au0⟩
 ·rw [if_neg c3] at H
  have c3b0 : (t269 == 1) = false := beq_eq_false_iff_ne.mpr c3
  have c3b1 : (t269 != 1) = true := bne_iff_ne.mpr c3
  by_cases c5 : t269 = 4
  ·rw [if_pos c5] at H
   have c5b0 : (t269 == 4) = true := beq_iff_eq.mpr c5
   have c5b1 : (t269 != 4) = false := bne_eq_false_iff_eq.mpr c5
   clear c5
   obtain rfl := Option.some.inj H
   go_enter Tryd.func68,Tryd.ntmps68
   go_wp2_with (first | ((with_reducible refine gate_callee (f := 41) rfl ?_);refine goesL_ (some 5) rfl rfl Tryd.func41 (by kernel_rfl) rfl #[.int .i32 a0] rfl au1 ?_;(with_reducible refine (bodkinref02_Class.calls k a0 t269 _ A2.out).mono ?_);rintro e w6 ⟨rfl,hb⟩;refine ⟨_,rfl,?_⟩;have n0_ := Aside0.mk (below_step au0 hb);clear HB;have HB := n0_;clear n0_;(try clear hb);(try clear hb2);(try clear hk);(try clear hi)))
   go_ret
   exact ⟨au2,au0⟩
  ·rw [if_neg c5] at H
   have c5b0 : (t269 == 4) = false := beq_eq_false_iff_ne.mpr c5
   have c5b1 : (t269 != 4) = true := bne_iff_ne.mpr c5
   by_cases c7 : t269 = 2
   ·rw [if_pos c7] at H
    have c7b0 : (t269 == 2) = true := beq_iff_eq.mpr c7
    have c7b1 : (t269 != 2) = false := bne_eq_false_iff_eq.mpr c7
    clear c7
    by_cases c8 : a0 ≤ 127
    ·rw [if_pos c8] at H
     have c8b0 : decide (a0 ≤ 127) = true := decide_eq_true c8
     clear c8
     obtain rfl := Option.some.inj H
     go_enter Tryd.func68,Tryd.ntmps68
     go_wp2_with (first | ((with_reducible refine gate_callee (f := 41) rfl ?_);refine goesL_ (some 5) rfl rfl Tryd.func41 (by kernel_rfl) rfl #[.int .i32 a0] rfl au1 ?_;(with_reducible refine (bodkinref02_Class.calls k a0 t269 _ A2.out).mono ?_);rintro e w9 ⟨rfl,hb⟩;refine ⟨_,rfl,?_⟩;have n0_ := Aside0.mk (below_step au0 hb);clear HB;have HB := n0_;clear n0_;(try clear hb);(try clear hb2);(try clear hk);(try clear hi)))
     go_ret
     exact ⟨au2,au0⟩
    ·rw [if_neg c8] at H
     have c8b0 : decide (a0 ≤ 127) = false := decide_eq_false c8
     clear c8
     obtain rfl := Option.some.inj H
     go_enter Tryd.func68,Tryd.ntmps68
     go_wp2_with (first | ((with_reducible refine gate_callee (f := 41) rfl ?_);refine goesL_ (some 5) rfl rfl Tryd.func41 (by kernel_rfl) rfl #[.int .i32 a0] rfl au1 ?_;(with_reducible refine (bodkinref02_Class.calls k a0 t269 _ A2.out).mono ?_);rintro e w10 ⟨rfl,hb⟩;refine ⟨_,rfl,?_⟩;have n0_ := Aside0.mk (below_step au0 hb);clear HB;have HB := n0_;clear n0_;(try clear hb);(try clear hb2);(try clear hk);(try clear hi)))
     go_ret
     exact ⟨au2,au0⟩
   ·rw [if_neg c7] at H
    have c7b0 : (t269 == 2) = false := beq_eq_false_iff_ne.mpr c7
    have c7b1 : (t269 != 2) = true := bne_iff_ne.mpr c7
    obtain rfl := Option.some.inj H
    go_enter Tryd.func68,Tryd.ntmps68
    go_wp2_with (first | ((with_reducible refine gate_callee (f := 41) rfl ?_);refine goesL_ (some 5) rfl rfl Tryd.func41 (by kernel_rfl) rfl #[.int .i32 a0] rfl au1 ?_;(with_reducible refine (bodkinref02_Class.calls k a0 t269 _ A2.out).mono ?_);rintro e w11 ⟨rfl,hb⟩;refine ⟨_,rfl,?_⟩;have n0_ := Aside0.mk (below_step au0 hb);clear HB;have HB := n0_;clear n0_;(try clear hb);(try clear hb2);(try clear hk);(try clear hi)))
    go_ret
    exact ⟨au2,au0⟩
def utf8_ValidRune.j0 : Nat → Int → Bool → Option (Bool)
 | 0,_,_ => none
 | k + 1,x0,x3 => if x3 = true then (some true) else (if 57343 < x0 then (if x0 ≤ 1114111 then (some true) else (some false)) else (some false))
def utf8_ValidRune.f (k : Nat) (a0 : Int) : Option (Bool) := if 0 ≤ a0 then (utf8_ValidRune.j0 k a0 (decide (a0 < 55296))) else (utf8_ValidRune.j0 k a0 false)
set_option maxHeartbeats 8000000 in
set_option maxRecDepth 100000 in
theorem utf8_ValidRune.calls (k : Nat) (a0 : Int) (r : Bool) (w : World) (h : utf8_ValidRune.f k a0 = some r) :
  Calls Tryd.prog 52 #[.int .i32 a0] w fun e w' => e = .returned (.bool r) ∧ Drawn0 w w' := by
 have H : (if 0 ≤ a0 then (utf8_ValidRune.j0 k a0 (decide (a0 < 55296))) else (utf8_ValidRune.j0 k a0 false)) = some r := h
 clear h
 have HC2 := Aside0.mk H
 clear H
 go_enter Tryd.func52,Tryd.ntmps52
 go_upto_region 1 with (fail)
 go_cut [3] (fun v3 wc => ∃ (kq : Nat) (x3_1 : Bool),v3 = .bool x3_1 ∧ Aside0 (utf8_ValidRune.j0 kq a0 x3_1 = some r) ∧ Aside0 (kq ≤ k) ∧ Drawn0 w wc)
 case first =>
  have H := HC2.out
  clear HC2
  by_cases c3 : 0 ≤ a0
  ·rw [if_pos c3] at H
   have c3b0 : decide (0 ≤ a0) = true := decide_eq_true c3
   clear c3
   (first | rw [c3b0] | (simp only [i64_w,i32_w];rw [c3b0]) | skip)
   have H' := Aside0.mk H
   clear H
   go_wp2
   go_meet
   case rel => exact ⟨_,(decide (a0 < 55296)),au3,H',⟨by first | omega | exact Nat.le_refl _⟩,by repeat (first | exact Drawn0.refl _ | apply Drawn0.step)⟩
  ·rw [if_neg c3] at H
   have c3b0 : decide (0 ≤ a0) = false := decide_eq_false c3
   clear c3
   (first | rw [c3b0] | (simp only [i64_w,i32_w];rw [c3b0]) | skip)
   have H' := Aside0.mk H
   clear H
   go_wp2
   go_meet
   case rel => exact ⟨_,(false),au3,H',⟨by first | omega | exact Nat.le_refl _⟩,by repeat (first | exact Drawn0.refl _ | apply Drawn0.step)⟩
 case rest =>
  clear HC2
  try clear p2
  try clear c3
  try clear c3b0
  obtain ⟨kq,x3_1,rfl,HA,HJ1,⟨mc1,rfl⟩⟩ := hcut
  cases kq with
  | zero => exact absurd HA.out (by simp [utf8_ValidRune.j0])
  | succ kj1 =>
   have H := HA.out
   clear HA
   simp only [utf8_ValidRune.j0] at H
   by_cases c4 : x3_1 = true
   ·subst c4
    have H1 : (some true) = some r := by rw [if_pos rfl] at H;exact H
    clear H
    have H := H1
    clear H1
    obtain rfl := Option.some.inj H
    go_wp2
    go_ret
    exact ⟨by first | rfl | (simp;done) | (simp [*];done),by repeat (first | exact Drawn0.refl _ | apply Drawn0.step)⟩
   ·replace c4 := Bool.eq_false_iff.mpr c4
    subst c4
    have H1 : (if 57343 < a0 then (if a0 ≤ 1114111 then (some true) else (some false)) else (some false)) = some r := by rw [if_neg (show ¬ (false = true) by decide)] at H;exact H
    clear H
    have H := H1
    clear H1
    by_cases c5 : 57343 < a0
    ·rw [if_pos c5] at H
     have c5b0 : decide (57343 < a0) = true := decide_eq_true c5
     clear c5
     by_cases c6 : a0 ≤ 1114111
     ·rw [if_pos c6] at H
      have c6b0 : decide (a0 ≤ 1114111) = true := decide_eq_true c6
      clear c6
      obtain rfl := Option.some.inj H
      go_wp2
      go_ret
      exact ⟨by first | rfl | (simp;done) | (simp [*];done),by repeat (first | exact Drawn0.refl _ | apply Drawn0.step)⟩
     ·rw [if_neg c6] at H
      have c6b0 : decide (a0 ≤ 1114111) = false := decide_eq_false c6
      clear c6
      obtain rfl := Option.some.inj H
      go_wp2
      go_ret
      exact ⟨by first | rfl | (simp;done) | (simp [*];done),by repeat (first | exact Drawn0.refl _ | apply Drawn0.step)⟩
    ·rw [if_neg c5] at H
     have c5b0 : decide (57343 < a0) = false := decide_eq_false c5
     clear c5
     obtain rfl := Option.some.inj H
     go_wp2
     go_ret
     exact ⟨by first | rfl | (simp;done) | (simp [*];done),by repeat (first | exact Drawn0.refl _ | apply Drawn0.step)⟩
def utf8_appendRuneNonASCII.j0 : Nat → List Int → Int → Int → Bool → Option (List Int)
 | 0,_,_,_,_ => none
 | k + 1,x0,x1,x5,x25 => if x25 = true then ((some (([Go.bits .or .u8 224 ((x1 / 4096) % 256),128 + ((x1 / 64) % 64),128 + (x1 % 64)] : List Int) : List Int)).bind fun y418 => (if x0.length + y418.length < 140737488355328 then (some (x0 ++ y418)) else (none))) else (if x5 > 65535 then (if x5 ≤ 1114111 then ((some (([Go.bits .or .u8 240 ((x1 / 262144) % 256),128 + ((x1 / 4096) % 64),128 + ((x1 / 64) % 64),128 + (x1 % 64)] : List Int) : List Int)).bind fun y424 => (if x0.length + y424.length < 140737488355328 then (some (x0 ++ y424)) else (none))) else ((some (([239,191,189] : List Int) : List Int)).bind fun y430 => (if x0.length + y430.length < 140737488355328 then (some (x0 ++ y430)) else (none)))) else ((some (([239,191,189] : List Int) : List Int)).bind fun y436 => (if x0.length + y436.length < 140737488355328 then (some (x0 ++ y436)) else (none))))
def utf8_appendRuneNonASCII.f (k : Nat) (l0 : List Int) (a1 : Int) : Option (List Int) := if ((a1) % 4294967296) ≤ 2047 then ((some (([Go.bits .or .u8 192 ((a1 / 64) % 256),128 + (a1 % 64)] : List Int) : List Int)).bind fun y412 => (if l0.length + y412.length < 140737488355328 then (some (l0 ++ y412)) else (none))) else (if ((a1) % 4294967296) < 55296 then (utf8_appendRuneNonASCII.j0 k l0 a1 ((a1) % 4294967296) (decide (((a1) % 4294967296) < 55296))) else (if 57343 < ((a1) % 4294967296) then (utf8_appendRuneNonASCII.j0 k l0 a1 ((a1) % 4294967296) (decide (((a1) % 4294967296) ≤ 65535))) else (utf8_appendRuneNonASCII.j0 k l0 a1 ((a1) % 4294967296) false)))
set_option maxHeartbeats 8000000 in
set_option maxRecDepth 100000 in
theorem utf8_appendRuneNonASCII.calls (k : Nat) (P0_ : Nat → Prop) (u9000_ : Value) (l0 : List Int) (a1 : Int) (r : List Int) (w0 w : World) (hB : Below w0.heap.size w0 w) (ho0 : Kd.R (Kd.int .u8) 5 w w0.heap.size P0_ u9000_ l0) (h : utf8_appendRuneNonASCII.f k l0 a1 = some r) :
  Calls Tryd.prog 73 #[u9000_,.int .i32 a1] w fun e w' => ∃ v0_ : Value,e = .returned (v0_) ∧ Kd.R (Kd.int .u8) 5 w' w0.heap.size (fun k_ => (P0_ k_ ∨ w.heap.size ≤ k_)) v0_ r ∧ Below w0.heap.size w0 w' ∧ Kept w w' (fun k_ => P0_ k_) := by
 have HO0 := Aside0.mk (show Kd.R (Kd.int .u8) 5 w w0.heap.size (fun k_ => (P0_ k_ ∨ w.heap.size ≤ k_)) u9000_ l0 from Kd.R_mono ho0 (fun k_ hk => (.inl hk)))
 have HK := Aside0.mk (Kept.refl w (fun k_ => P0_ k_))
 have HW0 := Aside0.mk hB.size
 have HB := Aside0.mk hB
 clear hB
 have H : (if ((a1) % 4294967296) ≤ 2047 then ((some (([Go.bits .or .u8 192 ((a1 / 64) % 256),128 + (a1 % 64)] : List Int) : List Int)).bind fun y412 => (if l0.length + y412.length < 140737488355328 then (some (l0 ++ y412)) else (none))) else (if ((a1) % 4294967296) < 55296 then (utf8_appendRuneNonASCII.j0 k l0 a1 ((a1) % 4294967296) (decide (((a1) % 4294967296) < 55296))) else (if 57343 < ((a1) % 4294967296) then (utf8_appendRuneNonASCII.j0 k l0 a1 ((a1) % 4294967296) (decide (((a1) % 4294967296) ≤ 65535))) else (utf8_appendRuneNonASCII.j0 k l0 a1 ((a1) % 4294967296) false)))) = some r := h
 clear h
 by_cases c3 : ((a1) % 4294967296) ≤ 2047
 ·rw [if_pos c3] at H
  have c3b0 : decide (((a1) % 4294967296) ≤ 2047) = true := decide_eq_true c3
  clear c3
  obtain ⟨y412,hy412⟩ : ∃ y_ : List Int,y_ = (([Go.bits .or .u8 192 ((a1 / 64) % 256),128 + (a1 % 64)] : List Int)) := ⟨_,rfl⟩
  replace H : (if l0.length + y412.length < 140737488355328 then (some (l0 ++ y412)) else (none)) = some r := by first | (rw [hy412];with_reducible exact H) | (have H2_ := (Option.bind_some _ _).symm.trans H;rw [hy412];with_reducible exact H2_) | (have H2_ := (Option.bind_some _ _).symm.trans H;with_reducible exact H2_) | with_reducible exact H | (rw [hy412];exact H) | exact H
  have Ny412 := Aside0.mk hy412
  clear hy412
  by_cases c4 : l0.length + y412.length < 140737488355328
  ·rw [if_pos c4] at H
   have LMc4 := Aside0.mk c4
   clear c4
   obtain ⟨y415,hy415⟩ : ∃ y_ : List Int,y_ = (l0 ++ y412) := ⟨_,rfl⟩
   replace H : (some y415) = some r := by first | (rw [hy415];with_reducible exact H) | (have H2_ := (Option.bind_some _ _).symm.trans H;rw [hy415];with_reducible exact H2_) | (have H2_ := (Option.bind_some _ _).symm.trans H;with_reducible exact H2_) | with_reducible exact H | (rw [hy415];exact H) | exact H
   have Ny415 := Aside0.mk hy415
   clear hy415
   obtain rfl := Option.some.inj H
   go_enter Tryd.func73,Tryd.ntmps73
   go_wp2_with (first | ((with_reducible refine gate_dst (N := 23) rfl ?_);refine Kd.R_lit (Kd.int .u8) _ 5 ?hg (N := 23) ?hd (xs := ([Go.bits .or .u8 192 ((a1 / 64) % 256),128 + (a1 % 64)] : List Int)) (inner := [.int .u8 (Go.bits .or .u8 192 ((a1 / 64) % 256)),.int .u8 (128 + (a1 % 64))]) (ok := fun _ => True) (okp := fun _ => True) ?hr ?hp (fun _ hk => hk) trivial (Below.refl _ _) (Nat.le_refl _) (by simp) ?_;(case hd => rfl);(case hg => rfl);(case hr => first | (go_simp;done) | (go_simp;rfl));(case hp => exact (Reps.one (show Kd.M (Kd.int .u8) _ _ _ (Go.bits .or .u8 192 ((a1 / 64) % 256)) [.int .u8 (Go.bits .or .u8 192 ((a1 / 64) % 256))] from rfl) (Reps.one (show Kd.M (Kd.int .u8) _ _ _ (128 + (a1 % 64)) [.int .u8 (128 + (a1 % 64))] from rfl) (Reps.none _ _))));intro v413 w5 ho6 hb hg_ hnew_;clear hg_ hnew_;(first | rw [← Ny412.out] at ho6 | (simp only [Int.reduceToNat] at ho6;rw [← Ny412.out] at ho6));have n0_ := Aside0.mk (Kd.R_elder' (by (with_reducible repeat (first | apply Kd.R_alloc | apply Kd.R_drewN | apply Kd.R_drew));exact HO0.out) (Kd.R_base ho6) hb);have n1_ := Aside0.mk (Kd.R_lower (Kd.R_new' (Kd.R_newM (M := fun k_ => (P0_ k_ ∨ w.heap.size ≤ k_)) ho6 au6 (fun k_ h_ => .inr h_)) (Kd.R_lt (by (with_reducible repeat (first | apply Kd.R_alloc | apply Kd.R_drewN | apply Kd.R_drew));exact HO0.out))) (below_size au0));have n2_ := Aside0.mk (Kept.below (S := (fun k_ => P0_ k_)) au11 hb);have n3_ := Aside0.mk (below_step au0 hb);clear HO0;clear HK;clear HB;have HO0 := n0_;have HO414 := n1_;have HK := n2_;have HB := n3_;clear n0_ n1_ n2_ n3_;clear hb ho6;obtain ⟨Ao8,co8,eo8⟩ := Kd.R_slice HO414.out;subst eo8) | ((with_reducible refine gate_builtin (b := .append) (xs := #[.tmp 14,.tmp 23]) rfl ?_);at_builtin;refine Kd.R_append_rows (Kd.int .u8) (w0 := w0) w0.heap.size rfl (.tmp 14) (.tmp 23) 66 5 (.int .u8 0) 1 rfl Tryd.underlying66 info5 rfl (by decide) (by omega) u9000_ l0 y412 _ _ _ (fun k_ => (P0_ k_ ∨ w.heap.size ≤ k_) ∧ some k_ ≠ (.slice Ao8 y412.length co8 : Value).ownBlock) (fun _ => False) rfl rfl ?aO ?aR (fun _ _ h => h) (fun _ h => h.elim) ?aF ?aB ?aS ?aL ?_;(case aR => repeat (first | exact (Kd.R_reads' HO414.out).2.2 | (with_reducible refine Kd.C_alloc ?_ _) | (with_reducible refine Kd.C_drewN ?_ _) | (with_reducible refine Kd.C_drew ?_)));(case aB => exact au0);(case aF => exact (fun k_ hk => ⟨(.inr (Nat.le_trans au6 hk)),Kd.fresh' (Kd.R_lt (by (with_reducible repeat (first | apply Kd.R_alloc | apply Kd.R_drewN | apply Kd.R_drew));exact HO414.out)) k_ hk⟩));(case aO => exact (by (with_reducible repeat (first | apply Kd.R_alloc | apply Kd.R_drewN | apply Kd.R_drew));exact HO0.out));(case aS => exact (below_size au0));(case aL => have := LMc4.out;omega);intro v416 w7 ho hb hg hat;rw [← Ny415.out] at ho;have n0_ := Aside0.mk (Kd.R_after (ok := (fun k_ => (P0_ k_ ∨ w.heap.size ≤ k_))) (by (with_reducible repeat (first | apply Kd.R_alloc | apply Kd.R_drewN | apply Kd.R_drew));exact Kd.R_mono HO414.out (fun _ hk => ⟨hk.1.1,hk.2⟩)) hg hat);have n1_ := Aside0.mk (hb);have n2_ := Aside0.mk (Kept.of_grown (S := (fun k_ => P0_ k_)) hg au11 (fun k_ e_ => (HO0.out.1 k_ e_).1));have n3_ := Aside0.mk (ho);clear HO414;clear HB;clear HK;clear HO0;have HO414 := n0_;have HB := n1_;have HK := n2_;have HO417 := n3_;clear n0_ n1_ n2_ n3_;clear ho hb hg hat))
   go_ret
   exact ⟨_,by first | rfl | (simp [errW_none,errW_some] <;> rfl) | (simp [*,errW_none,errW_some] <;> rfl),by (with_reducible repeat (first | apply Kd.R_alloc | apply Kd.R_drewN | apply Kd.R_drew));exact Kd.R_mono HO417.out (fun _ hk => hk.1),by repeat (first | (with_reducible first | exact HB.out | apply below_alloc | apply pw_below_drewN | apply below_drew1) | exact HB.out),by repeat (first | (with_reducible first | exact HK.out | apply Kept.alloc | apply Kept.drewN | apply Kept.drew) | exact HK.out)⟩
  ·rw [if_neg c4] at H
   exact absurd H (by simp)
 ·rw [if_neg c3] at H
  have c3b0 : decide (((a1) % 4294967296) ≤ 2047) = false := decide_eq_false c3
  clear c3
  have HC9 := Aside0.mk H
  clear H
  go_enter Tryd.func73,Tryd.ntmps73
  go_upto_if 25 with (fail)
  go_cut [25] (fun v25 wc => ∃ (kq : Nat) (x25_8 : Bool),v25 = .bool x25_8 ∧ Aside0 (utf8_appendRuneNonASCII.j0 kq l0 a1 ((a1) % 4294967296) x25_8 = some r) ∧ Aside0 (kq ≤ k) ∧ Aside0 (Kd.R (Kd.int .u8) 5 wc w0.heap.size (fun k_ => (P0_ k_ ∨ w.heap.size ≤ k_)) u9000_ l0) ∧ Aside0 (Kept w wc (fun k_ => P0_ k_)) ∧ Aside0 (Below w0.heap.size w0 wc))
  case first =>
   have H := HC9.out
   clear HC9
   by_cases c10 : ((a1) % 4294967296) < 55296
   ·rw [if_pos c10] at H
    have c10b0 : decide (((a1) % 4294967296) < 55296) = true := decide_eq_true c10
    clear c10
    (first | rw [c10b0] | (simp only [i64_w,i32_w];rw [c10b0]) | skip)
    have H' := Aside0.mk H
    clear H
    go_wp2
    go_meet
    case rel => exact ⟨_,(decide (((a1) % 4294967296) < 55296)),au3,H',⟨by first | omega | exact Nat.le_refl _⟩,⟨by (with_reducible repeat (first | apply Kd.R_alloc | apply Kd.R_drewN | apply Kd.R_drew));exact HO0.out⟩,⟨by repeat (first | (with_reducible first | exact HK.out | apply Kept.alloc | apply Kept.drewN | apply Kept.drew) | exact HK.out)⟩,⟨au0⟩⟩
   ·rw [if_neg c10] at H
    have c10b0 : decide (((a1) % 4294967296) < 55296) = false := decide_eq_false c10
    clear c10
    (first | rw [c10b0] | (simp only [i64_w,i32_w];rw [c10b0]) | skip)
    by_cases c11 : 57343 < ((a1) % 4294967296)
    ·rw [if_pos c11] at H
     have c11b0 : decide (57343 < ((a1) % 4294967296)) = true := decide_eq_true c11
     clear c11
     have H' := Aside0.mk H
     clear H
     go_wp2
     go_meet
     case rel => exact ⟨_,(decide (((a1) % 4294967296) ≤ 65535)),au3,H',⟨by first | omega | exact Nat.le_refl _⟩,⟨by (with_reducible repeat (first | apply Kd.R_alloc | apply Kd.R_drewN | apply Kd.R_drew));exact HO0.out⟩,⟨by repeat (first | (with_reducible first | exact HK.out | apply Kept.alloc | apply Kept.drewN | apply Kept.drew) | exact HK.out)⟩,⟨au0⟩⟩
    ·rw [if_neg c11] at H
     have c11b0 : decide (57343 < ((a1) % 4294967296)) = false := decide_eq_false c11
     clear c11
     have H' := Aside0.mk H
     clear H
     go_wp2
     go_meet
     case rel => exact ⟨_,(false),au3,H',⟨by first | omega | exact Nat.le_refl _⟩,⟨by (with_reducible repeat (first | apply Kd.R_alloc | apply Kd.R_drewN | apply Kd.R_drew));exact HO0.out⟩,⟨by repeat (first | (with_reducible first | exact HK.out | apply Kept.alloc | apply Kept.drewN | apply Kept.drew) | exact HK.out)⟩,⟨au0⟩⟩
  case rest =>
   clear HC9
   try clear c1
   try clear p2
   try clear c3
   try clear c3b0
   try clear c4
   try clear c7
   try clear c10
   try clear c10b0
   try clear c11
   try clear c11b0
   obtain ⟨kq,x25_8,rfl,HA,HJ8,HO_0,HK,HB⟩ := hcut
   cases kq with
   | zero => exact absurd HA.out (by simp [utf8_appendRuneNonASCII.j0])
   | succ kj8 =>
    have H := HA.out
    clear HA
    simp only [utf8_appendRuneNonASCII.j0] at H
    by_cases c12 : x25_8 = true
    ·subst c12
     have H1 : ((some (([Go.bits .or .u8 224 ((a1 / 4096) % 256),128 + ((a1 / 64) % 64),128 + (a1 % 64)] : List Int) : List Int)).bind fun y418 => (if l0.length + y418.length < 140737488355328 then (some (l0 ++ y418)) else (none))) = some r := by rw [if_pos rfl] at H;exact H
     clear H
     have H := H1
     clear H1
     obtain ⟨y418,hy418⟩ : ∃ y_ : List Int,y_ = (([Go.bits .or .u8 224 ((a1 / 4096) % 256),128 + ((a1 / 64) % 64),128 + (a1 % 64)] : List Int)) := ⟨_,rfl⟩
     replace H : (if l0.length + y418.length < 140737488355328 then (some (l0 ++ y418)) else (none)) = some r := by first | (rw [hy418];with_reducible exact H) | (have H2_ := (Option.bind_some _ _).symm.trans H;rw [hy418];with_reducible exact H2_) | (have H2_ := (Option.bind_some _ _).symm.trans H;with_reducible exact H2_) | with_reducible exact H | (rw [hy418];exact H) | exact H
     have Ny418 := Aside0.mk hy418
     clear hy418
     by_cases c13 : l0.length + y418.length < 140737488355328
     ·rw [if_pos c13] at H
      have LMc13 := Aside0.mk c13
      clear c13
      obtain ⟨y421,hy421⟩ : ∃ y_ : List Int,y_ = (l0 ++ y418) := ⟨_,rfl⟩
      replace H : (some y421) = some r := by first | (rw [hy421];with_reducible exact H) | (have H2_ := (Option.bind_some _ _).symm.trans H;rw [hy421];with_reducible exact H2_) | (have H2_ := (Option.bind_some _ _).symm.trans H;with_reducible exact H2_) | with_reducible exact H | (rw [hy421];exact H) | exact H
      have Ny421 := Aside0.mk hy421
      clear hy421
      obtain rfl := Option.some.inj H
      go_wp2_with (first | ((with_reducible refine gate_dst (N := 48) rfl ?_);refine Kd.R_lit (Kd.int .u8) _ 5 ?hg (N := 48) ?hd (xs := ([Go.bits .or .u8 224 ((a1 / 4096) % 256),128 + ((a1 / 64) % 64),128 + (a1 % 64)] : List Int)) (inner := [.int .u8 (Go.bits .or .u8 224 ((a1 / 4096) % 256)),.int .u8 (128 + ((a1 / 64) % 64)),.int .u8 (128 + (a1 % 64))]) (ok := fun _ => True) (okp := fun _ => True) ?hr ?hp (fun _ hk => hk) trivial (Below.refl _ _) (Nat.le_refl _) (by simp) ?_;(case hd => rfl);(case hg => rfl);(case hr => first | (go_simp;done) | (go_simp;rfl));(case hp => exact (Reps.one (show Kd.M (Kd.int .u8) _ _ _ (Go.bits .or .u8 224 ((a1 / 4096) % 256)) [.int .u8 (Go.bits .or .u8 224 ((a1 / 4096) % 256))] from rfl) (Reps.one (show Kd.M (Kd.int .u8) _ _ _ (128 + ((a1 / 64) % 64)) [.int .u8 (128 + ((a1 / 64) % 64))] from rfl) (Reps.one (show Kd.M (Kd.int .u8) _ _ _ (128 + (a1 % 64)) [.int .u8 (128 + (a1 % 64))] from rfl) (Reps.none _ _)))));intro v419 w14 ho15 hb hg_ hnew_;clear hg_ hnew_;(first | rw [← Ny418.out] at ho15 | (simp only [Int.reduceToNat] at ho15;rw [← Ny418.out] at ho15));have n0_ := Aside0.mk (Kd.R_elder' au12 (Kd.R_base ho15) hb);have n1_ := Aside0.mk (Kd.R_lower (Kd.R_new' (Kd.R_newM (M := fun k_ => (P0_ k_ ∨ w.heap.size ≤ k_)) ho15 au6 (fun k_ h_ => .inr h_)) (Kd.R_lt au12)) (below_size au0));have n2_ := Aside0.mk (Kept.below (S := (fun k_ => P0_ k_)) au11 hb);have n3_ := Aside0.mk (below_step au0 hb);clear HO_0;clear HK;clear HB;have HO_0 := n0_;have HO420 := n1_;have HK := n2_;have HB := n3_;clear n0_ n1_ n2_ n3_;clear hb ho15;obtain ⟨Ao17,co17,eo17⟩ := Kd.R_slice HO420.out;subst eo17) | ((with_reducible refine gate_builtin (b := .append) (xs := #[.tmp 34,.tmp 48]) rfl ?_);at_builtin;refine Kd.R_append_rows (Kd.int .u8) (w0 := w0) w0.heap.size rfl (.tmp 34) (.tmp 48) 66 5 (.int .u8 0) 1 rfl Tryd.underlying66 info5 rfl (by decide) (by omega) u9000_ l0 y418 _ _ _ (fun k_ => (P0_ k_ ∨ w.heap.size ≤ k_) ∧ some k_ ≠ (.slice Ao17 y418.length co17 : Value).ownBlock) (fun _ => False) rfl rfl ?aO ?aR (fun _ _ h => h) (fun _ h => h.elim) ?aF ?aB ?aS ?aL ?_;(case aR => repeat (first | exact (Kd.R_reads' HO420.out).2.2 | (with_reducible refine Kd.C_alloc ?_ _) | (with_reducible refine Kd.C_drewN ?_ _) | (with_reducible refine Kd.C_drew ?_)));(case aB => exact au0);(case aF => exact (fun k_ hk => ⟨(.inr (Nat.le_trans au6 hk)),Kd.fresh' (Kd.R_lt (by (with_reducible repeat (first | apply Kd.R_alloc | apply Kd.R_drewN | apply Kd.R_drew));exact HO420.out)) k_ hk⟩));(case aO => exact au12);(case aS => exact (below_size au0));(case aL => have := LMc13.out;omega);intro v422 w16 ho hb hg hat;rw [← Ny421.out] at ho;have n0_ := Aside0.mk (Kd.R_after (ok := (fun k_ => (P0_ k_ ∨ w.heap.size ≤ k_))) (by (with_reducible repeat (first | apply Kd.R_alloc | apply Kd.R_drewN | apply Kd.R_drew));exact Kd.R_mono HO420.out (fun _ hk => ⟨hk.1.1,hk.2⟩)) hg hat);have n1_ := Aside0.mk (hb);have n2_ := Aside0.mk (Kept.of_grown (S := (fun k_ => P0_ k_)) hg au11 (fun k_ e_ => (HO_0.out.1 k_ e_).1));have n3_ := Aside0.mk (ho);clear HO420;clear HB;clear HK;clear HO_0;have HO420 := n0_;have HB := n1_;have HK := n2_;have HO423 := n3_;clear n0_ n1_ n2_ n3_;clear ho hb hg hat))
      go_ret
      exact ⟨_,by first | rfl | (simp [errW_none,errW_some] <;> rfl) | (simp [*,errW_none,errW_some] <;> rfl),by (with_reducible repeat (first | apply Kd.R_alloc | apply Kd.R_drewN | apply Kd.R_drew));exact Kd.R_mono HO423.out (fun _ hk => hk.1),by repeat (first | (with_reducible first | exact HB.out | apply below_alloc | apply pw_below_drewN | apply below_drew1) | exact HB.out),by repeat (first | (with_reducible first | exact HK.out | apply Kept.alloc | apply Kept.drewN | apply Kept.drew) | exact HK.out)⟩
     ·rw [if_neg c13] at H
      exact absurd H (by simp)
    ·replace c12 := Bool.eq_false_iff.mpr c12
     subst c12
     have H1 : (if ((a1) % 4294967296) > 65535 then (if ((a1) % 4294967296) ≤ 1114111 then ((some (([Go.bits .or .u8 240 ((a1 / 262144) % 256),128 + ((a1 / 4096) % 64),128 + ((a1 / 64) % 64),128 + (a1 % 64)] : List Int) : List Int)).bind fun y424 => (if l0.length + y424.length < 140737488355328 then (some (l0 ++ y424)) else (none))) else ((some (([239,191,189] : List Int) : List Int)).bind fun y430 => (if l0.length + y430.length < 140737488355328 then (some (l0 ++ y430)) else (none)))) else ((some (([239,191,189] : List Int) : List Int)).bind fun y436 => (if l0.length + y436.length < 140737488355328 then (some (l0 ++ y436)) else (none)))) = some r := by rw [if_neg (show ¬ (false = true) by decide)] at H;exact H
     clear H
     have H := H1
     clear H1
     by_cases c18 : ((a1) % 4294967296) > 65535
     ·rw [if_pos c18] at H
      have c18b0 : decide (65535 < ((a1) % 4294967296)) = true := decide_eq_true c18
      clear c18
      by_cases c19 : ((a1) % 4294967296) ≤ 1114111
      ·rw [if_pos c19] at H
       have c19b0 : decide (((a1) % 4294967296) ≤ 1114111) = true := decide_eq_true c19
       clear c19
       obtain ⟨y424,hy424⟩ : ∃ y_ : List Int,y_ = (([Go.bits .or .u8 240 ((a1 / 262144) % 256),128 + ((a1 / 4096) % 64),128 + ((a1 / 64) % 64),128 + (a1 % 64)] : List Int)) := ⟨_,rfl⟩
       replace H : (if l0.length + y424.length < 140737488355328 then (some (l0 ++ y424)) else (none)) = some r := by first | (rw [hy424];with_reducible exact H) | (have H2_ := (Option.bind_some _ _).symm.trans H;rw [hy424];with_reducible exact H2_) | (have H2_ := (Option.bind_some _ _).symm.trans H;with_reducible exact H2_) | with_reducible exact H | (rw [hy424];exact H) | exact H
       have Ny424 := Aside0.mk hy424
       clear hy424
       by_cases c20 : l0.length + y424.length < 140737488355328
       ·rw [if_pos c20] at H
        have LMc20 := Aside0.mk c20
        clear c20
        obtain ⟨y427,hy427⟩ : ∃ y_ : List Int,y_ = (l0 ++ y424) := ⟨_,rfl⟩
        replace H : (some y427) = some r := by first | (rw [hy427];with_reducible exact H) | (have H2_ := (Option.bind_some _ _).symm.trans H;rw [hy427];with_reducible exact H2_) | (have H2_ := (Option.bind_some _ _).symm.trans H;with_reducible exact H2_) | with_reducible exact H | (rw [hy427];exact H) | exact H
        have Ny427 := Aside0.mk hy427
        clear hy427
        obtain rfl := Option.some.inj H
        go_wp2_with (first | ((with_reducible refine gate_dst (N := 76) rfl ?_);refine Kd.R_lit (Kd.int .u8) _ 5 ?hg (N := 76) ?hd (xs := ([Go.bits .or .u8 240 ((a1 / 262144) % 256),128 + ((a1 / 4096) % 64),128 + ((a1 / 64) % 64),128 + (a1 % 64)] : List Int)) (inner := [.int .u8 (Go.bits .or .u8 240 ((a1 / 262144) % 256)),.int .u8 (128 + ((a1 / 4096) % 64)),.int .u8 (128 + ((a1 / 64) % 64)),.int .u8 (128 + (a1 % 64))]) (ok := fun _ => True) (okp := fun _ => True) ?hr ?hp (fun _ hk => hk) trivial (Below.refl _ _) (Nat.le_refl _) (by simp) ?_;(case hd => rfl);(case hg => rfl);(case hr => first | (go_simp;done) | (go_simp;rfl));(case hp => exact (Reps.one (show Kd.M (Kd.int .u8) _ _ _ (Go.bits .or .u8 240 ((a1 / 262144) % 256)) [.int .u8 (Go.bits .or .u8 240 ((a1 / 262144) % 256))] from rfl) (Reps.one (show Kd.M (Kd.int .u8) _ _ _ (128 + ((a1 / 4096) % 64)) [.int .u8 (128 + ((a1 / 4096) % 64))] from rfl) (Reps.one (show Kd.M (Kd.int .u8) _ _ _ (128 + ((a1 / 64) % 64)) [.int .u8 (128 + ((a1 / 64) % 64))] from rfl) (Reps.one (show Kd.M (Kd.int .u8) _ _ _ (128 + (a1 % 64)) [.int .u8 (128 + (a1 % 64))] from rfl) (Reps.none _ _))))));intro v425 w21 ho22 hb hg_ hnew_;clear hg_ hnew_;(first | rw [← Ny424.out] at ho22 | (simp only [Int.reduceToNat] at ho22;rw [← Ny424.out] at ho22));have n0_ := Aside0.mk (Kd.R_elder' au12 (Kd.R_base ho22) hb);have n1_ := Aside0.mk (Kd.R_lower (Kd.R_new' (Kd.R_newM (M := fun k_ => (P0_ k_ ∨ w.heap.size ≤ k_)) ho22 au6 (fun k_ h_ => .inr h_)) (Kd.R_lt au12)) (below_size au0));have n2_ := Aside0.mk (Kept.below (S := (fun k_ => P0_ k_)) au11 hb);have n3_ := Aside0.mk (below_step au0 hb);clear HO_0;clear HK;clear HB;have HO_0 := n0_;have HO426 := n1_;have HK := n2_;have HB := n3_;clear n0_ n1_ n2_ n3_;clear hb ho22;obtain ⟨Ao24,co24,eo24⟩ := Kd.R_slice HO426.out;subst eo24) | ((with_reducible refine gate_builtin (b := .append) (xs := #[.tmp 57,.tmp 76]) rfl ?_);at_builtin;refine Kd.R_append_rows (Kd.int .u8) (w0 := w0) w0.heap.size rfl (.tmp 57) (.tmp 76) 66 5 (.int .u8 0) 1 rfl Tryd.underlying66 info5 rfl (by decide) (by omega) u9000_ l0 y424 _ _ _ (fun k_ => (P0_ k_ ∨ w.heap.size ≤ k_) ∧ some k_ ≠ (.slice Ao24 y424.length co24 : Value).ownBlock) (fun _ => False) rfl rfl ?aO ?aR (fun _ _ h => h) (fun _ h => h.elim) ?aF ?aB ?aS ?aL ?_;(case aR => repeat (first | exact (Kd.R_reads' HO426.out).2.2 | (with_reducible refine Kd.C_alloc ?_ _) | (with_reducible refine Kd.C_drewN ?_ _) | (with_reducible refine Kd.C_drew ?_)));(case aB => exact au0);(case aF => exact (fun k_ hk => ⟨(.inr (Nat.le_trans au6 hk)),Kd.fresh' (Kd.R_lt (by (with_reducible repeat (first | apply Kd.R_alloc | apply Kd.R_drewN | apply Kd.R_drew));exact HO426.out)) k_ hk⟩));(case aO => exact au12);(case aS => exact (below_size au0));(case aL => have := LMc20.out;omega);intro v428 w23 ho hb hg hat;rw [← Ny427.out] at ho;have n0_ := Aside0.mk (Kd.R_after (ok := (fun k_ => (P0_ k_ ∨ w.heap.size ≤ k_))) (by (with_reducible repeat (first | apply Kd.R_alloc | apply Kd.R_drewN | apply Kd.R_drew));exact Kd.R_mono HO426.out (fun _ hk => ⟨hk.1.1,hk.2⟩)) hg hat);have n1_ := Aside0.mk (hb);have n2_ := Aside0.mk (Kept.of_grown (S := (fun k_ => P0_ k_)) hg au11 (fun k_ e_ => (HO_0.out.1 k_ e_).1));have n3_ := Aside0.mk (ho);clear HO426;clear HB;clear HK;clear HO_0;have HO426 := n0_;have HB := n1_;have HK := n2_;have HO429 := n3_;clear n0_ n1_ n2_ n3_;clear ho hb hg hat))
        go_ret
        exact ⟨_,by first | rfl | (simp [errW_none,errW_some] <;> rfl) | (simp [*,errW_none,errW_some] <;> rfl),by (with_reducible repeat (first | apply Kd.R_alloc | apply Kd.R_drewN | apply Kd.R_drew));exact Kd.R_mono HO429.out (fun _ hk => hk.1),by repeat (first | (with_reducible first | exact HB.out | apply below_alloc | apply pw_below_drewN | apply below_drew1) | exact HB.out),by repeat (first | (with_reducible first | exact HK.out | apply Kept.alloc | apply Kept.drewN | apply Kept.drew) | exact HK.out)⟩
       ·rw [if_neg c20] at H
        exact absurd H (by simp)
      ·rw [if_neg c19] at H
       have c19b0 : decide (((a1) % 4294967296) ≤ 1114111) = false := decide_eq_false c19
       clear c19
       obtain ⟨y430,hy430⟩ : ∃ y_ : List Int,y_ = (([239,191,189] : List Int)) := ⟨_,rfl⟩
       replace H : (if l0.length + y430.length < 140737488355328 then (some (l0 ++ y430)) else (none)) = some r := by first | (rw [hy430];with_reducible exact H) | (have H2_ := (Option.bind_some _ _).symm.trans H;rw [hy430];with_reducible exact H2_) | (have H2_ := (Option.bind_some _ _).symm.trans H;with_reducible exact H2_) | with_reducible exact H | (rw [hy430];exact H) | exact H
       have Ny430 := Aside0.mk hy430
       clear hy430
       by_cases c25 : l0.length + y430.length < 140737488355328
       ·rw [if_pos c25] at H
        have LMc25 := Aside0.mk c25
        clear c25
        obtain ⟨y433,hy433⟩ : ∃ y_ : List Int,y_ = (l0 ++ y430) := ⟨_,rfl⟩
        replace H : (some y433) = some r := by first | (rw [hy433];with_reducible exact H) | (have H2_ := (Option.bind_some _ _).symm.trans H;rw [hy433];with_reducible exact H2_) | (have H2_ := (Option.bind_some _ _).symm.trans H;with_reducible exact H2_) | with_reducible exact H | (rw [hy433];exact H) | exact H
        have Ny433 := Aside0.mk hy433
        clear hy433
        obtain rfl := Option.some.inj H
        go_wp2_with (first | ((with_reducible refine gate_dst (N := 9) rfl ?_);refine Kd.R_lit (Kd.int .u8) _ 5 ?hg (N := 9) ?hd (xs := ([239,191,189] : List Int)) (inner := [.int .u8 239,.int .u8 191,.int .u8 189]) (ok := fun _ => True) (okp := fun _ => True) ?hr ?hp (fun _ hk => hk) trivial (Below.refl _ _) (Nat.le_refl _) (by simp) ?_;(case hd => rfl);(case hg => rfl);(case hr => first | (go_simp;done) | (go_simp;rfl));(case hp => exact (Reps.one (show Kd.M (Kd.int .u8) _ _ _ 239 [.int .u8 239] from rfl) (Reps.one (show Kd.M (Kd.int .u8) _ _ _ 191 [.int .u8 191] from rfl) (Reps.one (show Kd.M (Kd.int .u8) _ _ _ 189 [.int .u8 189] from rfl) (Reps.none _ _)))));intro v431 w26 ho27 hb hg_ hnew_;clear hg_ hnew_;(first | rw [← Ny430.out] at ho27 | (simp only [Int.reduceToNat] at ho27;rw [← Ny430.out] at ho27));have n0_ := Aside0.mk (Kd.R_elder' au12 (Kd.R_base ho27) hb);have n1_ := Aside0.mk (Kd.R_lower (Kd.R_new' (Kd.R_newM (M := fun k_ => (P0_ k_ ∨ w.heap.size ≤ k_)) ho27 au6 (fun k_ h_ => .inr h_)) (Kd.R_lt au12)) (below_size au0));have n2_ := Aside0.mk (Kept.below (S := (fun k_ => P0_ k_)) au11 hb);have n3_ := Aside0.mk (below_step au0 hb);clear HO_0;clear HK;clear HB;have HO_0 := n0_;have HO432 := n1_;have HK := n2_;have HB := n3_;clear n0_ n1_ n2_ n3_;clear hb ho27;obtain ⟨Ao29,co29,eo29⟩ := Kd.R_slice HO432.out;subst eo29) | ((with_reducible refine gate_builtin (b := .append) (xs := #[.tmp 8,.tmp 9]) rfl ?_);at_builtin;refine Kd.R_append_rows (Kd.int .u8) (w0 := w0) w0.heap.size rfl (.tmp 8) (.tmp 9) 66 5 (.int .u8 0) 1 rfl Tryd.underlying66 info5 rfl (by decide) (by omega) u9000_ l0 y430 _ _ _ (fun k_ => (P0_ k_ ∨ w.heap.size ≤ k_) ∧ some k_ ≠ (.slice Ao29 y430.length co29 : Value).ownBlock) (fun _ => False) rfl rfl ?aO ?aR (fun _ _ h => h) (fun _ h => h.elim) ?aF ?aB ?aS ?aL ?_;(case aR => repeat (first | exact (Kd.R_reads' HO432.out).2.2 | (with_reducible refine Kd.C_alloc ?_ _) | (with_reducible refine Kd.C_drewN ?_ _) | (with_reducible refine Kd.C_drew ?_)));(case aB => exact au0);(case aF => exact (fun k_ hk => ⟨(.inr (Nat.le_trans au6 hk)),Kd.fresh' (Kd.R_lt (by (with_reducible repeat (first | apply Kd.R_alloc | apply Kd.R_drewN | apply Kd.R_drew));exact HO432.out)) k_ hk⟩));(case aO => exact au12);(case aS => exact (below_size au0));(case aL => have := LMc25.out;omega);intro v434 w28 ho hb hg hat;rw [← Ny433.out] at ho;have n0_ := Aside0.mk (Kd.R_after (ok := (fun k_ => (P0_ k_ ∨ w.heap.size ≤ k_))) (by (with_reducible repeat (first | apply Kd.R_alloc | apply Kd.R_drewN | apply Kd.R_drew));exact Kd.R_mono HO432.out (fun _ hk => ⟨hk.1.1,hk.2⟩)) hg hat);have n1_ := Aside0.mk (hb);have n2_ := Aside0.mk (Kept.of_grown (S := (fun k_ => P0_ k_)) hg au11 (fun k_ e_ => (HO_0.out.1 k_ e_).1));have n3_ := Aside0.mk (ho);clear HO432;clear HB;clear HK;clear HO_0;have HO432 := n0_;have HB := n1_;have HK := n2_;have HO435 := n3_;clear n0_ n1_ n2_ n3_;clear ho hb hg hat))
        go_ret
        exact ⟨_,by first | rfl | (simp [errW_none,errW_some] <;> rfl) | (simp [*,errW_none,errW_some] <;> rfl),by (with_reducible repeat (first | apply Kd.R_alloc | apply Kd.R_drewN | apply Kd.R_drew));exact Kd.R_mono HO435.out (fun _ hk => hk.1),by repeat (first | (with_reducible first | exact HB.out | apply below_alloc | apply pw_below_drewN | apply below_drew1) | exact HB.out),by repeat (first | (with_reducible first | exact HK.out | apply Kept.alloc | apply Kept.drewN | apply Kept.drew) | exact HK.out)⟩
       ·rw [if_neg c25] at H
        exact absurd H (by simp)
     ·rw [if_neg c18] at H
      have c18b0 : decide (65535 < ((a1) % 4294967296)) = false := decide_eq_false c18
      clear c18
      obtain ⟨y436,hy436⟩ : ∃ y_ : List Int,y_ = (([239,191,189] : List Int)) := ⟨_,rfl⟩
      replace H : (if l0.length + y436.length < 140737488355328 then (some (l0 ++ y436)) else (none)) = some r := by first | (rw [hy436];with_reducible exact H) | (have H2_ := (Option.bind_some _ _).symm.trans H;rw [hy436];with_reducible exact H2_) | (have H2_ := (Option.bind_some _ _).symm.trans H;with_reducible exact H2_) | with_reducible exact H | (rw [hy436];exact H) | exact H
      have Ny436 := Aside0.mk hy436
      clear hy436
      by_cases c30 : l0.length + y436.length < 140737488355328
      ·rw [if_pos c30] at H
       have LMc30 := Aside0.mk c30
       clear c30
       obtain ⟨y439,hy439⟩ : ∃ y_ : List Int,y_ = (l0 ++ y436) := ⟨_,rfl⟩
       replace H : (some y439) = some r := by first | (rw [hy439];with_reducible exact H) | (have H2_ := (Option.bind_some _ _).symm.trans H;rw [hy439];with_reducible exact H2_) | (have H2_ := (Option.bind_some _ _).symm.trans H;with_reducible exact H2_) | with_reducible exact H | (rw [hy439];exact H) | exact H
       have Ny439 := Aside0.mk hy439
       clear hy439
       obtain rfl := Option.some.inj H
       go_wp2_with (first | ((with_reducible refine gate_dst (N := 9) rfl ?_);refine Kd.R_lit (Kd.int .u8) _ 5 ?hg (N := 9) ?hd (xs := ([239,191,189] : List Int)) (inner := [.int .u8 239,.int .u8 191,.int .u8 189]) (ok := fun _ => True) (okp := fun _ => True) ?hr ?hp (fun _ hk => hk) trivial (Below.refl _ _) (Nat.le_refl _) (by simp) ?_;(case hd => rfl);(case hg => rfl);(case hr => first | (go_simp;done) | (go_simp;rfl));(case hp => exact (Reps.one (show Kd.M (Kd.int .u8) _ _ _ 239 [.int .u8 239] from rfl) (Reps.one (show Kd.M (Kd.int .u8) _ _ _ 191 [.int .u8 191] from rfl) (Reps.one (show Kd.M (Kd.int .u8) _ _ _ 189 [.int .u8 189] from rfl) (Reps.none _ _)))));intro v437 w31 ho32 hb hg_ hnew_;clear hg_ hnew_;(first | rw [← Ny436.out] at ho32 | (simp only [Int.reduceToNat] at ho32;rw [← Ny436.out] at ho32));have n0_ := Aside0.mk (Kd.R_elder' au12 (Kd.R_base ho32) hb);have n1_ := Aside0.mk (Kd.R_lower (Kd.R_new' (Kd.R_newM (M := fun k_ => (P0_ k_ ∨ w.heap.size ≤ k_)) ho32 au6 (fun k_ h_ => .inr h_)) (Kd.R_lt au12)) (below_size au0));have n2_ := Aside0.mk (Kept.below (S := (fun k_ => P0_ k_)) au11 hb);have n3_ := Aside0.mk (below_step au0 hb);clear HO_0;clear HK;clear HB;have HO_0 := n0_;have HO438 := n1_;have HK := n2_;have HB := n3_;clear n0_ n1_ n2_ n3_;clear hb ho32;obtain ⟨Ao34,co34,eo34⟩ := Kd.R_slice HO438.out;subst eo34) | ((with_reducible refine gate_builtin (b := .append) (xs := #[.tmp 8,.tmp 9]) rfl ?_);at_builtin;refine Kd.R_append_rows (Kd.int .u8) (w0 := w0) w0.heap.size rfl (.tmp 8) (.tmp 9) 66 5 (.int .u8 0) 1 rfl Tryd.underlying66 info5 rfl (by decide) (by omega) u9000_ l0 y436 _ _ _ (fun k_ => (P0_ k_ ∨ w.heap.size ≤ k_) ∧ some k_ ≠ (.slice Ao34 y436.length co34 : Value).ownBlock) (fun _ => False) rfl rfl ?aO ?aR (fun _ _ h => h) (fun _ h => h.elim) ?aF ?aB ?aS ?aL ?_;(case aR => repeat (first | exact (Kd.R_reads' HO438.out).2.2 | (with_reducible refine Kd.C_alloc ?_ _) | (with_reducible refine Kd.C_drewN ?_ _) | (with_reducible refine Kd.C_drew ?_)));(case aB => exact au0);(case aF => exact (fun k_ hk => ⟨(.inr (Nat.le_trans au6 hk)),Kd.fresh' (Kd.R_lt (by (with_reducible repeat (first | apply Kd.R_alloc | apply Kd.R_drewN | apply Kd.R_drew));exact HO438.out)) k_ hk⟩));(case aO => exact au12);(case aS => exact (below_size au0));(case aL => have := LMc30.out;omega);intro v440 w33 ho hb hg hat;rw [← Ny439.out] at ho;have n0_ := Aside0.mk (Kd.R_after (ok := (fun k_ => (P0_ k_ ∨ w.heap.size ≤ k_))) (by (with_reducible repeat (first | apply Kd.R_alloc | apply Kd.R_drewN | apply Kd.R_drew));exact Kd.R_mono HO438.out (fun _ hk => ⟨hk.1.1,hk.2⟩)) hg hat);have n1_ := Aside0.mk (hb);have n2_ := Aside0.mk (Kept.of_grown (S := (fun k_ => P0_ k_)) hg au11 (fun k_ e_ => (HO_0.out.1 k_ e_).1));have n3_ := Aside0.mk (ho);clear HO438;clear HB;clear HK;clear HO_0;have HO438 := n0_;have HB := n1_;have HK := n2_;have HO441 := n3_;clear n0_ n1_ n2_ n3_;clear ho hb hg hat))
       go_ret
       exact ⟨_,by first | rfl | (simp [errW_none,errW_some] <;> rfl) | (simp [*,errW_none,errW_some] <;> rfl),by (with_reducible repeat (first | apply Kd.R_alloc | apply Kd.R_drewN | apply Kd.R_drew));exact Kd.R_mono HO441.out (fun _ hk => hk.1),by repeat (first | (with_reducible first | exact HB.out | apply below_alloc | apply pw_below_drewN | apply below_drew1) | exact HB.out),by repeat (first | (with_reducible first | exact HK.out | apply Kept.alloc | apply Kept.drewN | apply Kept.drew) | exact HK.out)⟩
      ·rw [if_neg c30] at H
       exact absurd H (by simp)
def utf8_AppendRune.f (k : Nat) (l0 : List Int) (a1 : Int) : Option (List Int) := if ((a1) % 4294967296) ≤ 127 then (if l0.length < 140737488355328 then (some (l0 ++ [(a1) % 256])) else (none)) else ((utf8_appendRuneNonASCII.f k l0 a1).bind fun t445 => (some t445))
set_option maxHeartbeats 8000000 in
set_option maxRecDepth 100000 in
theorem utf8_AppendRune.calls (k : Nat) (P0_ : Nat → Prop) (u9000_ : Value) (l0 : List Int) (a1 : Int) (r : List Int) (w0 w : World) (hB : Below w0.heap.size w0 w) (ho0 : Kd.R (Kd.int .u8) 5 w w0.heap.size P0_ u9000_ l0) (h : utf8_AppendRune.f k l0 a1 = some r) :
  Calls Tryd.prog 53 #[u9000_,.int .i32 a1] w fun e w' => ∃ v0_ : Value,e = .returned (v0_) ∧ Kd.R (Kd.int .u8) 5 w' w0.heap.size (fun k_ => (P0_ k_ ∨ w.heap.size ≤ k_)) v0_ r ∧ Below w0.heap.size w0 w' ∧ Kept w w' (fun k_ => P0_ k_) := by
 have HO0 := Aside0.mk (show Kd.R (Kd.int .u8) 5 w w0.heap.size (fun k_ => (P0_ k_ ∨ w.heap.size ≤ k_)) u9000_ l0 from Kd.R_mono ho0 (fun k_ hk => (.inl hk)))
 have HK := Aside0.mk (Kept.refl w (fun k_ => P0_ k_))
 have HW0 := Aside0.mk hB.size
 have HB := Aside0.mk hB
 clear hB
 have H : (if ((a1) % 4294967296) ≤ 127 then (if l0.length < 140737488355328 then (some (l0 ++ [(a1) % 256])) else (none)) else ((utf8_appendRuneNonASCII.f k l0 a1).bind fun t445 => (some t445))) = some r := h
 clear h
 by_cases c3 : ((a1) % 4294967296) ≤ 127
 ·rw [if_pos c3] at H
  have c3b0 : decide (((a1) % 4294967296) ≤ 127) = true := decide_eq_true c3
  clear c3
  by_cases c4 : l0.length < 140737488355328
  ·rw [if_pos c4] at H
   have LMc4 := Aside0.mk c4
   clear c4
   obtain ⟨y442,hy442⟩ : ∃ y_ : List Int,y_ = (l0 ++ [(a1) % 256]) := ⟨_,rfl⟩
   replace H : (some y442) = some r := by first | (rw [hy442];with_reducible exact H) | (have H2_ := (Option.bind_some _ _).symm.trans H;rw [hy442];with_reducible exact H2_) | (have H2_ := (Option.bind_some _ _).symm.trans H;with_reducible exact H2_) | with_reducible exact H | (rw [hy442];exact H) | exact H
   have Ny442 := Aside0.mk hy442
   clear hy442
   obtain rfl := Option.some.inj H
   go_enter Tryd.func53,Tryd.ntmps53
   go_wp2_with (first | ((with_reducible refine gate_builtin (b := .append) (xs := #[.tmp 8,.tmp 11]) rfl ?_);at_builtin;refine Kd.R_append (Kd.int .u8) (w0 := w0) w0.heap.size rfl (.tmp 8) (.tmp 11) 66 5 (.int .u8 0) 1 rfl Tryd.underlying66 info5 rfl (by decide) (by omega) u9000_ l0 ((a1) % 256) [.int .u8 ((a1) % 256)] (fun k_ => (P0_ k_ ∨ w.heap.size ≤ k_)) (fun _ => False) rfl rfl ?aP (fun _ hk => hk.elim) ?aF ?aO ?aB ?aS ?aL ?_;(case aP => exact rfl);(case aB => exact au0);(case aF => exact (fun k_ hk => (.inr (Nat.le_trans au6 hk))));(case aO => exact (by (with_reducible repeat (first | apply Kd.R_alloc | apply Kd.R_drewN | apply Kd.R_drew));exact HO0.out));(case aS => exact (below_size au0));(case aL => have := LMc4.out;omega);intro v443 w5 ho hb hg hat;rw [← Ny442.out] at ho;have n0_ := Aside0.mk (hb);have n1_ := Aside0.mk (Kept.of_grown (S := (fun k_ => P0_ k_)) hg au11 (fun k_ e_ => (HO0.out.1 k_ e_)));have n2_ := Aside0.mk (ho);clear HB;clear HK;clear HO0;have HB := n0_;have HK := n1_;have HO444 := n2_;clear n0_ n1_ n2_;clear ho hb hg hat))
   go_ret
   exact ⟨_,by first | rfl | (simp [errW_none,errW_some] <;> rfl) | (simp [*,errW_none,errW_some] <;> rfl),by (with_reducible repeat (first | apply Kd.R_alloc | apply Kd.R_drewN | apply Kd.R_drew));exact HO444.out,by repeat (first | (with_reducible first | exact HB.out | apply below_alloc | apply pw_below_drewN | apply below_drew1) | exact HB.out),by repeat (first | (with_reducible first | exact HK.out | apply Kept.alloc | apply Kept.drewN | apply Kept.drew) | exact HK.out)⟩
  ·rw [if_neg c4] at H
   exact absurd H (by simp)
 ·rw [if_neg c3] at H
  have c3b0 : decide (((a1) % 4294967296) ≤ 127) = false := decide_eq_false c3
  clear c3
  replace H := Option.bind_eq_some_iff.mp H
  obtain ⟨t445,A60,H⟩ := H
  replace H : (some t445) = some r := H
  have A6 := Aside0.mk A60
  clear A60
  obtain rfl := Option.some.inj H
  obtain ⟨Ao7,co7,eo7⟩ := Kd.R_slice HO0.out
  subst eo7
  go_enter Tryd.func53,Tryd.ntmps53
  go_wp2_with (first | ((with_reducible refine gate_callee (f := 73) rfl ?_);refine goesL_ (some 15) rfl rfl Tryd.func73 (by kernel_rfl) rfl #[.slice Ao7 l0.length co7,.int .i32 a1] rfl au1 ?_;(with_reducible refine (utf8_appendRuneNonASCII.calls k (fun k_ => some k_ = (.slice Ao7 l0.length co7 : Value).ownBlock) (.slice Ao7 l0.length co7) l0 a1 t445 w0 _ ?side1 ?side2 A6.out).mono ?_);(case side1 => repeat (first | (with_reducible first | exact HB.out | apply below_alloc | apply pw_below_drewN | apply below_drew1) | exact HB.out));(case side2 => exact Kd.R_tight rfl HO0.out);rintro e w8 ⟨v446,rfl,ho0,hb,hkp⟩;refine ⟨_,rfl,?_⟩;have n0_ := Aside0.mk (Kd.R_mono (ok' := fun k_ => (P0_ k_ ∨ w.heap.size ≤ k_)) ho0 (fun k_ hk_ => Or.elim hk_ (fun hs_ => (HO0.out.1 k_ (hs_).symm)) (fun hn_ => (.inr (Nat.le_trans au6 hn_)))));have n1_ := Aside0.mk (Kept.then_ (S := (fun k_ => P0_ k_)) au11 hkp (fun k_ hs_ => (fun e_ => (HO0.out.1 k_ e_.symm)) hs_));have n2_ := Aside0.mk (hb);clear HK;clear HB;clear HO0;have HO447 := n0_;have HK := n1_;have HB := n2_;clear n0_ n1_ n2_;(try clear hb);(try clear hkp);(try clear ho0)))
  go_ret
  exact ⟨_,by first | rfl | (simp [errW_none,errW_some] <;> rfl) | (simp [*,errW_none,errW_some] <;> rfl),by (with_reducible repeat (first | apply Kd.R_alloc | apply Kd.R_drewN | apply Kd.R_drew));exact HO447.out,by repeat (first | (with_reducible first | exact HB.out | apply below_alloc | apply pw_below_drewN | apply below_drew1) | exact HB.out),by repeat (first | (with_reducible first | exact HK.out | apply Kept.alloc | apply Kept.drewN | apply Kept.drew) | exact HK.out)⟩
end Go.Proofs.YtkficbgnjpekaaaDoor.U
end
section
namespace Go.Proofs
open Go.Shelf
def Tryd.lays119_ren : Go.Shelf.Ren := ⟨fun | 119 => 52 | n => n,fun | 21 => 21 | 4 => 4 | n => n,fun | n => n⟩
theorem Tryd.lays119 : Go.Proofs.Lays.n119 Tryd.prog Tryd.lays119_ren := {
 mixed := by kernel_rfl
 f119 := Tryd.func52.trans (congrArg some (by kernel_rfl))
 t4 := Tryd.underlying4
 a4 := Tryd.isAgg4
 z4 := Tryd.sizeOf4
 v4 := Tryd.zeroValue4
 t21 := Tryd.underlying21
 a21 := Tryd.isAgg21
 z21 := Tryd.sizeOf21
 v21 := Tryd.zeroValue21 }
theorem Tryd.utf8_ValidRune (r : Int) (w : World) :
  Calls Tryd.prog 52 #[.int .i32 r] w fun e w' => e = .returned (.bool (Lib.validRune r)) ∧ w' = w := Any.utf8_ValidRune Tryd.lays119 r w
def Tryd.lays206_ren : Go.Shelf.Ren := ⟨fun | 206 => 88 | n => n,fun | 9 => 9 | 4 => 4 | 3 => 3 | n => n,fun | n => n⟩
theorem Tryd.lays206 : Go.Proofs.Lays.n206 Tryd.prog Tryd.lays206_ren := {
 mixed := by kernel_rfl
 f206 := Tryd.func88.trans (congrArg some (by kernel_rfl))
 t3 := Tryd.underlying3
 a3 := Tryd.isAgg3
 z3 := Tryd.sizeOf3
 v3 := Tryd.zeroValue3
 t4 := Tryd.underlying4
 a4 := Tryd.isAgg4
 z4 := Tryd.sizeOf4
 v4 := Tryd.zeroValue4
 t9 := Tryd.underlying9
 a9 := Tryd.isAgg9
 z9 := Tryd.sizeOf9
 v9 := Tryd.zeroValue9 }
open Go.RowKit Go.Lib in
theorem Tryd.stringslite_HasPrefix (s p : ByteArray) (w : World) :
  Calls Tryd.prog 88 #[.string s,.string p] w fun e w' => e = .returned (.bool (Lib.hasPrefix s.data.toList p.data.toList)) ∧ w' = w := Any.stringslite_HasPrefix Tryd.lays206 s p w
def Tryd.lays99_ren : Go.Shelf.Ren := ⟨fun | 99 => 82 | 206 => 88 | n => n,fun | 9 => 9 | 4 => 4 | 3 => 3 | n => n,fun | n => n⟩
theorem Tryd.lays99 : Go.Proofs.Lays.n99 Tryd.prog Tryd.lays99_ren := {
 mixed := by kernel_rfl
 f99 := Tryd.func82.trans (congrArg some (by kernel_rfl))
 f206 := Tryd.func88.trans (congrArg some (by kernel_rfl))
 t3 := Tryd.underlying3
 a3 := Tryd.isAgg3
 z3 := Tryd.sizeOf3
 v3 := Tryd.zeroValue3
 t4 := Tryd.underlying4
 a4 := Tryd.isAgg4
 z4 := Tryd.sizeOf4
 v4 := Tryd.zeroValue4
 t9 := Tryd.underlying9
 a9 := Tryd.isAgg9
 z9 := Tryd.sizeOf9
 v9 := Tryd.zeroValue9 }
open Go.RowKit Go.Lib in
theorem Tryd.strings_HasPrefix (s p : ByteArray) (w : World) :
  Calls Tryd.prog 82 #[.string s,.string p] w fun e w' => e = .returned (.bool (Lib.hasPrefix s.data.toList p.data.toList)) ∧ w' = w := Any.strings_HasPrefix Tryd.lays99 s p w
def Tryd.lays197_ren : Go.Shelf.Ren := ⟨fun | 197 => 76 | 260 => 86 | n => n,fun | 9 => 9 | 21 => 21 | 3 => 3 | 4 => 4 | 5 => 5 | 105 => 89 | 119 => 101 | 0 => 0 | 46 => 94 | 139 => 104 | 138 => 103 | n => n,fun | 3 => 0 | 4 => 1 | n => n⟩
theorem Tryd.lays197 : Go.Proofs.Lays.n197 Tryd.prog Tryd.lays197_ren := {
 mixed := by kernel_rfl
 f197 := Tryd.func76.trans (congrArg some (by kernel_rfl))
 f260 := Tryd.func86.trans (congrArg some (by kernel_rfl))
 t0 := Tryd.underlying0
 a0 := Tryd.isAgg0
 z0 := Tryd.sizeOf0
 v0 := Tryd.zeroValue0
 t3 := Tryd.underlying3
 a3 := Tryd.isAgg3
 z3 := Tryd.sizeOf3
 v3 := Tryd.zeroValue3
 t4 := Tryd.underlying4
 a4 := Tryd.isAgg4
 z4 := Tryd.sizeOf4
 v4 := Tryd.zeroValue4
 t5 := Tryd.underlying5
 a5 := Tryd.isAgg5
 z5 := Tryd.sizeOf5
 v5 := Tryd.zeroValue5
 t9 := Tryd.underlying9
 a9 := Tryd.isAgg9
 z9 := Tryd.sizeOf9
 v9 := Tryd.zeroValue9
 t21 := Tryd.underlying21
 a21 := Tryd.isAgg21
 z21 := Tryd.sizeOf21
 v21 := Tryd.zeroValue21
 t46 := Tryd.underlying94
 a46 := Tryd.isAgg94
 z46 := Tryd.sizeOf94
 v46 := Tryd.zeroValue94
 t105 := Tryd.underlying89
 a105 := Tryd.isAgg89
 z105 := Tryd.sizeOf89
 v105 := Tryd.zeroValue89
 t119 := Tryd.underlying101
 a119 := Tryd.isAgg101
 z119 := Tryd.sizeOf101
 t138 := Tryd.underlying103
 a138 := Tryd.isAgg103
 z138 := Tryd.sizeOf103
 v138 := Tryd.zeroValue103
 t139 := Tryd.underlying104
 a139 := Tryd.isAgg104
 z139 := Tryd.sizeOf104
 v139 := Tryd.zeroValue104
 g3 := by kernel_rfl
 g4 := by kernel_rfl }
def Tryd.lays260_ren : Go.Shelf.Ren := ⟨fun | 260 => 86 | n => n,fun | 9 => 9 | 21 => 21 | 3 => 3 | 4 => 4 | 5 => 5 | 119 => 101 | 0 => 0 | 46 => 94 | 139 => 104 | 138 => 103 | n => n,fun | 3 => 0 | 4 => 1 | n => n⟩
theorem Tryd.lays260 : Go.Proofs.Lays.n260 Tryd.prog Tryd.lays260_ren := {
 mixed := by kernel_rfl
 f260 := Tryd.func86.trans (congrArg some (by kernel_rfl))
 t0 := Tryd.underlying0
 a0 := Tryd.isAgg0
 z0 := Tryd.sizeOf0
 v0 := Tryd.zeroValue0
 t3 := Tryd.underlying3
 a3 := Tryd.isAgg3
 z3 := Tryd.sizeOf3
 v3 := Tryd.zeroValue3
 t4 := Tryd.underlying4
 a4 := Tryd.isAgg4
 z4 := Tryd.sizeOf4
 v4 := Tryd.zeroValue4
 t5 := Tryd.underlying5
 a5 := Tryd.isAgg5
 z5 := Tryd.sizeOf5
 v5 := Tryd.zeroValue5
 t9 := Tryd.underlying9
 a9 := Tryd.isAgg9
 z9 := Tryd.sizeOf9
 v9 := Tryd.zeroValue9
 t21 := Tryd.underlying21
 a21 := Tryd.isAgg21
 z21 := Tryd.sizeOf21
 v21 := Tryd.zeroValue21
 t46 := Tryd.underlying94
 a46 := Tryd.isAgg94
 z46 := Tryd.sizeOf94
 v46 := Tryd.zeroValue94
 t119 := Tryd.underlying101
 a119 := Tryd.isAgg101
 z119 := Tryd.sizeOf101
 t138 := Tryd.underlying103
 a138 := Tryd.isAgg103
 z138 := Tryd.sizeOf103
 v138 := Tryd.zeroValue103
 t139 := Tryd.underlying104
 a139 := Tryd.isAgg104
 z139 := Tryd.sizeOf104
 v139 := Tryd.zeroValue104
 g3 := by kernel_rfl
 g4 := by kernel_rfl }
open Go.RowKit Go.Lib in
theorem Tryd.utf8_DecodeRuneInString (s : ByteArray) (w : World) (hT : Lib.Utf8Tabs 0 1 w) :
  Calls Tryd.prog 76 #[.string s] w fun e w' => e = .returned (.tuple #[.int .i32 (Lib.decodeGo s).1,.int .i64 (Lib.decodeGo s).2]) ∧ Below w.heap.size w w' := Any.utf8_DecodeRuneInString Tryd.lays197 s w hT
end Go.Proofs
end
section
namespace Go.Proofs.YtkficbgnjpekaaaDoor.U
open Go.RowKit Go.Proofs.YtkficbgnjpekaaaDoorW.PrintWords Go.Proofs.YtkficbgnjpekaaaDoorW.PrintLast Go.Proofs.YtkficbgnjpekaaaDoorW.PrintMore
set_option linter.unusedVariables false
set_option linter.unusedSimpArgs false
theorem block_of_cell {w : World} {p : Addr} {v : Value} (h : w.cell? p = some v) : p.block < w.heap.size := by
 unfold World.cell? at h
 cases hb : w.heap[p.block]? with
 | none => simp [hb] at h
 | some o => exact (Array.getElem?_eq_some_iff.1 hb).1
/-- The tables lie where nothing is turned. -/
theorem tabs_below {w0 w : World} (h : Lib.Utf8Tabs 0 1 w0) (hb : Below w0.heap.size w0 w) : Lib.Utf8Tabs 0 1 w :=
  ⟨fun c hc => (hb.cell (p := ⟨0, c, none⟩) (block_of_cell (h.1 c hc))).trans (h.1 c hc),
   fun i hi => ⟨(hb.cell (p := ⟨1, 2 * i, none⟩) (block_of_cell (h.2 i hi).1)).trans (h.2 i hi).1,
     (hb.cell (p := ⟨1, 2 * i + 1, none⟩) (block_of_cell (h.2 i hi).2)).trans (h.2 i hi).2⟩⟩
def utf8_DecodeRuneInString.f (a0 : ByteArray) : Option (Int × Int) := some (((Lib.decodeGo a0).1 : Int),((Lib.decodeGo a0).2 : Int))
theorem utf8_DecodeRuneInString.calls (a0 : ByteArray) (r1 : Int) (r2 : Int) (w : World) (hT : Lib.Utf8Tabs 0 1 w) (h : utf8_DecodeRuneInString.f a0 = some (r1,r2)) :
  Calls Tryd.prog 76 #[.string a0] w fun e w' => e = .returned (.tuple #[.int .i32 r1,.int .i64 r2]) ∧ Below w.heap.size w w' := by
 unfold utf8_DecodeRuneInString.f at h
 simp only [Option.some.injEq,Prod.mk.injEq] at h
 obtain ⟨rfl,rfl⟩ := h
 exact Tryd.utf8_DecodeRuneInString a0 w hT
def bodkinref01_size.f (a0 : Int) : Option (Int) := if a0 < 128 then (some 1) else (if a0 < 2048 then (some 2) else (if a0 < 65536 then (some 3) else (some 4)))
theorem bodkinref01_size.calls (a0 : Int) (r : Int) (w : World) (h : bodkinref01_size.f a0 = some r) :
  Calls Tryd.prog 80 #[.int .i32 a0] w fun e w' => e = .returned (.int .i64 r) ∧ Below w.heap.size w w' := by
 unfold bodkinref01_size.f at h
 by_cases c1 : a0 < 128
 ·rw [if_pos c1] at h
  obtain rfl := Option.some.inj h
  clear h
  go_enter Tryd.func80,Tryd.ntmps80
  go_wp2
  go_ret
  exact ⟨rfl,Below.refl _ _⟩
 ·rw [if_neg c1] at h
  by_cases c2 : a0 < 2048
  ·rw [if_pos c2] at h
   obtain rfl := Option.some.inj h
   clear h
   go_enter Tryd.func80,Tryd.ntmps80
   go_wp2
   go_ret
   exact ⟨rfl,Below.refl _ _⟩
  ·rw [if_neg c2] at h
   by_cases c3 : a0 < 65536
   ·rw [if_pos c3] at h
    obtain rfl := Option.some.inj h
    clear h
    go_enter Tryd.func80,Tryd.ntmps80
    go_wp2
    go_ret
    exact ⟨rfl,Below.refl _ _⟩
   ·rw [if_neg c3] at h
    obtain rfl := Option.some.inj h
    clear h
    go_enter Tryd.func80,Tryd.ntmps80
    go_wp2
    go_ret
    exact ⟨rfl,Below.refl _ _⟩
end Go.Proofs.YtkficbgnjpekaaaDoor.U
end
