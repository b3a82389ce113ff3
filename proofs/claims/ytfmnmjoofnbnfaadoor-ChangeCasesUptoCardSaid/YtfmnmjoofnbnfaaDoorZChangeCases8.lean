/- What the law ChangeCases reaches of this seat's own texts, merged; what nothing uses is left out. -/
import Derived.Test.YtfmnmjoofnbnfaaDoorZChangeCases0
import Derived.Test.YtfmnmjoofnbnfaaDoorZChangeCases1
import Derived.Test.YtfmnmjoofnbnfaaDoorZChangeCases2
import Derived.Test.YtfmnmjoofnbnfaaDoorZChangeCases3
import Derived.Test.YtfmnmjoofnbnfaaDoorZChangeCases4
import Derived.Test.YtfmnmjoofnbnfaaDoorZChangeCases7
section
namespace Go.Proofs.YtfmnmjoofnbnfaaDoor.U
open Go.RowKit Go.Proofs.YtfmnmjoofnbnfaaDoorW.PrintWords Go.Proofs.YtfmnmjoofnbnfaaDoorW.PrintLast Go.Proofs.YtfmnmjoofnbnfaaDoorW.PrintMore
attribute [local go_sem] max2_int min2_int max_two min_two max_three min_three max_four min_four   -- for this text's walks alone
set_option linter.unusedVariables false
set_option linter.unusedSimpArgs false
mutual
def change_work_transposeChars.j0 : Nat → Int → Int → Int → ByteArray → Int → Int → Int → Option (Int × Int × ByteArray × Int × ByteArray × Bool × Int)
 | 0,_,_,_,_,_,_,_ => none
 | k + 1,x4,x5,x7,x345000,x345001,x345002,x345003 => if x7 ≤ x4 then (change_work_transposeChars.j1 k x7 true x345000 x345001 x345002 x345003) else (change_work_transposeChars.j1 k x7 (decide (x7 ≥ x5)) x345000 x345001 x345002 x345003)
def change_work_transposeChars.j1 : Nat → Int → Bool → ByteArray → Int → Int → Int → Option (Int × Int × ByteArray × Int × ByteArray × Bool × Int)
 | 0,_,_,_,_,_,_ => none
 | k + 1,x7,x37,x345000,x345001,x345002,x345003 => if x37 = true then (some (0,0,(⟨#[]⟩ : ByteArray),0,(⟨#[]⟩ : ByteArray),false,8)) else ((cluster_Prev.f k x345000 x7).bind fun t350 => ((cluster_Next.f k x345000 x7).bind fun t351 => ((change_work_swap.f x345000 x345001 x345002 x345003 t350 x7 x7 t351).bind fun bt352 => (some (bt352.1,bt352.2.1,bt352.2.2.1,bt352.2.2.2.1,bt352.2.2.2.2.1,bt352.2.2.2.2.2.1,bt352.2.2.2.2.2.2)))))
end
def change_work_transposeChars.f (k : Nat) (a0_0 : ByteArray) (a0_1 : Int) (a0_2 : Int) (a0_3 : Int) : Option (Int × Int × ByteArray × Int × ByteArray × Bool × Int) := (change_lineStart.f a0_0 a0_1).bind fun t346 => ((change_lineEnd.f a0_0 a0_1).bind fun bt347 => (if a0_1 = bt347.1 then ((cluster_Prev.f k a0_0 bt347.1).bind fun t349 => (change_work_transposeChars.j0 k t346 bt347.1 t349 a0_0 a0_1 a0_2 a0_3)) else (change_work_transposeChars.j0 k t346 bt347.1 a0_1 a0_0 a0_1 a0_2 a0_3)))
def change_work_transposeChars.T8 : Bool × List (List Nat × List Nat) := (true,[([],[]),([],[]),([1],[1]),([],[]),([2,3],[2,3]),([],[]),([],[]),([],[]),([7],[7]),([],[]),([8,9,4],[8,9]),([0,4,5,6,10,10],[0,4,5,6,10]),([11],[11]),([11],[11]),([12,11,0,1,2,3,4,5,6,7,8,9,10,11,12,13],[12]),([13,14,0,1,2,3,4,5,6,7,8,9,10,11,12,13,14],[13])])
def change_work_transposeChars.B8 : List Nat := [0,0,2,0,14,0,0,0,128,0,926,2047,4095,4095,16383,32767]
theorem change_work_transposeChars.tab8 : rtab .any (opsOf Tryd.f57 8) = change_work_transposeChars.T8 := by kernel_rfl
theorem change_work_transposeChars.bits8 : waitsOk change_work_transposeChars.T8.2 change_work_transposeChars.B8 = true := by kernel_rfl
set_option maxHeartbeats 8000000 in
set_option maxRecDepth 100000 in
theorem change_work_transposeChars.calls (k : Nat) (a0_0 : ByteArray) (a0_1 : Int) (a0_2 : Int) (a0_3 : Int) (r1 : Int) (r2 : Int) (r3 : ByteArray) (r4 : Int) (r5 : ByteArray) (r6 : Bool) (r7 : Int) (w : World) (hT : Lib.Utf8Tabs 1 2 w) (h : change_work_transposeChars.f k a0_0 a0_1 a0_2 a0_3 = some (r1,r2,r3,r4,r5,r6,r7)) :
  Calls Tryd.prog 57 #[.agg #[.string a0_0,.int .i64 a0_1,.int .i64 a0_2,.int .i64 a0_3]] w fun e w' => e = .returned (.tuple #[.agg #[.int .i64 r1,.int .i64 r2,.string r3,.int .i64 r4,.string r5,.bool r6],.int .i64 r7]) ∧ Below w.heap.size w w' := by
 have hu52 := Tryd.underlying52
 have hu30 := Tryd.underlying30
 have HT := Aside0.mk hT
 clear hT
 have HB := Aside0.mk (Below.refl w.heap.size w)
 have H : ((change_lineStart.f a0_0 a0_1).bind fun t346 => ((change_lineEnd.f a0_0 a0_1).bind fun bt347 => (if a0_1 = bt347.1 then ((cluster_Prev.f k a0_0 bt347.1).bind fun t349 => (change_work_transposeChars.j0 k t346 bt347.1 t349 a0_0 a0_1 a0_2 a0_3)) else (change_work_transposeChars.j0 k t346 bt347.1 a0_1 a0_0 a0_1 a0_2 a0_3)))) = some (r1,r2,r3,r4,r5,r6,r7) := h
 clear h
 replace H := Option.bind_eq_some_iff.mp H
 obtain ⟨t346,A20,H⟩ := H
 replace H : ((change_lineEnd.f a0_0 a0_1).bind fun bt347 => (if a0_1 = bt347.1 then ((cluster_Prev.f k a0_0 bt347.1).bind fun t349 => (change_work_transposeChars.j0 k t346 bt347.1 t349 a0_0 a0_1 a0_2 a0_3)) else (change_work_transposeChars.j0 k t346 bt347.1 a0_1 a0_0 a0_1 a0_2 a0_3))) = some (r1,r2,r3,r4,r5,r6,r7) := H
 have A2 := Aside0.mk A20
 clear A20
 replace H := Option.bind_eq_some_iff.mp H
 obtain ⟨⟨t347,t348⟩,A30,H⟩ := H
 replace H : (if a0_1 = t347 then ((cluster_Prev.f k a0_0 t347).bind fun t349 => (change_work_transposeChars.j0 k t346 t347 t349 a0_0 a0_1 a0_2 a0_3)) else (change_work_transposeChars.j0 k t346 t347 a0_1 a0_0 a0_1 a0_2 a0_3)) = some (r1,r2,r3,r4,r5,r6,r7) := H
 have A3 := Aside0.mk A30
 clear A30
 have HC4 := Aside0.mk H
 clear H
 go_enter Tryd.func57,Tryd.ntmps57
 go_upto_if 25 with (first | ((with_reducible refine gate_dst (N := 1) rfl ?_);refine box_event ?hg (N := 1) ?hd (cs := #[.string a0_0,.int .i64 a0_1,.int .i64 a0_2,.int .i64 a0_3]) (t := 52) ?hr ?_;(case hd => rfl);(case hg => rfl);(case hr => first | (go_simp;done) | (go_simp;rfl));intro gb344 hg w5 hbox hb;have n0_ := Aside0.mk (below_step au0 hb);have n1_ := Aside0.mk (hbox);have n2_ := Aside0.mk ((by rw [hg];exact (below_size au0) : w.heap.size ≤ gb344));have n3_ := Aside0.mk ((by rw [hg];exact (below_size au0) : w.heap.size ≤ gb344));clear HB;have HB := n0_;have BK344 := n1_;have GW344 := n2_;have GE344 := n3_;clear n0_ n1_ n2_ n3_;clear hb hbox hg) | ((with_reducible refine gate_dst (N := 2) rfl ?_);refine box_event ?hg (N := 2) ?hd (cs := #[.int .i64 0,.int .i64 0,.string (⟨#[]⟩ : ByteArray),.int .i64 0,.string (⟨#[]⟩ : ByteArray),.bool false]) (t := 30) ?hr ?_;(case hd => rfl);(case hg => rfl);(case hr => first | (go_simp;done) | (go_simp;rfl));intro gb345 hg w6 hbox hb;have n0_ := Aside0.mk (blk_below (g := gb344) (o := .cells #[.string a0_0,.int .i64 a0_1,.int .i64 a0_2,.int .i64 a0_3] 52 (0,0)) au25 hb);have n1_ := Aside0.mk (below_step (by repeat (first | (with_reducible first | exact HB.out | apply below_alloc | apply pw_below_drewN | apply below_drew1 | refine below_set ?_ GE344.out) | exact HB.out)) hb);have n2_ := Aside0.mk (hbox);have n3_ := Aside0.mk ((by rw [hg];exact (below_size (by repeat (first | (with_reducible first | exact HB.out | apply below_alloc | apply pw_below_drewN | apply below_drew1 | refine below_set ?_ GE344.out) | exact HB.out))) : w.heap.size ≤ gb345));have n4_ := Aside0.mk ((by rw [hg];exact (below_size (by repeat (first | (with_reducible first | exact HB.out | apply below_alloc | apply pw_below_drewN | apply below_drew1 | refine below_set ?_ GE344.out) | exact HB.out))) : w.heap.size ≤ gb345));have n5_ := Aside0.mk ((by rw [hg];exact Nat.ne_of_lt (blk_lt (g := gb344) (o := .cells #[.string a0_0,.int .i64 a0_1,.int .i64 a0_2,.int .i64 a0_3] 52 (0,0)) au25) : gb344 ≠ gb345));have n6_ := Aside0.mk ((by rw [hg];exact Nat.ne_of_gt (blk_lt (g := gb344) (o := .cells #[.string a0_0,.int .i64 a0_1,.int .i64 a0_2,.int .i64 a0_3] 52 (0,0)) au25) : gb345 ≠ gb344));clear BK344;clear HB;have BK344 := n0_;have HB := n1_;have BK345 := n2_;have GW345 := n3_;have GE345 := n4_;have NB344_345 := n5_;have NB345_344 := n6_;clear n0_ n1_ n2_ n3_ n4_ n5_ n6_;clear hb hbox hg;have hnb7 := NB344_345.out;have hnc7 := NB345_344.out;have hcz8_0 : w6.cell? ⟨gb344,0,none⟩ = some (.string a0_0) := (blk_cell BK344.out 0).trans rfl;have hcz8_1 : w6.cell? ⟨gb344,1,none⟩ = some (.int .i64 a0_1) := (blk_cell BK344.out 1).trans rfl;have hcz8_2 : w6.cell? ⟨gb344,2,none⟩ = some (.int .i64 a0_2) := (blk_cell BK344.out 2).trans rfl;have hcz8_3 : w6.cell? ⟨gb344,3,none⟩ = some (.int .i64 a0_3) := (blk_cell BK344.out 3).trans rfl;have hfz8_0 := blk_frozen BK344.out 0;have hfz8_1 := blk_frozen BK344.out 1;have hfz8_2 := blk_frozen BK344.out 2;have hfz8_3 := blk_frozen BK344.out 3) | ((with_reducible refine gate_callee (f := 54) rfl ?_);refine goesL_ (some 12) rfl rfl Tryd.func54 (by kernel_rfl) rfl #[.string a0_0,.int .i64 a0_1] rfl au1 ?_;(with_reducible refine (change_lineStart.calls a0_0 a0_1 t346 _ A2.out).mono ?_);rintro e w9 ⟨rfl,hb⟩;refine ⟨_,rfl,?_⟩;have n0_ := Aside0.mk (blk_below (g := gb344) (o := .cells #[.string a0_0,.int .i64 a0_1,.int .i64 a0_2,.int .i64 a0_3] 52 (0,0)) au25 hb);have n1_ := Aside0.mk (blk_below (g := gb345) (o := .cells #[.int .i64 0,.int .i64 0,.string (⟨#[]⟩ : ByteArray),.int .i64 0,.string (⟨#[]⟩ : ByteArray),.bool false] 30 (0,0)) (by (with_reducible repeat (first | refine blk_drewN ?_ _ | refine blk_drew ?_ | refine blk_alloc ?_ _));exact BK345.out) hb);have n2_ := Aside0.mk (below_step au14 hb);clear BK344;clear BK345;clear HB;have BK344 := n0_;have BK345 := n1_;have HB := n2_;clear n0_ n1_ n2_;(try clear hb);(try clear hb2);(try clear hk);(try clear hi);have hcz10_0 : w9.cell? ⟨gb344,0,none⟩ = some (.string a0_0) := (blk_cell BK344.out 0).trans rfl;have hcz10_1 : w9.cell? ⟨gb344,1,none⟩ = some (.int .i64 a0_1) := (blk_cell BK344.out 1).trans rfl;have hcz10_2 : w9.cell? ⟨gb344,2,none⟩ = some (.int .i64 a0_2) := (blk_cell BK344.out 2).trans rfl;have hcz10_3 : w9.cell? ⟨gb344,3,none⟩ = some (.int .i64 a0_3) := (blk_cell BK344.out 3).trans rfl;have hfz10_0 := blk_frozen BK344.out 0;have hfz10_1 := blk_frozen BK344.out 1;have hfz10_2 := blk_frozen BK344.out 2;have hfz10_3 := blk_frozen BK344.out 3) | ((with_reducible refine gate_callee (f := 69) rfl ?_);refine goesL_ (some 18) rfl rfl Tryd.func69 (by kernel_rfl) rfl #[.string a0_0,.int .i64 a0_1] rfl au1 ?_;(with_reducible refine (change_lineEnd.calls a0_0 a0_1 t347 t348 _ A3.out).mono ?_);rintro e w11 ⟨rfl,hb⟩;refine ⟨_,rfl,?_⟩;have n0_ := Aside0.mk (blk_below (g := gb344) (o := .cells #[.string a0_0,.int .i64 a0_1,.int .i64 a0_2,.int .i64 a0_3] 52 (0,0)) au25 hb);have n1_ := Aside0.mk (blk_below (g := gb345) (o := .cells #[.int .i64 0,.int .i64 0,.string (⟨#[]⟩ : ByteArray),.int .i64 0,.string (⟨#[]⟩ : ByteArray),.bool false] 30 (0,0)) (by (with_reducible repeat (first | refine blk_drewN ?_ _ | refine blk_drew ?_ | refine blk_alloc ?_ _));exact BK345.out) hb);have n2_ := Aside0.mk (below_step au14 hb);clear BK344;clear BK345;clear HB;have BK344 := n0_;have BK345 := n1_;have HB := n2_;clear n0_ n1_ n2_;(try clear hb);(try clear hb2);(try clear hk);(try clear hi);have hcz12_0 : w11.cell? ⟨gb344,0,none⟩ = some (.string a0_0) := (blk_cell BK344.out 0).trans rfl;have hcz12_1 : w11.cell? ⟨gb344,1,none⟩ = some (.int .i64 a0_1) := (blk_cell BK344.out 1).trans rfl;have hcz12_2 : w11.cell? ⟨gb344,2,none⟩ = some (.int .i64 a0_2) := (blk_cell BK344.out 2).trans rfl;have hcz12_3 : w11.cell? ⟨gb344,3,none⟩ = some (.int .i64 a0_3) := (blk_cell BK344.out 3).trans rfl;have hfz12_0 := blk_frozen BK344.out 0;have hfz12_1 := blk_frozen BK344.out 1;have hfz12_2 := blk_frozen BK344.out 2;have hfz12_3 := blk_frozen BK344.out 3))
 (try simp only [Act.put,List.setIfInBounds_toArray,List.set_cons_zero,List.set_cons_succ])
 go_cut [7] (fun v7 wc => ∃ (kq : Nat) (x7_3 : Int),v7 = .int .i64 x7_3 ∧ Aside0 (change_work_transposeChars.j0 kq t346 t347 x7_3 a0_0 a0_1 a0_2 a0_3 = some (r1,r2,r3,r4,r5,r6,r7)) ∧ Aside0 (kq ≤ k) ∧ Aside0 (wc.heap[gb344]? = some (.cells #[.string a0_0,.int .i64 a0_1,.int .i64 a0_2,.int .i64 a0_3] 52 (0,0))) ∧ Aside0 (wc.heap[gb345]? = some (.cells #[.int .i64 0,.int .i64 0,.string (⟨#[]⟩ : ByteArray),.int .i64 0,.string (⟨#[]⟩ : ByteArray),.bool false] 30 (0,0))) ∧ Aside0 (Below w.heap.size w wc))
 case first =>
  have H := HC4.out
  clear HC4
  by_cases c13 : a0_1 = t347
  ·rw [if_pos c13] at H
   have c13b0 : (a0_1 == t347) = true := beq_iff_eq.mpr c13
   have c13b1 : (a0_1 != t347) = false := bne_eq_false_iff_eq.mpr c13
   clear c13
   (first | rw [c13b0] | (simp only [i64_w,i32_w];rw [c13b0]) | skip)
   replace H := Option.bind_eq_some_iff.mp H
   obtain ⟨t349,A140,H⟩ := H
   replace H : (change_work_transposeChars.j0 k t346 t347 t349 a0_0 a0_1 a0_2 a0_3) = some (r1,r2,r3,r4,r5,r6,r7) := H
   have A14 := Aside0.mk A140
   clear A140
   have H' := Aside0.mk H
   clear H
   have hnb15 := NB344_345.out
   have hnc15 := NB345_344.out
   have hcz16_0 : w11.cell? ⟨gb344,0,none⟩ = some (.string a0_0) := (blk_cell BK344.out 0).trans rfl
   have hcz16_1 : w11.cell? ⟨gb344,1,none⟩ = some (.int .i64 a0_1) := (blk_cell BK344.out 1).trans rfl
   have hcz16_2 : w11.cell? ⟨gb344,2,none⟩ = some (.int .i64 a0_2) := (blk_cell BK344.out 2).trans rfl
   have hcz16_3 : w11.cell? ⟨gb344,3,none⟩ = some (.int .i64 a0_3) := (blk_cell BK344.out 3).trans rfl
   have hfz16_0 := blk_frozen BK344.out 0
   have hfz16_1 := blk_frozen BK344.out 1
   have hfz16_2 := blk_frozen BK344.out 2
   have hfz16_3 := blk_frozen BK344.out 3
   go_wp2_with (first | ((with_reducible refine gate_callee (f := 50) rfl ?_);refine goesL_ (some 29) rfl rfl Tryd.func50 (by kernel_rfl) rfl #[.string a0_0,.int .i64 t347] rfl au1 ?_;(with_reducible refine (cluster_Prev.calls k a0_0 t347 t349 _ ?side1 A14.out).mono ?_);(case side1 => exact tabs_below HT.out au14);rintro e w17 ⟨rfl,hb⟩;refine ⟨_,rfl,?_⟩;have n0_ := Aside0.mk (blk_below (g := gb344) (o := .cells #[.string a0_0,.int .i64 a0_1,.int .i64 a0_2,.int .i64 a0_3] 52 (0,0)) au25 hb);have n1_ := Aside0.mk (blk_below (g := gb345) (o := .cells #[.int .i64 0,.int .i64 0,.string (⟨#[]⟩ : ByteArray),.int .i64 0,.string (⟨#[]⟩ : ByteArray),.bool false] 30 (0,0)) (by (with_reducible repeat (first | refine blk_drewN ?_ _ | refine blk_drew ?_ | refine blk_alloc ?_ _));exact BK345.out) hb);have n2_ := Aside0.mk (below_step au14 hb);clear BK344;clear BK345;clear HB;have BK344 := n0_;have BK345 := n1_;have HB := n2_;clear n0_ n1_ n2_;(try clear hb);(try clear hb2);(try clear hk);(try clear hi)))
   go_meet
   case rel => exact ⟨_,(t349),au8,H',⟨by first | omega | exact Nat.le_refl _⟩,⟨by (with_reducible repeat (first | refine blk_drewN ?_ _ | refine blk_drew ?_ | refine blk_alloc ?_ _));exact BK344.out⟩,⟨by (with_reducible repeat (first | refine blk_drewN ?_ _ | refine blk_drew ?_ | refine blk_alloc ?_ _));exact BK345.out⟩,⟨by repeat (first | (with_reducible first | exact HB.out | apply below_alloc | apply pw_below_drewN | apply below_drew1 | refine below_set ?_ GE344.out | refine below_set ?_ GE345.out) | exact HB.out)⟩⟩
  ·rw [if_neg c13] at H
   have c13b0 : (a0_1 == t347) = false := beq_eq_false_iff_ne.mpr c13
   have c13b1 : (a0_1 != t347) = true := bne_iff_ne.mpr c13
   (first | rw [c13b0] | (simp only [i64_w,i32_w];rw [c13b0]) | skip)
   have H' := Aside0.mk H
   clear H
   go_wp2
   go_meet
   case rel => exact ⟨_,(a0_1),au8,H',⟨by first | omega | exact Nat.le_refl _⟩,⟨by (with_reducible repeat (first | refine blk_drewN ?_ _ | refine blk_drew ?_ | refine blk_alloc ?_ _));exact BK344.out⟩,⟨by (with_reducible repeat (first | refine blk_drewN ?_ _ | refine blk_drew ?_ | refine blk_alloc ?_ _));exact BK345.out⟩,⟨by repeat (first | (with_reducible first | exact HB.out | apply below_alloc | apply pw_below_drewN | apply below_drew1 | refine below_set ?_ GE344.out | refine below_set ?_ GE345.out) | exact HB.out)⟩⟩
 case rest =>
  clear HC4
  try clear c1
  try clear p2
  try clear c5
  try clear c6
  try clear c7
  try clear c13
  try clear c13b0
  try clear c13b1
  try clear c15
  try clear hcz10_0
  try clear hcz10_1
  try clear hcz10_2
  try clear hcz10_3
  try clear hcz12_0
  try clear hcz12_1
  try clear hcz12_2
  try clear hcz12_3
  try clear hcz16_0
  try clear hcz16_1
  try clear hcz16_2
  try clear hcz16_3
  try clear hcz8_0
  try clear hcz8_1
  try clear hcz8_2
  try clear hcz8_3
  try clear hfz10_0
  try clear hfz10_1
  try clear hfz10_2
  try clear hfz10_3
  try clear hfz12_0
  try clear hfz12_1
  try clear hfz12_2
  try clear hfz12_3
  try clear hfz16_0
  try clear hfz16_1
  try clear hfz16_2
  try clear hfz16_3
  try clear hfz8_0
  try clear hfz8_1
  try clear hfz8_2
  try clear hfz8_3
  obtain ⟨kq,x7_3,rfl,HA,HJ3,BK344,BK345,HB⟩ := hcut
  cases kq with
  | zero => exact absurd HA.out (by simp [change_work_transposeChars.j0])
  | succ kj3 =>
   have H := HA.out
   clear HA
   simp only [change_work_transposeChars.j0] at H
   have HC18 := Aside0.mk H
   clear H
   go_upto_region 6 with (fail)
   go_cut [37] (fun v37 wc => ∃ (kq : Nat) (x37_17 : Bool),v37 = .bool x37_17 ∧ Aside0 (change_work_transposeChars.j1 kq x7_3 x37_17 a0_0 a0_1 a0_2 a0_3 = some (r1,r2,r3,r4,r5,r6,r7)) ∧ Aside0 (kq ≤ kj3) ∧ Aside0 (wc.heap[gb344]? = some (.cells #[.string a0_0,.int .i64 a0_1,.int .i64 a0_2,.int .i64 a0_3] 52 (0,0))) ∧ Aside0 (wc.heap[gb345]? = some (.cells #[.int .i64 0,.int .i64 0,.string (⟨#[]⟩ : ByteArray),.int .i64 0,.string (⟨#[]⟩ : ByteArray),.bool false] 30 (0,0))) ∧ Aside0 (Below w.heap.size w wc))
   case first =>
    have H := HC18.out
    clear HC18
    by_cases c19 : x7_3 ≤ t346
    ·rw [if_pos c19] at H
     have c19b0 : decide (x7_3 ≤ t346) = true := decide_eq_true c19
     clear c19
     (first | rw [c19b0] | (simp only [i64_w,i32_w];rw [c19b0]) | skip)
     have H' := Aside0.mk H
     clear H
     go_wp2
     go_meet
     case rel => exact ⟨_,(true),au8,H',⟨by have := HJ3.out;first | omega | exact Nat.le_refl _⟩,⟨by (with_reducible repeat (first | refine blk_drewN ?_ _ | refine blk_drew ?_ | refine blk_alloc ?_ _));exact BK344.out⟩,⟨by (with_reducible repeat (first | refine blk_drewN ?_ _ | refine blk_drew ?_ | refine blk_alloc ?_ _));exact BK345.out⟩,⟨by repeat (first | (with_reducible first | exact HB.out | apply below_alloc | apply pw_below_drewN | apply below_drew1 | refine below_set ?_ GE344.out | refine below_set ?_ GE345.out) | exact HB.out)⟩⟩
    ·rw [if_neg c19] at H
     have c19b0 : decide (x7_3 ≤ t346) = false := decide_eq_false c19
     clear c19
     (first | rw [c19b0] | (simp only [i64_w,i32_w];rw [c19b0]) | skip)
     have H' := Aside0.mk H
     clear H
     go_wp2
     go_meet
     case rel => exact ⟨_,(decide (x7_3 ≥ t347)),au8,H',⟨by have := HJ3.out;first | omega | exact Nat.le_refl _⟩,⟨by (with_reducible repeat (first | refine blk_drewN ?_ _ | refine blk_drew ?_ | refine blk_alloc ?_ _));exact BK344.out⟩,⟨by (with_reducible repeat (first | refine blk_drewN ?_ _ | refine blk_drew ?_ | refine blk_alloc ?_ _));exact BK345.out⟩,⟨by repeat (first | (with_reducible first | exact HB.out | apply below_alloc | apply pw_below_drewN | apply below_drew1 | refine below_set ?_ GE344.out | refine below_set ?_ GE345.out) | exact HB.out)⟩⟩
   case rest =>
    clear HC18
    try clear c1
    try clear p2
    try clear c5
    try clear c6
    try clear c7
    try clear c13
    try clear c13b0
    try clear c13b1
    try clear c15
    try clear c19
    try clear c19b0
    try clear hcz10_0
    try clear hcz10_1
    try clear hcz10_2
    try clear hcz10_3
    try clear hcz12_0
    try clear hcz12_1
    try clear hcz12_2
    try clear hcz12_3
    try clear hcz16_0
    try clear hcz16_1
    try clear hcz16_2
    try clear hcz16_3
    try clear hcz8_0
    try clear hcz8_1
    try clear hcz8_2
    try clear hcz8_3
    try clear hfz10_0
    try clear hfz10_1
    try clear hfz10_2
    try clear hfz10_3
    try clear hfz12_0
    try clear hfz12_1
    try clear hfz12_2
    try clear hfz12_3
    try clear hfz16_0
    try clear hfz16_1
    try clear hfz16_2
    try clear hfz16_3
    try clear hfz8_0
    try clear hfz8_1
    try clear hfz8_2
    try clear hfz8_3
    try clear p2
    obtain ⟨kq,x37_17,rfl,HA,HJ17,BK344,BK345,HB⟩ := hcut
    cases kq with
    | zero => exact absurd HA.out (by simp [change_work_transposeChars.j1])
    | succ kj17 =>
     have H := HA.out
     clear HA
     simp only [change_work_transposeChars.j1] at H
     by_cases c20 : x37_17 = true
     ·subst c20
      have H1 : (some (0,0,(⟨#[]⟩ : ByteArray),0,(⟨#[]⟩ : ByteArray),false,8)) = some (r1,r2,r3,r4,r5,r6,r7) := by rw [if_pos rfl] at H;exact H
      clear H
      have H := H1
      clear H1
      simp only [Option.some.injEq,Prod.mk.injEq] at H
      obtain ⟨rfl,rfl,rfl,rfl,rfl,rfl,rfl⟩ := H
      have hnb21 := NB345_344.out
      have hnc21 := NB344_345.out
      have hcz22_0 : wc.cell? ⟨gb345,0,none⟩ = some (.int .i64 0) := (blk_cell BK345.out 0).trans rfl
      have hcz22_1 : wc.cell? ⟨gb345,1,none⟩ = some (.int .i64 0) := (blk_cell BK345.out 1).trans rfl
      have hcz22_2 : wc.cell? ⟨gb345,2,none⟩ = some (.string (⟨#[]⟩ : ByteArray)) := (blk_cell BK345.out 2).trans rfl
      have hcz22_3 : wc.cell? ⟨gb345,3,none⟩ = some (.int .i64 0) := (blk_cell BK345.out 3).trans rfl
      have hcz22_4 : wc.cell? ⟨gb345,4,none⟩ = some (.string (⟨#[]⟩ : ByteArray)) := (blk_cell BK345.out 4).trans rfl
      have hcz22_5 : wc.cell? ⟨gb345,5,none⟩ = some (.bool false) := (blk_cell BK345.out 5).trans rfl
      have hfz22_0 := blk_frozen BK345.out 0
      have hfz22_1 := blk_frozen BK345.out 1
      have hfz22_2 := blk_frozen BK345.out 2
      have hfz22_3 := blk_frozen BK345.out 3
      have hfz22_4 := blk_frozen BK345.out 4
      have hfz22_5 := blk_frozen BK345.out 5
      go_wp2
      refine bodyPost_ret (results_ct rfl _ _ gb345 30 #[.int .i64 0,.int .i64 0,.string (⟨#[]⟩ : ByteArray),.int .i64 0,.string (⟨#[]⟩ : ByteArray),.bool false] (0,0) _ rfl (by (with_reducible repeat (first | refine blk_drewN ?_ _ | refine blk_drew ?_ | refine blk_alloc ?_ _));refine blk_put (cs := #[.int .i64 0,.int .i64 0,.string (⟨#[]⟩ : ByteArray),.int .i64 0,.string (⟨#[]⟩ : ByteArray),.bool false]) ?_ 5 _ rfl;(with_reducible repeat (first | refine blk_drewN ?_ _ | refine blk_drew ?_ | refine blk_alloc ?_ _));refine blk_put (cs := #[.int .i64 0,.int .i64 0,.string (⟨#[]⟩ : ByteArray),.int .i64 0,.string (⟨#[]⟩ : ByteArray),.bool false]) ?_ 4 _ rfl;(with_reducible repeat (first | refine blk_drewN ?_ _ | refine blk_drew ?_ | refine blk_alloc ?_ _));refine blk_put (cs := #[.int .i64 0,.int .i64 0,.string (⟨#[]⟩ : ByteArray),.int .i64 0,.string (⟨#[]⟩ : ByteArray),.bool false]) ?_ 3 _ rfl;(with_reducible repeat (first | refine blk_drewN ?_ _ | refine blk_drew ?_ | refine blk_alloc ?_ _));refine blk_put (cs := #[.int .i64 0,.int .i64 0,.string (⟨#[]⟩ : ByteArray),.int .i64 0,.string (⟨#[]⟩ : ByteArray),.bool false]) ?_ 2 _ rfl;(with_reducible repeat (first | refine blk_drewN ?_ _ | refine blk_drew ?_ | refine blk_alloc ?_ _));refine blk_put (cs := #[.int .i64 0,.int .i64 0,.string (⟨#[]⟩ : ByteArray),.int .i64 0,.string (⟨#[]⟩ : ByteArray),.bool false]) ?_ 1 _ rfl;(with_reducible repeat (first | refine blk_drewN ?_ _ | refine blk_drew ?_ | refine blk_alloc ?_ _));refine blk_put (cs := #[.int .i64 0,.int .i64 0,.string (⟨#[]⟩ : ByteArray),.int .i64 0,.string (⟨#[]⟩ : ByteArray),.bool false]) ?_ 0 _ rfl;(with_reducible repeat (first | refine blk_drewN ?_ _ | refine blk_drew ?_ | refine blk_alloc ?_ _));exact BK345.out) Tryd.underlying30 rfl (by kernel_rfl)) rfl ?_
      exact ⟨au2,by repeat (first | (with_reducible first | exact HB.out | apply below_alloc | apply pw_below_drewN | apply below_drew1 | refine below_set ?_ GE344.out | refine below_set ?_ GE345.out) | exact HB.out)⟩
     ·replace c20 := Bool.eq_false_iff.mpr c20
      subst c20
      have H1 : ((cluster_Prev.f kj17 a0_0 x7_3).bind fun t350 => ((cluster_Next.f kj17 a0_0 x7_3).bind fun t351 => ((change_work_swap.f a0_0 a0_1 a0_2 a0_3 t350 x7_3 x7_3 t351).bind fun bt352 => (some (bt352.1,bt352.2.1,bt352.2.2.1,bt352.2.2.2.1,bt352.2.2.2.2.1,bt352.2.2.2.2.2.1,bt352.2.2.2.2.2.2))))) = some (r1,r2,r3,r4,r5,r6,r7) := by rw [if_neg (show ¬ (false = true) by decide)] at H;exact H
      clear H
      have H := H1
      clear H1
      replace H := Option.bind_eq_some_iff.mp H
      obtain ⟨t350,A230,H⟩ := H
      replace H : ((cluster_Next.f kj17 a0_0 x7_3).bind fun t351 => ((change_work_swap.f a0_0 a0_1 a0_2 a0_3 t350 x7_3 x7_3 t351).bind fun bt352 => (some (bt352.1,bt352.2.1,bt352.2.2.1,bt352.2.2.2.1,bt352.2.2.2.2.1,bt352.2.2.2.2.2.1,bt352.2.2.2.2.2.2)))) = some (r1,r2,r3,r4,r5,r6,r7) := H
      have A23 := Aside0.mk A230
      clear A230
      replace H := Option.bind_eq_some_iff.mp H
      obtain ⟨t351,A240,H⟩ := H
      replace H : ((change_work_swap.f a0_0 a0_1 a0_2 a0_3 t350 x7_3 x7_3 t351).bind fun bt352 => (some (bt352.1,bt352.2.1,bt352.2.2.1,bt352.2.2.2.1,bt352.2.2.2.2.1,bt352.2.2.2.2.2.1,bt352.2.2.2.2.2.2))) = some (r1,r2,r3,r4,r5,r6,r7) := H
      have A24 := Aside0.mk A240
      clear A240
      replace H := Option.bind_eq_some_iff.mp H
      obtain ⟨⟨t352,t353,t354,t355,t356,t357,t358⟩,A250,H⟩ := H
      replace H : (some (t352,t353,t354,t355,t356,t357,t358)) = some (r1,r2,r3,r4,r5,r6,r7) := H
      have A25 := Aside0.mk A250
      clear A250
      simp only [Option.some.injEq,Prod.mk.injEq] at H
      obtain ⟨rfl,rfl,rfl,rfl,rfl,rfl,rfl⟩ := H
      try go_wp2
      have n0_ := Aside0.mk (blk_drew BK344.out)
      have n1_ := Aside0.mk (blk_drew BK345.out)
      have n2_ := Aside0.mk (below_drew1 HB.out)
      clear BK344
      clear BK345
      clear HB
      have BK344 := n0_
      have BK345 := n1_
      have HB := n2_
      clear n0_ n1_ n2_
      refine start_ (n := 16) (S := fun w' => w'.cell? ⟨gb344,0,none⟩ = some (.string a0_0) ∧ w'.cell? ⟨gb344,1,none⟩ = some (.int .i64 a0_1) ∧ w'.cell? ⟨gb344,2,none⟩ = some (.int .i64 a0_2) ∧ w'.cell? ⟨gb344,3,none⟩ = some (.int .i64 a0_3)) (ds := []) #[false,false,false,false,false,false,false,false,false,false,false,false,false,false,false,false] (by kernel_rfl) rfl rfl ⟨(blk_cell BK344.out 0).trans rfl,(blk_cell BK344.out 1).trans rfl,(blk_cell BK344.out 2).trans rfl,(blk_cell BK344.out 3).trans rfl⟩ (fun hHeld => ?_);refine with_tabW change_work_transposeChars.tab8 change_work_transposeChars.bits8 (fun HT_ HW_ => ?_)
      generalize wc.drew = w26 at BK344 BK345 HB hHeld ⊢
      refine pure_ (i := 1) (N := some 40) (v := ?_) (a' := ?_) #[false,true,false,false,false,false,false,false,false,false,false,false,false,false,false,false] rfl rfl (any_of HT_.out (by kernel_rfl)) (fun _ _ _ h => h) (Or.inl ⟨by rfl,?_⟩) ?_ ?_
      rotate_left
      ·intro w'
       go_simp
       with_reducible rfl
      rotate_left
      ·simp only [Act.put,List.setIfInBounds_toArray,List.set_cons_zero,List.set_cons_succ,i64_w,i32_w]
       rfl
      refine pure_ (i := 3) (N := some 42) (v := ?_) (a' := ?_) #[false,true,false,true,false,false,false,false,false,false,false,false,false,false,false,false] rfl rfl (any_of HT_.out (by kernel_rfl)) (fun _ _ _ h => h) (Or.inl ⟨by rfl,?_⟩) ?_ ?_
      rotate_left
      ·intro w'
       go_simp
       with_reducible rfl
      rotate_left
      ·simp only [Act.put,List.setIfInBounds_toArray,List.set_cons_zero,List.set_cons_succ,i64_w,i32_w]
       rfl
      refine pure_ (i := 5) (N := some 44) (v := ?_) (a' := ?_) #[false,true,false,true,false,true,false,false,false,false,false,false,false,false,false,false] rfl rfl (any_of HT_.out (by kernel_rfl)) (fun _ _ _ h => h) (Or.inl ⟨by rfl,?_⟩) ?_ ?_
      rotate_left
      ·intro w'
       go_simp
       with_reducible rfl
      rotate_left
      ·simp only [Act.put,List.setIfInBounds_toArray,List.set_cons_zero,List.set_cons_succ,i64_w,i32_w]
       rfl
      refine pure_ (i := 6) (N := some 45) (v := ?_) (a' := ?_) #[false,true,false,true,false,true,true,false,false,false,false,false,false,false,false,false] rfl rfl (any_of HT_.out (by kernel_rfl)) (fun _ _ _ h => h) (Or.inl ⟨by rfl,?_⟩) ?_ ?_
      rotate_left
      ·intro w'
       go_simp
       with_reducible rfl
      rotate_left
      ·simp only [Act.put,List.setIfInBounds_toArray,List.set_cons_zero,List.set_cons_succ,i64_w,i32_w]
       rfl
      refine pure_ (i := 7) (N := some 46) (v := ?_) (a' := ?_) #[false,true,false,true,false,true,true,true,false,false,false,false,false,false,false,false] rfl rfl (any_of HT_.out (by kernel_rfl)) (fun _ _ _ h => h) (Or.inl ⟨by rfl,?_⟩) ?_ ?_
      rotate_left
      ·intro w'
       go_simp
       with_reducible rfl
      rotate_left
      ·simp only [Act.put,List.setIfInBounds_toArray,List.set_cons_zero,List.set_cons_succ,i64_w,i32_w]
       rfl
      refine pure_ (i := 9) (N := some 48) (v := ?_) (a' := ?_) #[false,true,false,true,false,true,true,true,false,true,false,false,false,false,false,false] rfl rfl (any_of HT_.out (by kernel_rfl)) (fun _ _ _ h => h) (Or.inl ⟨by rfl,?_⟩) ?_ ?_
      rotate_left
      ·intro w'
       go_simp
       with_reducible rfl
      rotate_left
      ·simp only [Act.put,List.setIfInBounds_toArray,List.set_cons_zero,List.set_cons_succ,i64_w,i32_w]
       rfl
      refine take_ (i := 0) (N := some 39) (v := ?_) (a' := ?_) #[true,true,false,true,false,true,true,true,false,true,false,false,false,false,false,false] rfl rfl (take_ofW HT_.out HW_.out (by kernel_rfl)) (fun _ _ _ h => h) (Or.inl ⟨by rfl,?_⟩) hHeld ?_ ?_
      rotate_left
      ·rintro w' ⟨s0,s1,s2,s3⟩
       go_simp
       with_reducible rfl
      rotate_left
      ·simp only [Act.put,List.setIfInBounds_toArray,List.set_cons_zero,List.set_cons_succ,i64_w,i32_w]
       rfl
      refine take_ (i := 2) (N := some 41) (v := ?_) (a' := ?_) #[true,true,true,true,false,true,true,true,false,true,false,false,false,false,false,false] rfl rfl (take_ofW HT_.out HW_.out (by kernel_rfl)) (fun _ _ _ h => h) (Or.inl ⟨by rfl,?_⟩) hHeld ?_ ?_
      rotate_left
      ·rintro w' ⟨s0,s1,s2,s3⟩
       go_simp
       with_reducible rfl
      rotate_left
      ·simp only [Act.put,List.setIfInBounds_toArray,List.set_cons_zero,List.set_cons_succ,i64_w,i32_w]
       rfl
      refine take_ (i := 8) (N := some 47) (v := ?_) (a' := ?_) #[true,true,true,true,false,true,true,true,true,true,false,false,false,false,false,false] rfl rfl (take_ofW HT_.out HW_.out (by kernel_rfl)) (fun _ _ _ h => h) (Or.inl ⟨by rfl,?_⟩) hHeld ?_ ?_
      rotate_left
      ·rintro w' ⟨s0,s1,s2,s3⟩
       go_simp
       with_reducible rfl
      rotate_left
      ·simp only [Act.put,List.setIfInBounds_toArray,List.set_cons_zero,List.set_cons_succ,i64_w,i32_w]
       rfl
      refine one_ (i := 4) (N := some 43) #[true,true,true,true,true,true,true,true,true,true,false,false,false,false,false,false] rfl rfl (one_of HT_.out (by kernel_rfl)) (by decide) (fun K hK => ?_)
      refine goes_ Tryd.func50 (by kernel_rfl) rfl #[.string a0_0,.int .i64 x7_3] (by rfl) rfl rfl au1 ?_
      with_reducible refine (cluster_Prev.calls kj17 a0_0 x7_3 t350 _ ?side1 A23.out).mono ?_
      (case side1 => exact tabs_below HT.out au14)
      rintro e w27 ⟨rfl,hb⟩
      refine ⟨_,rfl,?_⟩
      have n0_ := Aside0.mk (blk_below (g := gb344) (o := .cells #[.string a0_0,.int .i64 a0_1,.int .i64 a0_2,.int .i64 a0_3] 52 (0,0)) au25 hb)
      have n1_ := Aside0.mk (blk_below (g := gb345) (o := .cells #[.int .i64 0,.int .i64 0,.string (⟨#[]⟩ : ByteArray),.int .i64 0,.string (⟨#[]⟩ : ByteArray),.bool false] 30 (0,0)) (by (with_reducible repeat (first | refine blk_drewN ?_ _ | refine blk_drew ?_ | refine blk_alloc ?_ _));exact BK345.out) hb)
      have n2_ := Aside0.mk (below_step au14 hb)
      clear BK344
      clear BK345
      clear HB
      have BK344 := n0_
      have BK345 := n1_
      have HB := n2_
      clear n0_ n1_ n2_
      (try clear hb)
      (try clear hb2)
      (try clear hk)
      (try clear hi)
      refine hK.out _ _ ⟨(blk_cell BK344.out 0).trans rfl,(blk_cell BK344.out 1).trans rfl,(blk_cell BK344.out 2).trans rfl,(blk_cell BK344.out 3).trans rfl⟩ (fun hHeld => ?_)
      clear hK K
      refine norm_ (a' := ?_) ?_ ?_
      rotate_left
      ·show Act.put _ (some 43) _ = _
       simp only [Act.put,List.setIfInBounds_toArray,List.set_cons_zero,List.set_cons_succ,i64_w,i32_w]
       rfl
      refine one_ (i := 10) (N := some 49) #[true,true,true,true,true,true,true,true,true,true,true,false,false,false,false,false] rfl rfl (one_of HT_.out (by kernel_rfl)) (by decide) (fun K hK => ?_)
      refine goes_ Tryd.func22 (by kernel_rfl) rfl #[.string a0_0,.int .i64 x7_3] (by rfl) rfl rfl au1 ?_
      with_reducible refine (cluster_Next.calls kj17 a0_0 x7_3 t351 _ ?side1 A24.out).mono ?_
      (case side1 => exact tabs_below HT.out au14)
      rintro e w28 ⟨rfl,hb⟩
      refine ⟨_,rfl,?_⟩
      have n0_ := Aside0.mk (blk_below (g := gb344) (o := .cells #[.string a0_0,.int .i64 a0_1,.int .i64 a0_2,.int .i64 a0_3] 52 (0,0)) au25 hb)
      have n1_ := Aside0.mk (blk_below (g := gb345) (o := .cells #[.int .i64 0,.int .i64 0,.string (⟨#[]⟩ : ByteArray),.int .i64 0,.string (⟨#[]⟩ : ByteArray),.bool false] 30 (0,0)) (by (with_reducible repeat (first | refine blk_drewN ?_ _ | refine blk_drew ?_ | refine blk_alloc ?_ _));exact BK345.out) hb)
      have n2_ := Aside0.mk (below_step au14 hb)
      clear BK344
      clear BK345
      clear HB
      have BK344 := n0_
      have BK345 := n1_
      have HB := n2_
      clear n0_ n1_ n2_
      (try clear hb)
      (try clear hb2)
      (try clear hk)
      (try clear hi)
      refine hK.out _ _ ⟨(blk_cell BK344.out 0).trans rfl,(blk_cell BK344.out 1).trans rfl,(blk_cell BK344.out 2).trans rfl,(blk_cell BK344.out 3).trans rfl⟩ (fun hHeld => ?_)
      clear hK K
      refine norm_ (a' := ?_) ?_ ?_
      rotate_left
      ·show Act.put _ (some 49) _ = _
       simp only [Act.put,List.setIfInBounds_toArray,List.set_cons_zero,List.set_cons_succ,i64_w,i32_w]
       rfl
      refine one_ (i := 11) (N := some 50) #[true,true,true,true,true,true,true,true,true,true,true,true,false,false,false,false] rfl rfl (one_of HT_.out (by kernel_rfl)) (by decide) (fun K hK => ?_)
      refine goes_ Tryd.func72 (by kernel_rfl) rfl #[.agg #[.string a0_0,.int .i64 a0_1,.int .i64 a0_2,.int .i64 a0_3],.int .i64 t350,.int .i64 x7_3,.int .i64 x7_3,.int .i64 t351] (by rfl) rfl rfl au1 ?_
      with_reducible refine (change_work_swap.calls a0_0 a0_1 a0_2 a0_3 t350 x7_3 x7_3 t351 t352 t353 t354 t355 t356 t357 t358 _ A25.out).mono ?_
      rintro e w29 ⟨rfl,hb⟩
      refine ⟨_,rfl,?_⟩
      have n0_ := Aside0.mk (blk_below (g := gb344) (o := .cells #[.string a0_0,.int .i64 a0_1,.int .i64 a0_2,.int .i64 a0_3] 52 (0,0)) au25 hb)
      have n1_ := Aside0.mk (blk_below (g := gb345) (o := .cells #[.int .i64 0,.int .i64 0,.string (⟨#[]⟩ : ByteArray),.int .i64 0,.string (⟨#[]⟩ : ByteArray),.bool false] 30 (0,0)) (by (with_reducible repeat (first | refine blk_drewN ?_ _ | refine blk_drew ?_ | refine blk_alloc ?_ _));exact BK345.out) hb)
      have n2_ := Aside0.mk (below_step au14 hb)
      clear BK344
      clear BK345
      clear HB
      have BK344 := n0_
      have BK345 := n1_
      have HB := n2_
      clear n0_ n1_ n2_
      (try clear hb)
      (try clear hb2)
      (try clear hk)
      (try clear hi)
      refine hK.out _ _ ⟨(blk_cell BK344.out 0).trans rfl,(blk_cell BK344.out 1).trans rfl,(blk_cell BK344.out 2).trans rfl,(blk_cell BK344.out 3).trans rfl⟩ (fun hHeld => ?_)
      clear hK K
      refine norm_ (a' := ?_) ?_ ?_
      rotate_left
      ·show Act.put _ (some 50) _ = _
       simp only [Act.put,List.setIfInBounds_toArray,List.set_cons_zero,List.set_cons_succ,i64_w,i32_w]
       rfl
      refine pure_ (i := 12) (N := some 51) (v := ?_) (a' := ?_) #[true,true,true,true,true,true,true,true,true,true,true,true,true,false,false,false] rfl rfl (any_of HT_.out (by kernel_rfl)) (fun _ _ _ h => h) (Or.inl ⟨by rfl,?_⟩) ?_ ?_
      rotate_left
      ·intro w'
       go_simp
       with_reducible rfl
      rotate_left
      ·simp only [Act.put,List.setIfInBounds_toArray,List.set_cons_zero,List.set_cons_succ,i64_w,i32_w]
       rfl
      refine pure_ (i := 13) (N := some 52) (v := ?_) (a' := ?_) #[true,true,true,true,true,true,true,true,true,true,true,true,true,true,false,false] rfl rfl (any_of HT_.out (by kernel_rfl)) (fun _ _ _ h => h) (Or.inl ⟨by rfl,?_⟩) ?_ ?_
      rotate_left
      ·intro w'
       go_simp
       with_reducible rfl
      rotate_left
      ·simp only [Act.put,List.setIfInBounds_toArray,List.set_cons_zero,List.set_cons_succ,i64_w,i32_w]
       rfl
      refine one_ (i := 14) (N := none) #[true,true,true,true,true,true,true,true,true,true,true,true,true,true,true,false] rfl rfl (one_of HT_.out (by kernel_rfl)) (by decide) (fun K hK => ?_)
      have hs30 : w29.cell? ⟨gb345,0,none⟩ = some (.int .i64 0) := (blk_cell BK345.out 0).trans rfl
      have hfs30 := blk_frozen BK345.out 0
      have hns30_0 := NB344_345.out
      have hms30_0 := NB345_344.out
      have hs31 : w29.cell? ⟨gb345,1,none⟩ = some (.int .i64 0) := (blk_cell BK345.out 1).trans rfl
      have hfs31 := blk_frozen BK345.out 1
      have hns31_0 := NB344_345.out
      have hms31_0 := NB345_344.out
      have hs32 : w29.cell? ⟨gb345,2,none⟩ = some (.string (⟨#[]⟩ : ByteArray)) := (blk_cell BK345.out 2).trans rfl
      have hfs32 := blk_frozen BK345.out 2
      have hns32_0 := NB344_345.out
      have hms32_0 := NB345_344.out
      have hs33 : w29.cell? ⟨gb345,3,none⟩ = some (.int .i64 0) := (blk_cell BK345.out 3).trans rfl
      have hfs33 := blk_frozen BK345.out 3
      have hns33_0 := NB344_345.out
      have hms33_0 := NB345_344.out
      have hs34 : w29.cell? ⟨gb345,4,none⟩ = some (.string (⟨#[]⟩ : ByteArray)) := (blk_cell BK345.out 4).trans rfl
      have hfs34 := blk_frozen BK345.out 4
      have hns34_0 := NB344_345.out
      have hms34_0 := NB345_344.out
      have hs35 : w29.cell? ⟨gb345,5,none⟩ = some (.bool false) := (blk_cell BK345.out 5).trans rfl
      have hfs35 := blk_frozen BK345.out 5
      have hns35_0 := NB344_345.out
      have hms35_0 := NB345_344.out
      refine skip_ (w1 := ?_) (by rfl) rfl ?_ ?_
      rotate_left
      ·go_simp
       rfl
      refine hK.out _ _ ⟨((cell_far (p := ⟨gb345,_,none⟩) NB344_345.out _).trans (((cell_far (p := ⟨gb345,_,none⟩) NB344_345.out _).trans (((cell_far (p := ⟨gb345,_,none⟩) NB344_345.out _).trans (((cell_far (p := ⟨gb345,_,none⟩) NB344_345.out _).trans (((cell_far (p := ⟨gb345,_,none⟩) NB344_345.out _).trans (((cell_far (p := ⟨gb345,_,none⟩) NB344_345.out _).trans (hHeld.1)))))))))))),((cell_far (p := ⟨gb345,_,none⟩) NB344_345.out _).trans (((cell_far (p := ⟨gb345,_,none⟩) NB344_345.out _).trans (((cell_far (p := ⟨gb345,_,none⟩) NB344_345.out _).trans (((cell_far (p := ⟨gb345,_,none⟩) NB344_345.out _).trans (((cell_far (p := ⟨gb345,_,none⟩) NB344_345.out _).trans (((cell_far (p := ⟨gb345,_,none⟩) NB344_345.out _).trans (hHeld.2.1)))))))))))),((cell_far (p := ⟨gb345,_,none⟩) NB344_345.out _).trans (((cell_far (p := ⟨gb345,_,none⟩) NB344_345.out _).trans (((cell_far (p := ⟨gb345,_,none⟩) NB344_345.out _).trans (((cell_far (p := ⟨gb345,_,none⟩) NB344_345.out _).trans (((cell_far (p := ⟨gb345,_,none⟩) NB344_345.out _).trans (((cell_far (p := ⟨gb345,_,none⟩) NB344_345.out _).trans (hHeld.2.2.1)))))))))))),((cell_far (p := ⟨gb345,_,none⟩) NB344_345.out _).trans (((cell_far (p := ⟨gb345,_,none⟩) NB344_345.out _).trans (((cell_far (p := ⟨gb345,_,none⟩) NB344_345.out _).trans (((cell_far (p := ⟨gb345,_,none⟩) NB344_345.out _).trans (((cell_far (p := ⟨gb345,_,none⟩) NB344_345.out _).trans (((cell_far (p := ⟨gb345,_,none⟩) NB344_345.out _).trans (hHeld.2.2.2))))))))))))⟩ (fun hHeld => ?_)
      clear hK K
      refine pure_ (i := 15) (N := some 3) (v := ?_) (a' := ?_) #[true,true,true,true,true,true,true,true,true,true,true,true,true,true,true,true] rfl rfl (any_of HT_.out (by kernel_rfl)) (fun _ _ _ h => h) (Or.inl ⟨by rfl,?_⟩) ?_ ?_
      rotate_left
      ·intro w'
       go_simp
       with_reducible rfl
      rotate_left
      ·simp only [Act.put,List.setIfInBounds_toArray,List.set_cons_zero,List.set_cons_succ,i64_w,i32_w]
       rfl
      refine done_ (done_of HT_.out (by kernel_rfl)) ?_
      try go_wp2
      refine bodyPost_ret (results_ct rfl _ _ gb345 30 #[.int .i64 t352,.int .i64 t353,.string t354,.int .i64 t355,.string t356,.bool t357] (0,0) _ rfl (by (with_reducible repeat (first | refine blk_drewN ?_ _ | refine blk_drew ?_ | refine blk_alloc ?_ _));refine blk_put (cs := #[.int .i64 t352,.int .i64 t353,.string t354,.int .i64 t355,.string t356,.bool false]) ?_ 5 _ rfl;(with_reducible repeat (first | refine blk_drewN ?_ _ | refine blk_drew ?_ | refine blk_alloc ?_ _));refine blk_put (cs := #[.int .i64 t352,.int .i64 t353,.string t354,.int .i64 t355,.string (⟨#[]⟩ : ByteArray),.bool false]) ?_ 4 _ rfl;(with_reducible repeat (first | refine blk_drewN ?_ _ | refine blk_drew ?_ | refine blk_alloc ?_ _));refine blk_put (cs := #[.int .i64 t352,.int .i64 t353,.string t354,.int .i64 0,.string (⟨#[]⟩ : ByteArray),.bool false]) ?_ 3 _ rfl;(with_reducible repeat (first | refine blk_drewN ?_ _ | refine blk_drew ?_ | refine blk_alloc ?_ _));refine blk_put (cs := #[.int .i64 t352,.int .i64 t353,.string (⟨#[]⟩ : ByteArray),.int .i64 0,.string (⟨#[]⟩ : ByteArray),.bool false]) ?_ 2 _ rfl;(with_reducible repeat (first | refine blk_drewN ?_ _ | refine blk_drew ?_ | refine blk_alloc ?_ _));refine blk_put (cs := #[.int .i64 t352,.int .i64 0,.string (⟨#[]⟩ : ByteArray),.int .i64 0,.string (⟨#[]⟩ : ByteArray),.bool false]) ?_ 1 _ rfl;(with_reducible repeat (first | refine blk_drewN ?_ _ | refine blk_drew ?_ | refine blk_alloc ?_ _));refine blk_put (cs := #[.int .i64 0,.int .i64 0,.string (⟨#[]⟩ : ByteArray),.int .i64 0,.string (⟨#[]⟩ : ByteArray),.bool false]) ?_ 0 _ rfl;(with_reducible repeat (first | refine blk_drewN ?_ _ | refine blk_drew ?_ | refine blk_alloc ?_ _));exact BK345.out) Tryd.underlying30 rfl (by kernel_rfl)) rfl ?_
      exact ⟨au2,by repeat (first | (with_reducible first | exact HB.out | apply below_alloc | apply pw_below_drewN | apply below_drew1 | refine below_set ?_ GE344.out | refine below_set ?_ GE345.out) | exact HB.out)⟩
end Go.Proofs.YtfmnmjoofnbnfaaDoor.U
end
section
namespace Go.Proofs.YtfmnmjoofnbnfaaDoor.U
open Go.RowKit Go.Proofs.YtfmnmjoofnbnfaaDoorW.PrintWords Go.Proofs.YtfmnmjoofnbnfaaDoorW.PrintLast Go.Proofs.YtfmnmjoofnbnfaaDoorW.PrintMore
attribute [local go_sem] max2_int min2_int max_two min_two max_three min_three max_four min_four   -- for this text's walks alone
set_option linter.unusedVariables false
set_option linter.unusedSimpArgs false
def change_onward.f (a0 : ByteArray) (a1 : Int) : Option (Int) := (change_lineEnd.f a0 a1).bind fun bt327 => (if a1 = bt327.1 then (some bt327.2) else (some bt327.1))
set_option maxHeartbeats 8000000 in
set_option maxRecDepth 100000 in
theorem change_onward.calls (a0 : ByteArray) (a1 : Int) (r : Int) (w : World) (h : change_onward.f a0 a1 = some r) :
  Calls Tryd.prog 52 #[.string a0,.int .i64 a1] w fun e w' => e = .returned (.int .i64 r) ∧ Below w.heap.size w w' := by
 have HB := Aside0.mk (Below.refl w.heap.size w)
 have H : ((change_lineEnd.f a0 a1).bind fun bt327 => (if a1 = bt327.1 then (some bt327.2) else (some bt327.1))) = some r := h
 clear h
 replace H := Option.bind_eq_some_iff.mp H
 obtain ⟨⟨t327,t328⟩,A30,H⟩ := H
 replace H : (if a1 = t327 then (some t328) else (some t327)) = some r := H
 have A3 := Aside0.mk A30
 clear A30
 by_cases c4 : a1 = t327
 ·rw [if_pos c4] at H
  have c4b0 : (a1 == t327) = true := beq_iff_eq.mpr c4
  have c4b1 : (a1 != t327) = false := bne_eq_false_iff_eq.mpr c4
  clear c4
  obtain rfl := Option.some.inj H
  go_enter Tryd.func52,Tryd.ntmps52
  go_wp2_with (first | ((with_reducible refine gate_callee (f := 69) rfl ?_);refine goesL_ (some 10) rfl rfl Tryd.func69 (by kernel_rfl) rfl #[.string a0,.int .i64 a1] rfl au1 ?_;(with_reducible refine (change_lineEnd.calls a0 a1 t327 t328 _ A3.out).mono ?_);rintro e w5 ⟨rfl,hb⟩;refine ⟨_,rfl,?_⟩;have n0_ := Aside0.mk (below_step au0 hb);clear HB;have HB := n0_;clear n0_;(try clear hb);(try clear hb2);(try clear hk);(try clear hi)))
  go_ret
  exact ⟨au2,au0⟩
 ·rw [if_neg c4] at H
  have c4b0 : (a1 == t327) = false := beq_eq_false_iff_ne.mpr c4
  have c4b1 : (a1 != t327) = true := bne_iff_ne.mpr c4
  obtain rfl := Option.some.inj H
  go_enter Tryd.func52,Tryd.ntmps52
  go_wp2_with (first | ((with_reducible refine gate_callee (f := 69) rfl ?_);refine goesL_ (some 10) rfl rfl Tryd.func69 (by kernel_rfl) rfl #[.string a0,.int .i64 a1] rfl au1 ?_;(with_reducible refine (change_lineEnd.calls a0 a1 t327 t328 _ A3.out).mono ?_);rintro e w6 ⟨rfl,hb⟩;refine ⟨_,rfl,?_⟩;have n0_ := Aside0.mk (below_step au0 hb);clear HB;have HB := n0_;clear n0_;(try clear hb);(try clear hb2);(try clear hk);(try clear hi)))
  go_ret
  exact ⟨au2,au0⟩
end Go.Proofs.YtfmnmjoofnbnfaaDoor.U
end
section
namespace Go.Proofs.YtfmnmjoofnbnfaaDoor.U
open Go.RowKit Go.Proofs.YtfmnmjoofnbnfaaDoorW.PrintWords Go.Proofs.YtfmnmjoofnbnfaaDoorW.PrintLast Go.Proofs.YtfmnmjoofnbnfaaDoorW.PrintMore
attribute [local go_sem] max2_int min2_int max_two min_two max_three min_three max_four min_four   -- for this text's walks alone
set_option linter.unusedVariables false
set_option linter.unusedSimpArgs false
def word_odd.f (a0 : Int) (a1 : Int) (a2 : Int) : Option (Bool) := if a0 ≥ a1 then (if a0 ≤ a2 then (some ((Int.tmod a0 2) == 1)) else (some false)) else (some false)
set_option maxHeartbeats 8000000 in
set_option maxRecDepth 100000 in
theorem word_odd.calls (a0 : Int) (a1 : Int) (a2 : Int) (r : Bool) (w : World) (h : word_odd.f a0 a1 a2 = some r) :
  Calls Tryd.prog 61 #[.int .i32 a0,.int .i32 a1,.int .i32 a2] w fun e w' => e = .returned (.bool r) ∧ Drawn0 w w' := by
 have H : (if a0 ≥ a1 then (if a0 ≤ a2 then (some ((Int.tmod a0 2) == 1)) else (some false)) else (some false)) = some r := h
 clear h
 by_cases c4 : a0 ≥ a1
 ·rw [if_pos c4] at H
  have c4b0 : decide (a1 ≤ a0) = true := decide_eq_true c4
  clear c4
  by_cases c5 : a0 ≤ a2
  ·rw [if_pos c5] at H
   have c5b0 : decide (a0 ≤ a2) = true := decide_eq_true c5
   clear c5
   obtain rfl := Option.some.inj H
   go_enter Tryd.func61,Tryd.ntmps61
   go_wp2
   go_ret
   exact ⟨by first | rfl | (simp;done) | (simp [*];done),by repeat (first | exact Drawn0.refl _ | apply Drawn0.step)⟩
  ·rw [if_neg c5] at H
   have c5b0 : decide (a0 ≤ a2) = false := decide_eq_false c5
   clear c5
   obtain rfl := Option.some.inj H
   go_enter Tryd.func61,Tryd.ntmps61
   go_wp2
   go_ret
   exact ⟨by first | rfl | (simp;done) | (simp [*];done),by repeat (first | exact Drawn0.refl _ | apply Drawn0.step)⟩
 ·rw [if_neg c4] at H
  have c4b0 : decide (a1 ≤ a0) = false := decide_eq_false c4
  clear c4
  obtain rfl := Option.some.inj H
  go_enter Tryd.func61,Tryd.ntmps61
  go_wp2
  go_ret
  exact ⟨by first | rfl | (simp;done) | (simp [*];done),by repeat (first | exact Drawn0.refl _ | apply Drawn0.step)⟩
end Go.Proofs.YtfmnmjoofnbnfaaDoor.U
end
section
namespace Go.Proofs.YtfmnmjoofnbnfaaDoor.U
open Go.RowKit Go.Proofs.YtfmnmjoofnbnfaaDoorW.PrintWords Go.Proofs.YtfmnmjoofnbnfaaDoorW.PrintLast Go.Proofs.YtfmnmjoofnbnfaaDoorW.PrintMore
attribute [local go_sem] max2_int min2_int max_two min_two max_three min_three max_four min_four   -- for this text's walks alone
set_option linter.unusedVariables false
set_option linter.unusedSimpArgs false
mutual
def word_UpperOf.j0 : Nat → Int → Bool → Option (Int)
 | 0,_,_ => none
 | k + 1,x0,x3 => if x3 = true then (word_UpperOf.j4 k x0 x3) else (if x0 ≥ 224 then (word_UpperOf.j1 k x0 (decide (x0 ≤ 246))) else (word_UpperOf.j1 k x0 false))
def word_UpperOf.j4 : Nat → Int → Bool → Option (Int)
 | 0,_,_ => none
 | k + 1,x0,x3 => if x3 = true then (some (wrap32 (x0 - 32))) else (if x0 ≥ 1104 then (word_UpperOf.j5 k x0 (decide (x0 ≤ 1119))) else (word_UpperOf.j5 k x0 false))
def word_UpperOf.j5 : Nat → Int → Bool → Option (Int)
 | 0,_,_ => none
 | k + 1,x0,x42 => if x42 = true then (some (wrap32 (x0 - 80))) else (if x0 = 255 then (some 376) else (if x0 = 305 then (word_UpperOf.j6 k x0 false) else ((word_odd.f x0 257 311).bind fun t440 => (word_UpperOf.j6 k x0 t440))))
def word_UpperOf.j6 : Nat → Int → Bool → Option (Int)
 | 0,_,_ => none
 | k + 1,x0,x54 => if x54 = true then (some (wrap32 (x0 - 1))) else ((word_odd.f x0 331 375).bind fun t441 => (if t441 = true then (some (wrap32 (x0 - 1))) else ((word_odd.f x0 1121 1153).bind fun t442 => (if t442 = true then (some (wrap32 (x0 - 1))) else (some x0)))))
def word_UpperOf.j1 : Nat → Int → Bool → Option (Int)
 | 0,_,_ => none
 | k + 1,x0,x3 => if x3 = true then (word_UpperOf.j4 k x0 x3) else (if x0 ≥ 248 then (word_UpperOf.j2 k x0 (decide (x0 ≤ 254))) else (word_UpperOf.j2 k x0 false))
def word_UpperOf.j2 : Nat → Int → Bool → Option (Int)
 | 0,_,_ => none
 | k + 1,x0,x3 => if x3 = true then (word_UpperOf.j4 k x0 x3) else (if x0 ≥ 945 then (word_UpperOf.j3 k x0 (decide (x0 ≤ 961))) else (word_UpperOf.j3 k x0 false))
def word_UpperOf.j3 : Nat → Int → Bool → Option (Int)
 | 0,_,_ => none
 | k + 1,x0,x3 => if x3 = true then (word_UpperOf.j4 k x0 x3) else (if x0 ≥ 963 then (if x0 ≤ 969 then (word_UpperOf.j4 k x0 (decide (x0 ≤ 969))) else (if x0 ≥ 1072 then (word_UpperOf.j4 k x0 (decide (x0 ≤ 1103))) else (word_UpperOf.j4 k x0 false))) else (if x0 ≥ 1072 then (word_UpperOf.j4 k x0 (decide (x0 ≤ 1103))) else (word_UpperOf.j4 k x0 false)))
end
def word_UpperOf.f (k : Nat) (a0 : Int) : Option (Int) := if a0 ≥ 97 then (word_UpperOf.j0 k a0 (decide (a0 ≤ 122))) else (word_UpperOf.j0 k a0 false)
set_option maxHeartbeats 8000000 in
set_option maxRecDepth 100000 in
theorem word_UpperOf.calls (k : Nat) (a0 : Int) (r : Int) (w : World) (h : word_UpperOf.f k a0 = some r) :
  Calls Tryd.prog 27 #[.int .i32 a0] w fun e w' => e = .returned (.int .i32 r) ∧ Drawn0 w w' := by
 have H : (if a0 ≥ 97 then (word_UpperOf.j0 k a0 (decide (a0 ≤ 122))) else (word_UpperOf.j0 k a0 false)) = some r := h
 clear h
 have HC2 := Aside0.mk H
 clear H
 go_enter Tryd.func27,Tryd.ntmps27
 go_upto_region 1 with (fail)
 go_cut [3] (fun v3 wc => ∃ (kq : Nat) (x3_1 : Bool),v3 = .bool x3_1 ∧ Aside0 (word_UpperOf.j0 kq a0 x3_1 = some r) ∧ Aside0 (kq ≤ k) ∧ Drawn0 w wc)
 case first =>
  have H := HC2.out
  clear HC2
  by_cases c3 : a0 ≥ 97
  ·rw [if_pos c3] at H
   have c3b0 : decide (97 ≤ a0) = true := decide_eq_true c3
   clear c3
   (first | rw [c3b0] | (simp only [i64_w,i32_w];rw [c3b0]) | skip)
   have H' := Aside0.mk H
   clear H
   go_wp2
   go_meet
   case rel => exact ⟨_,(decide (a0 ≤ 122)),au8,H',⟨by first | omega | exact Nat.le_refl _⟩,by repeat (first | exact Drawn0.refl _ | apply Drawn0.step)⟩
  ·rw [if_neg c3] at H
   have c3b0 : decide (97 ≤ a0) = false := decide_eq_false c3
   clear c3
   (first | rw [c3b0] | (simp only [i64_w,i32_w];rw [c3b0]) | skip)
   have H' := Aside0.mk H
   clear H
   go_wp2
   go_meet
   case rel => exact ⟨_,(false),au8,H',⟨by first | omega | exact Nat.le_refl _⟩,by repeat (first | exact Drawn0.refl _ | apply Drawn0.step)⟩
 case rest =>
  clear HC2
  try clear c2
  try clear p2
  try clear c3
  try clear c3b0
  obtain ⟨kq,x3_1,rfl,HA,HJ1,⟨mc1,rfl⟩⟩ := hcut
  cases kq with
  | zero => exact absurd HA.out (by simp [word_UpperOf.j0])
  | succ kj1 =>
   have H := HA.out
   clear HA
   simp only [word_UpperOf.j0] at H
   have HC4 := Aside0.mk H
   clear H
   go_upto_if 3 with (fail)
   go_cut [3] (fun v3 wc => ∃ (kq : Nat) (x3_3 : Bool),v3 = .bool x3_3 ∧ Aside0 (word_UpperOf.j4 kq a0 x3_3 = some r) ∧ Aside0 (kq ≤ kj1) ∧ Drawn0 w wc)
   case first =>
    have H := HC4.out
    clear HC4
    by_cases c5 : x3_1 = true
    ·subst c5
     have H1 : (word_UpperOf.j4 kj1 a0 true) = some r := by rw [if_pos rfl] at H;exact H
     clear H
     have H := H1
     clear H1
     have H' := Aside0.mk H
     clear H
     go_wp2
     go_meet
     case rel => exact ⟨_,(true),au8,H',⟨by have := HJ1.out;first | omega | exact Nat.le_refl _⟩,by repeat (first | exact Drawn0.refl _ | apply Drawn0.step)⟩
    ·replace c5 := Bool.eq_false_iff.mpr c5
     subst c5
     have H1 : (if a0 ≥ 224 then (word_UpperOf.j1 kj1 a0 (decide (a0 ≤ 246))) else (word_UpperOf.j1 kj1 a0 false)) = some r := by rw [if_neg (show ¬ (false = true) by decide)] at H;exact H
     clear H
     have H := H1
     clear H1
     have HC6 := Aside0.mk H
     clear H
     go_upto_region 2 with (fail)
     go_cut [3] (fun v3 wc => ∃ (kq : Nat) (x3_5 : Bool),v3 = .bool x3_5 ∧ Aside0 (word_UpperOf.j1 kq a0 x3_5 = some r) ∧ Aside0 (kq ≤ kj1) ∧ Drawn0 w wc)
     case first =>
      have H := HC6.out
      clear HC6
      by_cases c7 : a0 ≥ 224
      ·rw [if_pos c7] at H
       have c7b0 : decide (224 ≤ a0) = true := decide_eq_true c7
       clear c7
       (first | rw [c7b0] | (simp only [i64_w,i32_w];rw [c7b0]) | skip)
       have H' := Aside0.mk H
       clear H
       go_wp2
       go_meet
       case rel => exact ⟨_,(decide (a0 ≤ 246)),au8,H',⟨by have := HJ1.out;first | omega | exact Nat.le_refl _⟩,by repeat (first | exact Drawn0.refl _ | apply Drawn0.step)⟩
      ·rw [if_neg c7] at H
       have c7b0 : decide (224 ≤ a0) = false := decide_eq_false c7
       clear c7
       (first | rw [c7b0] | (simp only [i64_w,i32_w];rw [c7b0]) | skip)
       have H' := Aside0.mk H
       clear H
       go_wp2
       go_meet
       case rel => exact ⟨_,(false),au8,H',⟨by have := HJ1.out;first | omega | exact Nat.le_refl _⟩,by repeat (first | exact Drawn0.refl _ | apply Drawn0.step)⟩
     case rest =>
      clear HC6
      try clear c1
      try clear c2
      try clear p2
      try clear c3
      try clear c3b0
      try clear c5
      try clear c7
      try clear c7b0
      try clear p2
      obtain ⟨kq,x3_5,rfl,HA,HJ5,⟨mc5,rfl⟩⟩ := hcut
      cases kq with
      | zero => exact absurd HA.out (by simp [word_UpperOf.j1])
      | succ kj5 =>
       have H := HA.out
       clear HA
       simp only [word_UpperOf.j1] at H
       by_cases c8 : x3_5 = true
       ·subst c8
        have H1 : (word_UpperOf.j4 kj5 a0 true) = some r := by rw [if_pos rfl] at H;exact H
        clear H
        have H := H1
        clear H1
        have H' := Aside0.mk H
        clear H
        go_wp2
        go_meet
        case rel => exact ⟨_,(true),au8,H',⟨by have := HJ1.out;have := HJ5.out;first | omega | exact Nat.le_refl _⟩,by repeat (first | exact Drawn0.refl _ | apply Drawn0.step)⟩
       ·replace c8 := Bool.eq_false_iff.mpr c8
        subst c8
        have H1 : (if a0 ≥ 248 then (word_UpperOf.j2 kj5 a0 (decide (a0 ≤ 254))) else (word_UpperOf.j2 kj5 a0 false)) = some r := by rw [if_neg (show ¬ (false = true) by decide)] at H;exact H
        clear H
        have H := H1
        clear H1
        have HC9 := Aside0.mk H
        clear H
        go_upto_region 3 with (fail)
        go_cut [3] (fun v3 wc => ∃ (kq : Nat) (x3_8 : Bool),v3 = .bool x3_8 ∧ Aside0 (word_UpperOf.j2 kq a0 x3_8 = some r) ∧ Aside0 (kq ≤ kj5) ∧ Drawn0 w wc)
        case first =>
         have H := HC9.out
         clear HC9
         by_cases c10 : a0 ≥ 248
         ·rw [if_pos c10] at H
          have c10b0 : decide (248 ≤ a0) = true := decide_eq_true c10
          clear c10
          (first | rw [c10b0] | (simp only [i64_w,i32_w];rw [c10b0]) | skip)
          have H' := Aside0.mk H
          clear H
          go_wp2
          go_meet
          case rel => exact ⟨_,(decide (a0 ≤ 254)),au8,H',⟨by have := HJ1.out;have := HJ5.out;first | omega | exact Nat.le_refl _⟩,by repeat (first | exact Drawn0.refl _ | apply Drawn0.step)⟩
         ·rw [if_neg c10] at H
          have c10b0 : decide (248 ≤ a0) = false := decide_eq_false c10
          clear c10
          (first | rw [c10b0] | (simp only [i64_w,i32_w];rw [c10b0]) | skip)
          have H' := Aside0.mk H
          clear H
          go_wp2
          go_meet
          case rel => exact ⟨_,(false),au8,H',⟨by have := HJ1.out;have := HJ5.out;first | omega | exact Nat.le_refl _⟩,by repeat (first | exact Drawn0.refl _ | apply Drawn0.step)⟩
        case rest =>
         clear HC9
         try clear c1
         try clear c2
         try clear p2
         try clear c3
         try clear c3b0
         try clear c5
         try clear c7
         try clear c7b0
         try clear c8
         try clear c10
         try clear c10b0
         try clear p2
         obtain ⟨kq,x3_8,rfl,HA,HJ8,⟨mc8,rfl⟩⟩ := hcut
         cases kq with
         | zero => exact absurd HA.out (by simp [word_UpperOf.j2])
         | succ kj8 =>
          have H := HA.out
          clear HA
          simp only [word_UpperOf.j2] at H
          by_cases c11 : x3_8 = true
          ·subst c11
           have H1 : (word_UpperOf.j4 kj8 a0 true) = some r := by rw [if_pos rfl] at H;exact H
           clear H
           have H := H1
           clear H1
           have H' := Aside0.mk H
           clear H
           go_wp2
           go_meet
           case rel => exact ⟨_,(true),au8,H',⟨by have := HJ1.out;have := HJ5.out;have := HJ8.out;first | omega | exact Nat.le_refl _⟩,by repeat (first | exact Drawn0.refl _ | apply Drawn0.step)⟩
          ·replace c11 := Bool.eq_false_iff.mpr c11
           subst c11
           have H1 : (if a0 ≥ 945 then (word_UpperOf.j3 kj8 a0 (decide (a0 ≤ 961))) else (word_UpperOf.j3 kj8 a0 false)) = some r := by rw [if_neg (show ¬ (false = true) by decide)] at H;exact H
           clear H
           have H := H1
           clear H1
           have HC12 := Aside0.mk H
           clear H
           go_upto_region 4 with (fail)
           go_cut [3] (fun v3 wc => ∃ (kq : Nat) (x3_11 : Bool),v3 = .bool x3_11 ∧ Aside0 (word_UpperOf.j3 kq a0 x3_11 = some r) ∧ Aside0 (kq ≤ kj8) ∧ Drawn0 w wc)
           case first =>
            have H := HC12.out
            clear HC12
            by_cases c13 : a0 ≥ 945
            ·rw [if_pos c13] at H
             have c13b0 : decide (945 ≤ a0) = true := decide_eq_true c13
             clear c13
             (first | rw [c13b0] | (simp only [i64_w,i32_w];rw [c13b0]) | skip)
             have H' := Aside0.mk H
             clear H
             go_wp2
             go_meet
             case rel => exact ⟨_,(decide (a0 ≤ 961)),au8,H',⟨by have := HJ1.out;have := HJ5.out;have := HJ8.out;first | omega | exact Nat.le_refl _⟩,by repeat (first | exact Drawn0.refl _ | apply Drawn0.step)⟩
            ·rw [if_neg c13] at H
             have c13b0 : decide (945 ≤ a0) = false := decide_eq_false c13
             clear c13
             (first | rw [c13b0] | (simp only [i64_w,i32_w];rw [c13b0]) | skip)
             have H' := Aside0.mk H
             clear H
             go_wp2
             go_meet
             case rel => exact ⟨_,(false),au8,H',⟨by have := HJ1.out;have := HJ5.out;have := HJ8.out;first | omega | exact Nat.le_refl _⟩,by repeat (first | exact Drawn0.refl _ | apply Drawn0.step)⟩
           case rest =>
            clear HC12
            try clear c1
            try clear c2
            try clear p2
            try clear c3
            try clear c3b0
            try clear c5
            try clear c7
            try clear c7b0
            try clear c8
            try clear c10
            try clear c10b0
            try clear c11
            try clear c13
            try clear c13b0
            try clear p2
            obtain ⟨kq,x3_11,rfl,HA,HJ11,⟨mc11,rfl⟩⟩ := hcut
            cases kq with
            | zero => exact absurd HA.out (by simp [word_UpperOf.j3])
            | succ kj11 =>
             have H := HA.out
             clear HA
             simp only [word_UpperOf.j3] at H
             by_cases c14 : x3_11 = true
             ·subst c14
              have H1 : (word_UpperOf.j4 kj11 a0 true) = some r := by rw [if_pos rfl] at H;exact H
              clear H
              have H := H1
              clear H1
              have H' := Aside0.mk H
              clear H
              go_wp2
              go_meet
              case rel => exact ⟨_,(true),au8,H',⟨by have := HJ1.out;have := HJ5.out;have := HJ8.out;have := HJ11.out;first | omega | exact Nat.le_refl _⟩,by repeat (first | exact Drawn0.refl _ | apply Drawn0.step)⟩
             ·replace c14 := Bool.eq_false_iff.mpr c14
              subst c14
              have H1 : (if a0 ≥ 963 then (if a0 ≤ 969 then (word_UpperOf.j4 kj11 a0 (decide (a0 ≤ 969))) else (if a0 ≥ 1072 then (word_UpperOf.j4 kj11 a0 (decide (a0 ≤ 1103))) else (word_UpperOf.j4 kj11 a0 false))) else (if a0 ≥ 1072 then (word_UpperOf.j4 kj11 a0 (decide (a0 ≤ 1103))) else (word_UpperOf.j4 kj11 a0 false))) = some r := by rw [if_neg (show ¬ (false = true) by decide)] at H;exact H
              clear H
              have H := H1
              clear H1
              by_cases c15 : a0 ≥ 963
              ·rw [if_pos c15] at H
               have c15b0 : decide (963 ≤ a0) = true := decide_eq_true c15
               clear c15
               by_cases c16 : a0 ≤ 969
               ·rw [if_pos c16] at H
                have c16b0 : decide (a0 ≤ 969) = true := decide_eq_true c16
                clear c16
                have H' := Aside0.mk H
                clear H
                go_wp2
                go_meet
                case rel => exact ⟨_,(decide (a0 ≤ 969)),au8,H',⟨by have := HJ1.out;have := HJ5.out;have := HJ8.out;have := HJ11.out;first | omega | exact Nat.le_refl _⟩,by repeat (first | exact Drawn0.refl _ | apply Drawn0.step)⟩
               ·rw [if_neg c16] at H
                have c16b0 : decide (a0 ≤ 969) = false := decide_eq_false c16
                clear c16
                by_cases c17 : a0 ≥ 1072
                ·rw [if_pos c17] at H
                 have c17b0 : decide (1072 ≤ a0) = true := decide_eq_true c17
                 clear c17
                 have H' := Aside0.mk H
                 clear H
                 go_wp2
                 go_meet
                 case rel => exact ⟨_,(decide (a0 ≤ 1103)),au8,H',⟨by have := HJ1.out;have := HJ5.out;have := HJ8.out;have := HJ11.out;first | omega | exact Nat.le_refl _⟩,by repeat (first | exact Drawn0.refl _ | apply Drawn0.step)⟩
                ·rw [if_neg c17] at H
                 have c17b0 : decide (1072 ≤ a0) = false := decide_eq_false c17
                 clear c17
                 have H' := Aside0.mk H
                 clear H
                 go_wp2
                 go_meet
                 case rel => exact ⟨_,(false),au8,H',⟨by have := HJ1.out;have := HJ5.out;have := HJ8.out;have := HJ11.out;first | omega | exact Nat.le_refl _⟩,by repeat (first | exact Drawn0.refl _ | apply Drawn0.step)⟩
              ·rw [if_neg c15] at H
               have c15b0 : decide (963 ≤ a0) = false := decide_eq_false c15
               clear c15
               by_cases c18 : a0 ≥ 1072
               ·rw [if_pos c18] at H
                have c18b0 : decide (1072 ≤ a0) = true := decide_eq_true c18
                clear c18
                have H' := Aside0.mk H
                clear H
                go_wp2
                go_meet
                case rel => exact ⟨_,(decide (a0 ≤ 1103)),au8,H',⟨by have := HJ1.out;have := HJ5.out;have := HJ8.out;have := HJ11.out;first | omega | exact Nat.le_refl _⟩,by repeat (first | exact Drawn0.refl _ | apply Drawn0.step)⟩
               ·rw [if_neg c18] at H
                have c18b0 : decide (1072 ≤ a0) = false := decide_eq_false c18
                clear c18
                have H' := Aside0.mk H
                clear H
                go_wp2
                go_meet
                case rel => exact ⟨_,(false),au8,H',⟨by have := HJ1.out;have := HJ5.out;have := HJ8.out;have := HJ11.out;first | omega | exact Nat.le_refl _⟩,by repeat (first | exact Drawn0.refl _ | apply Drawn0.step)⟩
   case rest =>
    clear HC4
    try clear c1
    try clear c2
    try clear p2
    try clear c3
    try clear c3b0
    try clear c5
    try clear c7
    try clear c7b0
    try clear c8
    try clear c10
    try clear c10b0
    try clear c11
    try clear c13
    try clear c13b0
    try clear c14
    try clear c15
    try clear c15b0
    try clear c16
    try clear c16b0
    try clear c17
    try clear c17b0
    try clear c18
    try clear c18b0
    try clear p2
    obtain ⟨kq,x3_3,rfl,HA,HJ3,⟨mc3,rfl⟩⟩ := hcut
    cases kq with
    | zero => exact absurd HA.out (by simp [word_UpperOf.j4])
    | succ kj3 =>
     have H := HA.out
     clear HA
     simp only [word_UpperOf.j4] at H
     by_cases c19 : x3_3 = true
     ·subst c19
      have H1 : (some (wrap32 (a0 - 32))) = some r := by rw [if_pos rfl] at H;exact H
      clear H
      have H := H1
      clear H1
      obtain rfl := Option.some.inj H
      go_wp2
      go_ret
      exact ⟨by first | rfl | (simp;done) | (simp [*];done),by repeat (first | exact Drawn0.refl _ | apply Drawn0.step)⟩
     ·replace c19 := Bool.eq_false_iff.mpr c19
      subst c19
      have H1 : (if a0 ≥ 1104 then (word_UpperOf.j5 kj3 a0 (decide (a0 ≤ 1119))) else (word_UpperOf.j5 kj3 a0 false)) = some r := by rw [if_neg (show ¬ (false = true) by decide)] at H;exact H
      clear H
      have H := H1
      clear H1
      have HC20 := Aside0.mk H
      clear H
      go_upto_region 8 with (fail)
      go_cut [42] (fun v42 wc => ∃ (kq : Nat) (x42_19 : Bool),v42 = .bool x42_19 ∧ Aside0 (word_UpperOf.j5 kq a0 x42_19 = some r) ∧ Aside0 (kq ≤ kj3) ∧ Drawn0 w wc)
      case first =>
       have H := HC20.out
       clear HC20
       by_cases c21 : a0 ≥ 1104
       ·rw [if_pos c21] at H
        have c21b0 : decide (1104 ≤ a0) = true := decide_eq_true c21
        clear c21
        (first | rw [c21b0] | (simp only [i64_w,i32_w];rw [c21b0]) | skip)
        have H' := Aside0.mk H
        clear H
        go_wp2
        go_meet
        case rel => exact ⟨_,(decide (a0 ≤ 1119)),au8,H',⟨by have := HJ1.out;have := HJ3.out;first | omega | exact Nat.le_refl _⟩,by repeat (first | exact Drawn0.refl _ | apply Drawn0.step)⟩
       ·rw [if_neg c21] at H
        have c21b0 : decide (1104 ≤ a0) = false := decide_eq_false c21
        clear c21
        (first | rw [c21b0] | (simp only [i64_w,i32_w];rw [c21b0]) | skip)
        have H' := Aside0.mk H
        clear H
        go_wp2
        go_meet
        case rel => exact ⟨_,(false),au8,H',⟨by have := HJ1.out;have := HJ3.out;first | omega | exact Nat.le_refl _⟩,by repeat (first | exact Drawn0.refl _ | apply Drawn0.step)⟩
      case rest =>
       clear HC20
       try clear c1
       try clear c2
       try clear p2
       try clear c3
       try clear c3b0
       try clear p3
       try clear c5
       try clear c7
       try clear c7b0
       try clear c8
       try clear c10
       try clear c10b0
       try clear c11
       try clear c13
       try clear c13b0
       try clear c14
       try clear c15
       try clear c15b0
       try clear c16
       try clear c16b0
       try clear c17
       try clear c17b0
       try clear c18
       try clear c18b0
       try clear c19
       try clear c21
       try clear c21b0
       try clear p2
       obtain ⟨kq,x42_19,rfl,HA,HJ19,⟨mc19,rfl⟩⟩ := hcut
       cases kq with
       | zero => exact absurd HA.out (by simp [word_UpperOf.j5])
       | succ kj19 =>
        have H := HA.out
        clear HA
        simp only [word_UpperOf.j5] at H
        by_cases c22 : x42_19 = true
        ·subst c22
         have H1 : (some (wrap32 (a0 - 80))) = some r := by rw [if_pos rfl] at H;exact H
         clear H
         have H := H1
         clear H1
         obtain rfl := Option.some.inj H
         go_wp2
         go_ret
         exact ⟨by first | rfl | (simp;done) | (simp [*];done),by repeat (first | exact Drawn0.refl _ | apply Drawn0.step)⟩
        ·replace c22 := Bool.eq_false_iff.mpr c22
         subst c22
         have H1 : (if a0 = 255 then (some 376) else (if a0 = 305 then (word_UpperOf.j6 kj19 a0 false) else ((word_odd.f a0 257 311).bind fun t440 => (word_UpperOf.j6 kj19 a0 t440)))) = some r := by rw [if_neg (show ¬ (false = true) by decide)] at H;exact H
         clear H
         have H := H1
         clear H1
         by_cases c23 : a0 = 255
         ·rw [if_pos c23] at H
          have c23b0 : (a0 == 255) = true := beq_iff_eq.mpr c23
          have c23b1 : (a0 != 255) = false := bne_eq_false_iff_eq.mpr c23
          clear c23
          obtain rfl := Option.some.inj H
          go_wp2
          go_ret
          exact ⟨by first | rfl | (simp;done) | (simp [*];done),by repeat (first | exact Drawn0.refl _ | apply Drawn0.step)⟩
         ·rw [if_neg c23] at H
          have c23b0 : (a0 == 255) = false := beq_eq_false_iff_ne.mpr c23
          have c23b1 : (a0 != 255) = true := bne_iff_ne.mpr c23
          have HC24 := Aside0.mk H
          clear H
          go_upto_region 12 with (fail)
          go_cut [54] (fun v54 wc => ∃ (kq : Nat) (x54_23 : Bool),v54 = .bool x54_23 ∧ Aside0 (word_UpperOf.j6 kq a0 x54_23 = some r) ∧ Aside0 (kq ≤ kj19) ∧ Drawn0 w wc)
          case first =>
           have H := HC24.out
           clear HC24
           by_cases c25 : a0 = 305
           ·rw [if_pos c25] at H
            have c25b0 : (a0 == 305) = true := beq_iff_eq.mpr c25
            have c25b1 : (a0 != 305) = false := bne_eq_false_iff_eq.mpr c25
            clear c25
            (first | rw [c25b0] | (simp only [i64_w,i32_w];rw [c25b0]) | skip)
            have H' := Aside0.mk H
            clear H
            go_wp2
            go_meet
            case rel => exact ⟨_,(false),au8,H',⟨by have := HJ1.out;have := HJ3.out;have := HJ19.out;first | omega | exact Nat.le_refl _⟩,by repeat (first | exact Drawn0.refl _ | apply Drawn0.step)⟩
           ·rw [if_neg c25] at H
            have c25b0 : (a0 == 305) = false := beq_eq_false_iff_ne.mpr c25
            have c25b1 : (a0 != 305) = true := bne_iff_ne.mpr c25
            (first | rw [c25b0] | (simp only [i64_w,i32_w];rw [c25b0]) | skip)
            replace H := Option.bind_eq_some_iff.mp H
            obtain ⟨t440,A260,H⟩ := H
            replace H : (word_UpperOf.j6 kj19 a0 t440) = some r := H
            have A26 := Aside0.mk A260
            clear A260
            have H' := Aside0.mk H
            clear H
            go_wp2_with (first | (go_at_call 61;(with_reducible refine (word_odd.calls a0 257 311 t440 _ A26.out).mono ?_);rintro e w' ⟨rfl,⟨nd,rfl⟩⟩))
            go_meet
            case rel => exact ⟨_,(t440),au8,H',⟨by have := HJ1.out;have := HJ3.out;have := HJ19.out;first | omega | exact Nat.le_refl _⟩,by repeat (first | exact Drawn0.refl _ | apply Drawn0.step)⟩
          case rest =>
           clear HC24
           try clear c1
           try clear c2
           try clear p2
           try clear c3
           try clear c3b0
           try clear p3
           try clear c5
           try clear c7
           try clear c7b0
           try clear c8
           try clear c10
           try clear c10b0
           try clear c11
           try clear c13
           try clear c13b0
           try clear c14
           try clear c15
           try clear c15b0
           try clear c16
           try clear c16b0
           try clear c17
           try clear c17b0
           try clear c18
           try clear c18b0
           try clear c19
           try clear c21
           try clear c21b0
           try clear c22
           try clear c23
           try clear c23b0
           try clear c23b1
           try clear c25
           try clear c25b0
           try clear c25b1
           try clear p2
           try clear p3
           obtain ⟨kq,x54_23,rfl,HA,HJ23,⟨mc23,rfl⟩⟩ := hcut
           cases kq with
           | zero => exact absurd HA.out (by simp [word_UpperOf.j6])
           | succ kj23 =>
            have H := HA.out
            clear HA
            simp only [word_UpperOf.j6] at H
            by_cases c27 : x54_23 = true
            ·subst c27
             have H1 : (some (wrap32 (a0 - 1))) = some r := by rw [if_pos rfl] at H;exact H
             clear H
             have H := H1
             clear H1
             obtain rfl := Option.some.inj H
             go_wp2
             go_ret
             exact ⟨by first | rfl | (simp;done) | (simp [*];done),by repeat (first | exact Drawn0.refl _ | apply Drawn0.step)⟩
            ·replace c27 := Bool.eq_false_iff.mpr c27
             subst c27
             have H1 : ((word_odd.f a0 331 375).bind fun t441 => (if t441 = true then (some (wrap32 (a0 - 1))) else ((word_odd.f a0 1121 1153).bind fun t442 => (if t442 = true then (some (wrap32 (a0 - 1))) else (some a0))))) = some r := by rw [if_neg (show ¬ (false = true) by decide)] at H;exact H
             clear H
             have H := H1
             clear H1
             replace H := Option.bind_eq_some_iff.mp H
             obtain ⟨t441,A280,H⟩ := H
             replace H : (if t441 = true then (some (wrap32 (a0 - 1))) else ((word_odd.f a0 1121 1153).bind fun t442 => (if t442 = true then (some (wrap32 (a0 - 1))) else (some a0)))) = some r := H
             have A28 := Aside0.mk A280
             clear A280
             by_cases c29 : t441 = true
             ·subst c29
              have H1 : (some (wrap32 (a0 - 1))) = some r := by rw [if_pos rfl] at H;exact H
              clear H
              have H := H1
              clear H1
              obtain rfl := Option.some.inj H
              go_wp2_with (first | ((with_reducible refine gate_callee (f := 61) rfl ?_);refine goesL_ (some 62) rfl rfl Tryd.func61 (by kernel_rfl) rfl #[.int .i32 a0,.int .i32 331,.int .i32 375] rfl au1 ?_;(with_reducible refine (word_odd.calls a0 331 375 true _ A28.out).mono ?_);rintro e w' ⟨rfl,⟨nd,rfl⟩⟩;refine ⟨_,rfl,?_⟩))
              go_ret
              exact ⟨by first | rfl | (simp;done) | (simp [*];done),by repeat (first | exact Drawn0.refl _ | apply Drawn0.step)⟩
             ·replace c29 := Bool.eq_false_iff.mpr c29
              subst c29
              have H1 : ((word_odd.f a0 1121 1153).bind fun t442 => (if t442 = true then (some (wrap32 (a0 - 1))) else (some a0))) = some r := by rw [if_neg (show ¬ (false = true) by decide)] at H;exact H
              clear H
              have H := H1
              clear H1
              replace H := Option.bind_eq_some_iff.mp H
              obtain ⟨t442,A300,H⟩ := H
              replace H : (if t442 = true then (some (wrap32 (a0 - 1))) else (some a0)) = some r := H
              have A30 := Aside0.mk A300
              clear A300
              by_cases c31 : t442 = true
              ·subst c31
               have H1 : (some (wrap32 (a0 - 1))) = some r := by rw [if_pos rfl] at H;exact H
               clear H
               have H := H1
               clear H1
               obtain rfl := Option.some.inj H
               go_wp2_with (first | ((with_reducible refine gate_callee (f := 61) rfl ?_);refine goesL_ (some 62) rfl rfl Tryd.func61 (by kernel_rfl) rfl #[.int .i32 a0,.int .i32 331,.int .i32 375] rfl au1 ?_;(with_reducible refine (word_odd.calls a0 331 375 false _ A28.out).mono ?_);rintro e w' ⟨rfl,⟨nd,rfl⟩⟩;refine ⟨_,rfl,?_⟩) | ((with_reducible refine gate_callee (f := 61) rfl ?_);refine goesL_ (some 64) rfl rfl Tryd.func61 (by kernel_rfl) rfl #[.int .i32 a0,.int .i32 1121,.int .i32 1153] rfl au1 ?_;(with_reducible refine (word_odd.calls a0 1121 1153 true _ A30.out).mono ?_);rintro e w' ⟨rfl,⟨nd,rfl⟩⟩;refine ⟨_,rfl,?_⟩))
               go_ret
               exact ⟨by first | rfl | (simp;done) | (simp [*];done),by repeat (first | exact Drawn0.refl _ | apply Drawn0.step)⟩
              ·replace c31 := Bool.eq_false_iff.mpr c31
               subst c31
               have H1 : (some a0) = some r := by rw [if_neg (show ¬ (false = true) by decide)] at H;exact H
               clear H
               have H := H1
               clear H1
               obtain rfl := Option.some.inj H
               go_wp2_with (first | ((with_reducible refine gate_callee (f := 61) rfl ?_);refine goesL_ (some 62) rfl rfl Tryd.func61 (by kernel_rfl) rfl #[.int .i32 a0,.int .i32 331,.int .i32 375] rfl au1 ?_;(with_reducible refine (word_odd.calls a0 331 375 false _ A28.out).mono ?_);rintro e w' ⟨rfl,⟨nd,rfl⟩⟩;refine ⟨_,rfl,?_⟩) | ((with_reducible refine gate_callee (f := 61) rfl ?_);refine goesL_ (some 64) rfl rfl Tryd.func61 (by kernel_rfl) rfl #[.int .i32 a0,.int .i32 1121,.int .i32 1153] rfl au1 ?_;(with_reducible refine (word_odd.calls a0 1121 1153 false _ A30.out).mono ?_);rintro e w' ⟨rfl,⟨nd,rfl⟩⟩;refine ⟨_,rfl,?_⟩))
               go_ret
               exact ⟨by first | rfl | (simp;done) | (simp [*];done),by repeat (first | exact Drawn0.refl _ | apply Drawn0.step)⟩
end Go.Proofs.YtfmnmjoofnbnfaaDoor.U
end
section
namespace Go.Proofs.YtfmnmjoofnbnfaaDoor.U
open Go.RowKit Go.Shelf Go.Proofs.YtfmnmjoofnbnfaaDoor.Mu Go.Proofs.YtfmnmjoofnbnfaaDoor.Pu Go.Proofs.YtfmnmjoofnbnfaaDoorW.PrintWords Go.Proofs.YtfmnmjoofnbnfaaDoorW.PrintLast Go.Proofs.YtfmnmjoofnbnfaaDoorW.PrintMore
set_option linter.unusedVariables false
set_option linter.unusedSimpArgs false
def oddB (c a b : Int) : Bool := decide (a ≤ c ∧ c ≤ b ∧ c % 2 = 1)
theorem odd_ans (c a b : Int) (h : 0 ≤ a) : word_odd.f c a b = some (oddB c a b) := by
 unfold word_odd.f oddB
 by_cases h1 : a ≤ c
 ·rw [if_pos h1]
  by_cases h2 : c ≤ b
  ·rw [if_pos h2,Int.tmod_eq_emod_of_nonneg (by omega)]
   congr 1
   rw [Bool.eq_iff_iff]
   simp [h1,h2]
  ·rw [if_neg h2];simp [h2]
 ·rw [if_neg h1];simp [h1]
/-- one below,two alphabets of odd small letters -/
def low1 (c : Int) (b : Bool) : Int := if b = true then c - 1 else if oddB c 331 375 = true then c - 1 else if oddB c 1121 1153 = true then c - 1 else c
def low2 (c : Int) (b : Bool) : Int := if b = true then c - 80 else if c = 255 then 376 else low1 c (decide (c ≠ 305) && oddB c 257 311)
def low3 (c : Int) (b : Bool) : Int := if b = true then c - 32 else low2 c (decide (1104 ≤ c ∧ c ≤ 1119))
def runB (c : Int) : Bool := decide ((97 ≤ c ∧ c ≤ 122) ∨ (224 ≤ c ∧ c ≤ 246) ∨ (248 ≤ c ∧ c ≤ 254) ∨ (945 ≤ c ∧ c ≤ 961) ∨ (963 ≤ c ∧ c ≤ 969) ∨ (1072 ≤ c ∧ c ≤ 1103))
/-- The large letter of a small one. -/
def upC (c : Int) : Int := low3 c (runB c)
theorem up_j6 (k : Nat) (c : Int) (b : Bool) (hb : b = true → 0 ≤ c ∧ c ≤ 2000) : word_UpperOf.j6 (k + 1) c b = some (low1 c b) := by
 rw [word_UpperOf.j6.eq_2]
 unfold low1
 split
 ·rename_i h;have := hb h;rw [w32 (by omega) (by omega)]
 ·rw [odd_ans _ _ _ (by omega),Option.bind_some]
  split
  ·rename_i h;unfold oddB at h;have := of_decide_eq_true h;rw [w32 (by omega) (by omega)]
  ·rw [odd_ans _ _ _ (by omega),Option.bind_some]
   split
   ·rename_i h;unfold oddB at h;have := of_decide_eq_true h;rw [w32 (by omega) (by omega)]
   ·rfl
theorem up_j5 (k : Nat) (c : Int) (b : Bool) (hb : b = true → 0 ≤ c ∧ c ≤ 2000) : word_UpperOf.j5 (k + 2) c b = some (low2 c b) := by
 rw [word_UpperOf.j5.eq_2]
 unfold low2
 split
 ·rename_i h;have := hb h;rw [w32 (by omega) (by omega)]
 ·split
  ·rfl
  ·split
   ·rename_i h
    rw [up_j6 k c false (by simp),show (decide (c ≠ 305) && oddB c 257 311) = false by simp [h]]
   ·rename_i h
    rw [odd_ans _ _ _ (by omega),Option.bind_some,up_j6 k c _ (fun h2 => by unfold oddB at h2;have := of_decide_eq_true h2;omega),show (decide (c ≠ 305) && oddB c 257 311) = oddB c 257 311 by simp [h]]
theorem up_j4 (k : Nat) (c : Int) (b : Bool) (hb : b = true → 0 ≤ c ∧ c ≤ 2000) : word_UpperOf.j4 (k + 3) c b = some (low3 c b) := by
 rw [word_UpperOf.j4.eq_2]
 unfold low3
 split
 ·rename_i h;have := hb h;rw [w32 (by omega) (by omega)]
 ·split
  ·rename_i h
   rw [up_j5 (k + 0) c _ (fun h2 => by have := of_decide_eq_true h2;omega)]
   congr 2
   rw [Bool.eq_iff_iff];simp;omega
  ·rename_i h
   rw [up_j5 (k + 0) c false (by simp)]
   congr 2
   symm;rw [decide_eq_false_iff_not];omega
theorem up_at (k : Nat) (c : Int) (b : Bool) (h : b = runB c) : word_UpperOf.j4 (k + 3) c b = some (upC c) := by
 rw [up_j4 k c b (fun h2 => by rw [h] at h2;unfold runB at h2;have := of_decide_eq_true h2;omega),h];rfl
theorem run_of {c : Int} {b : Bool} (h : b = true ↔ ((97 ≤ c ∧ c ≤ 122) ∨ (224 ≤ c ∧ c ≤ 246) ∨ (248 ≤ c ∧ c ≤ 254) ∨ (945 ≤ c ∧ c ≤ 961) ∨ (963 ≤ c ∧ c ≤ 969) ∨ (1072 ≤ c ∧ c ≤ 1103))) : b = runB c := by
 rw [Bool.eq_iff_iff,h];unfold runB;rw [decide_eq_true_iff]
theorem upper_ans (k : Nat) (c : Int) : word_UpperOf.f (k + 7) c = some (upC c) := by
 have e3 : ∀ b : Bool,(b = true → runB c = true) → (b = false → c < 945 ∨ 961 < c) → (b = false → ¬ (97 ≤ c ∧ c ≤ 122) ∧ ¬ (224 ≤ c ∧ c ≤ 246) ∧ ¬ (248 ≤ c ∧ c ≤ 254)) → word_UpperOf.j3 (k + 4) c b = some (upC c) := by
  intro b h1 h2 h3
  rw [word_UpperOf.j3.eq_2]
  split
  ·rename_i h;exact up_at k c b (by rw [h,h1 h])
  ·rename_i h
   have h := eq_false_of_ne_true h
   have h2 := h2 h;have h3 := h3 h
   repeat' split
   all_goals exact up_at k c _ (run_of (by simp;omega))
 have e2 : ∀ b : Bool,(b = true → runB c = true) → (b = false → ¬ (97 ≤ c ∧ c ≤ 122) ∧ ¬ (224 ≤ c ∧ c ≤ 246) ∧ ¬ (248 ≤ c ∧ c ≤ 254)) → word_UpperOf.j2 (k + 5) c b = some (upC c) := by
  intro b h1 h3
  rw [word_UpperOf.j2.eq_2]
  split
  ·rename_i h;exact up_at (k + 1) c b (by rw [h,h1 h])
  ·rename_i h
   have h3 := h3 (eq_false_of_ne_true h)
   split
   ·exact e3 _ (fun h => by have := of_decide_eq_true h;unfold runB;rw [decide_eq_true_iff];omega) (fun h => by have := of_decide_eq_false h;omega) (fun _ => h3)
   ·exact e3 _ (by simp) (fun _ => by omega) (fun _ => h3)
 have e1 : ∀ b : Bool,(b = true → runB c = true) → (b = false → ¬ (97 ≤ c ∧ c ≤ 122) ∧ ¬ (224 ≤ c ∧ c ≤ 246)) → word_UpperOf.j1 (k + 6) c b = some (upC c) := by
  intro b h1 h3
  rw [word_UpperOf.j1.eq_2]
  split
  ·rename_i h;exact up_at (k + 2) c b (by rw [h,h1 h])
  ·rename_i h
   have h3 := h3 (eq_false_of_ne_true h)
   split
   ·exact e2 _ (fun h => by have := of_decide_eq_true h;unfold runB;rw [decide_eq_true_iff];omega) (fun h => by have := of_decide_eq_false h;omega)
   ·exact e2 _ (by simp) (fun _ => by omega)
 have e0 : ∀ b : Bool,(b = true → runB c = true) → (b = false → ¬ (97 ≤ c ∧ c ≤ 122)) → word_UpperOf.j0 (k + 7) c b = some (upC c) := by
  intro b h1 h3
  rw [word_UpperOf.j0.eq_2]
  split
  ·rename_i h;exact up_at (k + 3) c b (by rw [h,h1 h])
  ·rename_i h
   have h3 := h3 (eq_false_of_ne_true h)
   split
   ·exact e1 _ (fun h => by have := of_decide_eq_true h;unfold runB;rw [decide_eq_true_iff];omega) (fun h => by have := of_decide_eq_false h;omega)
   ·exact e1 _ (by simp) (fun _ => by omega)
 unfold word_UpperOf.f
 split
 ·exact e0 _ (fun h => by have := of_decide_eq_true h;unfold runB;rw [decide_eq_true_iff];omega) (fun h => by have := of_decide_eq_false h;omega)
 ·exact e0 _ (by simp) (fun _ => by omega)
theorem upper7 (c : Int) : word_UpperOf.f 7 c = some (upC c) := upper_ans 0 c
attribute [local irreducible] upC
/-- The small letter of a large one. -/
def lowTry (c f : Int) (r : Int) : Int := if 0 < c ∧ c < 1280 ∧ upC (c + f) = c then c + f else r
def lowC (c : Int) : Int := if c = 376 then 255 else lowTry c 1 (lowTry c 32 (lowTry c 80 c))
def word_LowerOf.f (a0 : Int) : Option Int := some (lowC a0)
set_option maxRecDepth 100000 in
set_option maxHeartbeats 4000000 in
theorem word_LowerOf.calls (a0 : Int) (r : Int) (w : World) (h : word_LowerOf.f a0 = some r) :
  Calls Tryd.prog 29 #[.int .i32 a0] w fun e w' => e = .returned (.int .i32 r) ∧ Below w.heap.size w w' := by
 obtain rfl := Option.some.inj h
 by_cases h0 : a0 = 376
 ·have e : lowC a0 = 255 := by unfold lowC;rw [if_pos h0]
  rw [e,h0]
  go_enter Tryd.func29,Tryd.ntmps29
  go_wp2
  go_ret
  exact ⟨rfl,Below.refl _ _⟩
 ·have e : lowC a0 = lowTry a0 1 (lowTry a0 32 (lowTry a0 80 a0)) := by unfold lowC;rw [if_neg h0]
  rw [e]
  obtain ⟨G,hG⟩ : ∃ G,lowTry a0 1 (lowTry a0 32 (lowTry a0 80 a0)) = G := ⟨_,rfl⟩
  rw [hG]
  have hx0 : ∀ (x y z : Value) (W : World),(Instr.index 86 (.agg #[x,y,z]) (.int .i64 0)).run Tryd.prog W = .ok x W := fun x y z W => by kernel_rfl
  have hx1 : ∀ (x y z : Value) (W : World),(Instr.index 86 (.agg #[x,y,z]) (.int .i64 1)).run Tryd.prog W = .ok y W := fun x y z W => by kernel_rfl
  have hx2 : ∀ (x y z : Value) (W : World),(Instr.index 86 (.agg #[x,y,z]) (.int .i64 2)).run Tryd.prog W = .ok z W := fun x y z W => by kernel_rfl
  go_enter Tryd.func29,Tryd.ntmps29
  go_wp2
  rw [show (a0 == 376) = false by simp [h0]]
  go_loopw [9] (fun v wr => ∃ i : Int,v = .int .i64 i ∧ Hid ((i = 0 ∧ lowTry a0 1 (lowTry a0 32 (lowTry a0 80 a0)) = G) ∨ (i = 1 ∧ lowTry a0 32 (lowTry a0 80 a0) = G) ∨ (i = 2 ∧ lowTry a0 80 a0 = G) ∨ (i = 3 ∧ a0 = G)) ∧ Below w.heap.size w wr)
   (fun v _ => (3 - intOf v).toNat)
  case atStart => exact ⟨0,rfl,Lib.hid (.inl ⟨rfl,hG⟩),Below.refl _ _⟩
  case round =>
   obtain ⟨i,rfl,hI,hb⟩ := hrel
   rcases hI.out with ⟨rfl,hi⟩ | ⟨rfl,hi⟩ | ⟨rfl,hi⟩ | ⟨rfl,hi⟩
   ·clear hI
    by_cases c1 : 0 < a0
    ·by_cases c2 : a0 < 1280
     ·have hw : IntKind.i32.wrap (a0 + 1) = a0 + 1 := (i32_w _).trans (by unfold wrap32;omega)
      by_cases c3 : upC (a0 + 1) = a0
      ·have hn : a0 + 1 = G := by rw [← hi];unfold lowTry;rw [if_pos ⟨c1,c2,c3⟩]
       subst hn
       clear hi hG
       go_wp2_with (go_at_call 27;refine (word_UpperOf.calls 7 (a0 + 1) (upC (a0 + 1)) _ (upper7 (a0 + 1))).mono ?_;rintro e w1 ⟨rfl,q,rfl⟩)
       go_ret
       exact ⟨rfl,pw_below_drewN hb _⟩
      ·have hn : Hid ((lowTry a0 32 (lowTry a0 80 a0)) = G) := Lib.hid (by rw [← hi];conv => rhs;rw [lowTry.eq_def];rw [if_neg (fun h => c3 h.2.2)])
       clear hi hG
       go_wp2_with (go_at_call 27;refine (word_UpperOf.calls 7 (a0 + 1) (upC (a0 + 1)) _ (upper7 (a0 + 1))).mono ?_;rintro e w1 ⟨rfl,q,rfl⟩)
       go_roundw
       case rel => exact ⟨1,rfl,Lib.hid ((.inr (.inl ⟨rfl,hn.out⟩))),pw_below_drewN hb _⟩
       case measure => simp [intOf]
     ·have hn : Hid ((lowTry a0 32 (lowTry a0 80 a0)) = G) := Lib.hid (by rw [← hi];conv => rhs;rw [lowTry.eq_def];rw [if_neg (fun h => c2 h.2.1)])
      clear hi hG
      go_wp2_with (fail)
      go_roundw
      case rel => exact ⟨1,rfl,Lib.hid ((.inr (.inl ⟨rfl,hn.out⟩))),hb⟩
      case measure => simp [intOf]
    ·have hn : Hid ((lowTry a0 32 (lowTry a0 80 a0)) = G) := Lib.hid (by rw [← hi];conv => rhs;rw [lowTry.eq_def];rw [if_neg (fun h => c1 h.1)])
     clear hi hG
     go_wp2_with (fail)
     go_roundw
     case rel => exact ⟨1,rfl,Lib.hid ((.inr (.inl ⟨rfl,hn.out⟩))),hb⟩
     case measure => simp [intOf]
   ·clear hI
    by_cases c1 : 0 < a0
    ·by_cases c2 : a0 < 1280
     ·have hw : IntKind.i32.wrap (a0 + 32) = a0 + 32 := (i32_w _).trans (by unfold wrap32;omega)
      by_cases c3 : upC (a0 + 32) = a0
      ·have hn : a0 + 32 = G := by rw [← hi];unfold lowTry;rw [if_pos ⟨c1,c2,c3⟩]
       subst hn
       clear hi hG
       go_wp2_with (go_at_call 27;refine (word_UpperOf.calls 7 (a0 + 32) (upC (a0 + 32)) _ (upper7 (a0 + 32))).mono ?_;rintro e w1 ⟨rfl,q,rfl⟩)
       go_ret
       exact ⟨rfl,pw_below_drewN hb _⟩
      ·have hn : Hid ((lowTry a0 80 a0) = G) := Lib.hid (by rw [← hi];conv => rhs;rw [lowTry.eq_def];rw [if_neg (fun h => c3 h.2.2)])
       clear hi hG
       go_wp2_with (go_at_call 27;refine (word_UpperOf.calls 7 (a0 + 32) (upC (a0 + 32)) _ (upper7 (a0 + 32))).mono ?_;rintro e w1 ⟨rfl,q,rfl⟩)
       go_roundw
       case rel => exact ⟨2,rfl,Lib.hid ((.inr (.inr (.inl ⟨rfl,hn.out⟩)))),pw_below_drewN hb _⟩
       case measure => simp [intOf]
     ·have hn : Hid ((lowTry a0 80 a0) = G) := Lib.hid (by rw [← hi];conv => rhs;rw [lowTry.eq_def];rw [if_neg (fun h => c2 h.2.1)])
      clear hi hG
      go_wp2_with (fail)
      go_roundw
      case rel => exact ⟨2,rfl,Lib.hid ((.inr (.inr (.inl ⟨rfl,hn.out⟩)))),hb⟩
      case measure => simp [intOf]
    ·have hn : Hid ((lowTry a0 80 a0) = G) := Lib.hid (by rw [← hi];conv => rhs;rw [lowTry.eq_def];rw [if_neg (fun h => c1 h.1)])
     clear hi hG
     go_wp2_with (fail)
     go_roundw
     case rel => exact ⟨2,rfl,Lib.hid ((.inr (.inr (.inl ⟨rfl,hn.out⟩)))),hb⟩
     case measure => simp [intOf]
   ·clear hI
    by_cases c1 : 0 < a0
    ·by_cases c2 : a0 < 1280
     ·have hw : IntKind.i32.wrap (a0 + 80) = a0 + 80 := (i32_w _).trans (by unfold wrap32;omega)
      by_cases c3 : upC (a0 + 80) = a0
      ·have hn : a0 + 80 = G := by rw [← hi];unfold lowTry;rw [if_pos ⟨c1,c2,c3⟩]
       subst hn
       clear hi hG
       go_wp2_with (go_at_call 27;refine (word_UpperOf.calls 7 (a0 + 80) (upC (a0 + 80)) _ (upper7 (a0 + 80))).mono ?_;rintro e w1 ⟨rfl,q,rfl⟩)
       go_ret
       exact ⟨rfl,pw_below_drewN hb _⟩
      ·have hn : Hid (a0 = G) := Lib.hid (by rw [← hi];conv => rhs;rw [lowTry.eq_def];rw [if_neg (fun h => c3 h.2.2)])
       clear hi hG
       go_wp2_with (go_at_call 27;refine (word_UpperOf.calls 7 (a0 + 80) (upC (a0 + 80)) _ (upper7 (a0 + 80))).mono ?_;rintro e w1 ⟨rfl,q,rfl⟩)
       go_roundw
       case rel => exact ⟨3,rfl,Lib.hid ((.inr (.inr (.inr ⟨rfl,hn.out⟩)))),pw_below_drewN hb _⟩
       case measure => simp [intOf]
     ·have hn : Hid (a0 = G) := Lib.hid (by rw [← hi];conv => rhs;rw [lowTry.eq_def];rw [if_neg (fun h => c2 h.2.1)])
      clear hi hG
      go_wp2_with (fail)
      go_roundw
      case rel => exact ⟨3,rfl,Lib.hid ((.inr (.inr (.inr ⟨rfl,hn.out⟩)))),hb⟩
      case measure => simp [intOf]
    ·have hn : Hid (a0 = G) := Lib.hid (by rw [← hi];conv => rhs;rw [lowTry.eq_def];rw [if_neg (fun h => c1 h.1)])
     clear hi hG
     go_wp2_with (fail)
     go_roundw
     case rel => exact ⟨3,rfl,Lib.hid ((.inr (.inr (.inr ⟨rfl,hn.out⟩)))),hb⟩
     case measure => simp [intOf]
   ·subst hi
    clear hI hG
    go_wp2
    go_ret
    exact ⟨rfl,hb⟩
end Go.Proofs.YtfmnmjoofnbnfaaDoor.U
end
section
namespace Go.Proofs.YtfmnmjoofnbnfaaDoor.U
open Go.RowKit Go.Proofs.YtfmnmjoofnbnfaaDoorW.PrintWords Go.Proofs.YtfmnmjoofnbnfaaDoorW.PrintLast Go.Proofs.YtfmnmjoofnbnfaaDoorW.PrintMore
attribute [local go_sem] max2_int min2_int max_two min_two max_three min_three max_four min_four   -- for this text's walks alone
set_option linter.unusedVariables false
set_option linter.unusedSimpArgs false
def utf8_AppendRune.f (k : Nat) (l0 : List Int) (a1 : Int) : Option (List Int) := if ((a1) % 4294967296) ≤ 127 then (if l0.length < 140737488355328 then (some (l0 ++ [(a1) % 256])) else (none)) else ((utf8_appendRuneNonASCII.f k l0 a1).bind fun t432 => (some t432))
set_option maxHeartbeats 8000000 in
set_option maxRecDepth 100000 in
theorem utf8_AppendRune.calls (k : Nat) (P0_ : Nat → Prop) (u9000_ : Value) (l0 : List Int) (a1 : Int) (r : List Int) (w0 w : World) (hB : Below w0.heap.size w0 w) (ho0 : Kd.R (Kd.int .u8) 5 w w0.heap.size P0_ u9000_ l0) (h : utf8_AppendRune.f k l0 a1 = some r) :
  Calls Tryd.prog 75 #[u9000_,.int .i32 a1] w fun e w' => ∃ v0_ : Value,e = .returned (v0_) ∧ Kd.R (Kd.int .u8) 5 w' w0.heap.size (fun k_ => (P0_ k_ ∨ w.heap.size ≤ k_)) v0_ r ∧ Below w0.heap.size w0 w' ∧ Kept w w' (fun k_ => P0_ k_) := by
 have HO0 := Aside0.mk (show Kd.R (Kd.int .u8) 5 w w0.heap.size (fun k_ => (P0_ k_ ∨ w.heap.size ≤ k_)) u9000_ l0 from Kd.R_mono ho0 (fun k_ hk => (.inl hk)))
 have HK := Aside0.mk (Kept.refl w (fun k_ => P0_ k_))
 have HW0 := Aside0.mk hB.size
 have HB := Aside0.mk hB
 clear hB
 have H : (if ((a1) % 4294967296) ≤ 127 then (if l0.length < 140737488355328 then (some (l0 ++ [(a1) % 256])) else (none)) else ((utf8_appendRuneNonASCII.f k l0 a1).bind fun t432 => (some t432))) = some r := h
 clear h
 by_cases c3 : ((a1) % 4294967296) ≤ 127
 ·rw [if_pos c3] at H
  have c3b0 : decide (((a1) % 4294967296) ≤ 127) = true := decide_eq_true c3
  clear c3
  by_cases c4 : l0.length < 140737488355328
  ·rw [if_pos c4] at H
   have LMc4 := Aside0.mk c4
   clear c4
   obtain ⟨y429,hy429⟩ : ∃ y_ : List Int,y_ = (l0 ++ [(a1) % 256]) := ⟨_,rfl⟩
   replace H : (some y429) = some r := by first | (rw [hy429];with_reducible exact H) | (have H2_ := (Option.bind_some _ _).symm.trans H;rw [hy429];with_reducible exact H2_) | (have H2_ := (Option.bind_some _ _).symm.trans H;with_reducible exact H2_) | with_reducible exact H | (rw [hy429];exact H) | exact H
   have Ny429 := Aside0.mk hy429
   clear hy429
   obtain rfl := Option.some.inj H
   go_enter Tryd.func75,Tryd.ntmps75
   go_wp2_with (first | ((with_reducible refine gate_builtin (b := .append) (xs := #[.tmp 8,.tmp 11]) rfl ?_);at_builtin;refine Kd.R_append (Kd.int .u8) (w0 := w0) w0.heap.size rfl (.tmp 8) (.tmp 11) 81 5 (.int .u8 0) 1 rfl Tryd.underlying81 info5 rfl (by decide) (by omega) u9000_ l0 ((a1) % 256) [.int .u8 ((a1) % 256)] (fun k_ => (P0_ k_ ∨ w.heap.size ≤ k_)) (fun _ => False) rfl rfl ?aP (fun _ hk => hk.elim) ?aF ?aO ?aB ?aS ?aL ?_;(case aP => exact rfl);(case aB => exact au0);(case aF => exact (fun k_ hk => (.inr (Nat.le_trans au10 hk))));(case aO => exact (by (with_reducible repeat (first | apply Kd.R_alloc | apply Kd.R_drewN | apply Kd.R_drew));exact HO0.out));(case aS => exact (below_size au0));(case aL => have := LMc4.out;omega);intro v430 w5 ho hb hg hat;rw [← Ny429.out] at ho;have n0_ := Aside0.mk (hb);have n1_ := Aside0.mk (Kept.of_grown (S := (fun k_ => P0_ k_)) hg au16 (fun k_ e_ => (HO0.out.1 k_ e_)));have n2_ := Aside0.mk (ho);clear HB;clear HK;clear HO0;have HB := n0_;have HK := n1_;have HO431 := n2_;clear n0_ n1_ n2_;clear ho hb hg hat))
   go_ret
   exact ⟨_,by first | rfl | (simp [errW_none,errW_some] <;> rfl) | (simp [*,errW_none,errW_some] <;> rfl),by (with_reducible repeat (first | apply Kd.R_alloc | apply Kd.R_drewN | apply Kd.R_drew));exact HO431.out,by repeat (first | (with_reducible first | exact HB.out | apply below_alloc | apply pw_below_drewN | apply below_drew1) | exact HB.out),by repeat (first | (with_reducible first | exact HK.out | apply Kept.alloc | apply Kept.drewN | apply Kept.drew) | exact HK.out)⟩
  ·rw [if_neg c4] at H
   exact absurd H (by simp)
 ·rw [if_neg c3] at H
  have c3b0 : decide (((a1) % 4294967296) ≤ 127) = false := decide_eq_false c3
  clear c3
  replace H := Option.bind_eq_some_iff.mp H
  obtain ⟨t432,A60,H⟩ := H
  replace H : (some t432) = some r := H
  have A6 := Aside0.mk A60
  clear A60
  obtain rfl := Option.some.inj H
  obtain ⟨Ao7,co7,eo7⟩ := Kd.R_slice HO0.out
  subst eo7
  go_enter Tryd.func75,Tryd.ntmps75
  go_wp2_with (first | ((with_reducible refine gate_callee (f := 85) rfl ?_);refine goesL_ (some 15) rfl rfl Tryd.func85 (by kernel_rfl) rfl #[.slice Ao7 l0.length co7,.int .i32 a1] rfl au1 ?_;(with_reducible refine (utf8_appendRuneNonASCII.calls k (fun k_ => some k_ = (.slice Ao7 l0.length co7 : Value).ownBlock) (.slice Ao7 l0.length co7) l0 a1 t432 w0 _ ?side1 ?side2 A6.out).mono ?_);(case side1 => repeat (first | (with_reducible first | exact HB.out | apply below_alloc | apply pw_below_drewN | apply below_drew1) | exact HB.out));(case side2 => exact Kd.R_tight rfl HO0.out);rintro e w8 ⟨v433,rfl,ho0,hb,hkp⟩;refine ⟨_,rfl,?_⟩;have n0_ := Aside0.mk (Kd.R_mono (ok' := fun k_ => (P0_ k_ ∨ w.heap.size ≤ k_)) ho0 (fun k_ hk_ => Or.elim hk_ (fun hs_ => (HO0.out.1 k_ (hs_).symm)) (fun hn_ => (.inr (Nat.le_trans au10 hn_)))));have n1_ := Aside0.mk (Kept.then_ (S := (fun k_ => P0_ k_)) au16 hkp (fun k_ hs_ => (fun e_ => (HO0.out.1 k_ e_.symm)) hs_));have n2_ := Aside0.mk (hb);clear HK;clear HB;clear HO0;have HO434 := n0_;have HK := n1_;have HB := n2_;clear n0_ n1_ n2_;(try clear hb);(try clear hkp);(try clear ho0)))
  go_ret
  exact ⟨_,by first | rfl | (simp [errW_none,errW_some] <;> rfl) | (simp [*,errW_none,errW_some] <;> rfl),by (with_reducible repeat (first | apply Kd.R_alloc | apply Kd.R_drewN | apply Kd.R_drew));exact HO434.out,by repeat (first | (with_reducible first | exact HB.out | apply below_alloc | apply pw_below_drewN | apply below_drew1) | exact HB.out),by repeat (first | (with_reducible first | exact HK.out | apply Kept.alloc | apply Kept.drewN | apply Kept.drew) | exact HK.out)⟩
end Go.Proofs.YtfmnmjoofnbnfaaDoor.U
end
section
namespace Go.Proofs.YtfmnmjoofnbnfaaDoor.U
open Go.RowKit Go.Proofs.YtfmnmjoofnbnfaaDoorW.PrintWords Go.Proofs.YtfmnmjoofnbnfaaDoorW.PrintLast Go.Proofs.YtfmnmjoofnbnfaaDoorW.PrintMore
attribute [local go_sem] max2_int min2_int max_two min_two max_three min_three max_four min_four   -- for this text's walks alone
set_option linter.unusedVariables false
set_option linter.unusedSimpArgs false
def unit_Encode.l0 : Nat → List Int → List Int → Int → Int → Option (ByteArray)
 | 0,_,_,_,_ => none
 | k + 1,x3,x6,x7,x8 => if x8 < x7 then (if 0 ≤ x8 then (if x8 < (x6.length : Int) then ((utf8_ValidRune.f k (rd x6 x8)).bind fun t436 => (if t436 = true then ((utf8_AppendRune.f k x3 (rd x6 x8)).bind fun t437 => (unit_Encode.l0 k t437 x6 x7 (wrap64 (x8 + 1)))) else (unit_Encode.l0 k x3 x6 x7 (wrap64 (x8 + 1))))) else (none)) else (none)) else (some (strOfNums x3))
def unit_Encode.f (k : Nat) (l0 : List Int) : Option (ByteArray) := unit_Encode.l0 k ([] : List Int) l0 (l0.length : Int) 0
set_option maxHeartbeats 8000000 in
set_option maxRecDepth 100000 in
theorem unit_Encode.calls (k : Nat) (A0 : Option Addr) (c0 : Nat) (l0 : List Int) (r : ByteArray) (w : World) (hr0 : Kd.C (Kd.int .i32) w A0 l0.length l0) (hc0 : l0.length ≤ c0) (h : unit_Encode.f k l0 = some r) :
  Calls Tryd.prog 60 #[.slice A0 l0.length c0] w fun e w' => e = .returned (.string r) ∧ Below w.heap.size w w' := by
 have HR0 := Aside0.mk hr0
 have HC0 := Aside0.mk hc0
 clear hr0 hc0
 have HB := Aside0.mk (Below.refl w.heap.size w)
 have H : (unit_Encode.l0 k ([] : List Int) l0 (l0.length : Int) 0) = some r := h
 clear h
 have H' := Aside0.mk H
 clear H
 go_enter Tryd.func60,Tryd.ntmps60
 go_wp2
 go_loopg [3,8] k (fun kq v3 v8 w' => ∃ (x3_1 : List Int) (x8_1 : Int),v8 = .int .i64 x8_1 ∧ Aside0 (unit_Encode.l0 kq x3_1 l0 (l0.length : Int) x8_1 = some r) ∧ Aside0 (kq ≤ k) ∧ Aside0 (Kd.R (Kd.int .u8) 5 w' w.heap.size (fun _ => True) v3 x3_1) ∧ Aside0 (Below w.heap.size w w'))
 case atStart => exact ⟨(([] : List Int)),(0),au8,H',⟨Nat.le_refl _⟩,⟨by first | exact Kd.R_nil _ _ _ _ _ | exact Kd.N_nil _ _ _ _ _ | exact Kd.V_nil _ _ _ _ _ | exact Kd.Q_nil _ _ _ _ _ | exact Kd.S_nil _ _ _ _ _⟩,⟨au0⟩⟩
 case round =>
  clear H'
  obtain ⟨x3_1,x8_1,rfl,HA,HK1,HO_3,HB⟩ := hrel
  cases gk with
  | zero => exact absurd HA.out (by simp [unit_Encode.l0])
  | succ k1 =>
   have H := HA.out
   clear HA
   simp only [unit_Encode.l0] at H
   by_cases c2 : x8_1 < (l0.length : Int)
   ·rw [if_pos c2] at H
    have c2b0 : decide (x8_1 < (l0.length : Int)) = true := decide_eq_true c2
    clear c2
    by_cases c3 : 0 ≤ x8_1
    ·rw [if_pos c3] at H
     have c3b0 : decide (0 ≤ x8_1) = true := decide_eq_true c3
     clear c3
     by_cases c4 : x8_1 < (l0.length : Int)
     ·rw [if_pos c4] at H
      have c4b0 : decide (x8_1 < (l0.length : Int)) = true := decide_eq_true c4
      clear c4
      replace H := Option.bind_eq_some_iff.mp H
      obtain ⟨t436,A50,H⟩ := H
      replace H : (if t436 = true then ((utf8_AppendRune.f k1 x3_1 (rd l0 x8_1)).bind fun t437 => (unit_Encode.l0 k1 t437 l0 (l0.length : Int) (wrap64 (x8_1 + 1)))) else (unit_Encode.l0 k1 x3_1 l0 (l0.length : Int) (wrap64 (x8_1 + 1)))) = some r := H
      have A5 := Aside0.mk A50
      clear A50
      by_cases c6 : t436 = true
      ·subst c6
       have H1 : ((utf8_AppendRune.f k1 x3_1 (rd l0 x8_1)).bind fun t437 => (unit_Encode.l0 k1 t437 l0 (l0.length : Int) (wrap64 (x8_1 + 1)))) = some r := by rw [if_pos rfl] at H;exact H
       clear H
       have H := H1
       clear H1
       replace H := Option.bind_eq_some_iff.mp H
       obtain ⟨t437,A70,H⟩ := H
       replace H : (unit_Encode.l0 k1 t437 l0 (l0.length : Int) (wrap64 (x8_1 + 1))) = some r := H
       have A7 := Aside0.mk A70
       clear A70
       have H' := Aside0.mk H
       clear H
       have p435 : 0 ≤ (x8_1 : Int) := of_decide_eq_true au18
       have q435 : x8_1 < (l0.length : Int) := of_decide_eq_true au18
       obtain ⟨ad435,e435,hx435_0⟩ := Kd.at_int HR0.out x8_1 p435 q435
       cases e435
       replace hx435_0 := (HB.out.cell (World.block_lt_of_cell? w _ hx435_0)).trans hx435_0
       replace p435 := eq_true p435
       replace q435 := eq_true q435
       go_wp2_with (first | ((with_reducible refine gate_callee (f := 74) rfl ?_);refine goesL_ (some 13) rfl rfl Tryd.func74 (by kernel_rfl) rfl #[.int .i32 (rd l0 x8_1)] rfl au1 ?_;(with_reducible refine (utf8_ValidRune.calls k1 (rd l0 x8_1) true _ A5.out).mono ?_);rintro e w' ⟨rfl,⟨nd,rfl⟩⟩;refine ⟨_,rfl,?_⟩;obtain ⟨Ao8,co8,eo8⟩ := Kd.R_slice HO_3.out;subst eo8) | ((with_reducible refine gate_callee (f := 75) rfl ?_);refine goesL_ (some 16) rfl rfl Tryd.func75 (by kernel_rfl) rfl #[.slice Ao8 x3_1.length co8,.int .i32 (rd l0 x8_1)] rfl au1 ?_;(with_reducible refine (utf8_AppendRune.calls k1 (fun k_ => some k_ = (.slice Ao8 x3_1.length co8 : Value).ownBlock) (.slice Ao8 x3_1.length co8) x3_1 (rd l0 x8_1) t437 w _ ?side1 ?side2 A7.out).mono ?_);(case side1 => repeat (first | (with_reducible first | exact HB.out | apply below_alloc | apply pw_below_drewN | apply below_drew1) | exact HB.out));(case side2 => exact Kd.R_tight rfl HO_3.out);rintro e w9 ⟨v438,rfl,ho0,hb,hkp⟩;refine ⟨_,rfl,?_⟩;have n0_ := Aside0.mk (Kd.R_mono (ok' := fun k_ => True) ho0 (fun k_ hk_ => trivial));have n1_ := Aside0.mk (hb);clear HB;clear HO_3;have HO439 := n0_;have HB := n1_;clear n0_ n1_;(try clear hb);(try clear hkp);(try clear ho0)))
       go_roundg k1
       case measure => have := HK1.out;omega
       case rel => exact ⟨(t437),(wrap64 (x8_1 + 1)),au8,H',⟨by have := HK1.out;omega⟩,⟨by (with_reducible repeat (first | apply Kd.R_alloc | apply Kd.R_drewN | apply Kd.R_drew));exact HO439.out⟩,⟨au0⟩⟩
      ·replace c6 := Bool.eq_false_iff.mpr c6
       subst c6
       have H1 : (unit_Encode.l0 k1 x3_1 l0 (l0.length : Int) (wrap64 (x8_1 + 1))) = some r := by rw [if_neg (show ¬ (false = true) by decide)] at H;exact H
       clear H
       have H := H1
       clear H1
       have H' := Aside0.mk H
       clear H
       have p435 : 0 ≤ (x8_1 : Int) := of_decide_eq_true au18
       have q435 : x8_1 < (l0.length : Int) := of_decide_eq_true au18
       obtain ⟨ad435,e435,hx435_0⟩ := Kd.at_int HR0.out x8_1 p435 q435
       cases e435
       replace hx435_0 := (HB.out.cell (World.block_lt_of_cell? w _ hx435_0)).trans hx435_0
       replace p435 := eq_true p435
       replace q435 := eq_true q435
       go_wp2_with (first | ((with_reducible refine gate_callee (f := 74) rfl ?_);refine goesL_ (some 13) rfl rfl Tryd.func74 (by kernel_rfl) rfl #[.int .i32 (rd l0 x8_1)] rfl au1 ?_;(with_reducible refine (utf8_ValidRune.calls k1 (rd l0 x8_1) false _ A5.out).mono ?_);rintro e w' ⟨rfl,⟨nd,rfl⟩⟩;refine ⟨_,rfl,?_⟩))
       go_roundg k1
       case measure => have := HK1.out;omega
       case rel => exact ⟨(x3_1),(wrap64 (x8_1 + 1)),au8,H',⟨by have := HK1.out;omega⟩,⟨by (with_reducible repeat (first | apply Kd.R_alloc | apply Kd.R_drewN | apply Kd.R_drew));exact HO_3.out⟩,⟨au0⟩⟩
     ·rw [if_neg c4] at H
      exact absurd H (by simp)
    ·rw [if_neg c3] at H
     exact absurd H (by simp)
   ·rw [if_neg c2] at H
    have c2b0 : decide (x8_1 < (l0.length : Int)) = false := decide_eq_false c2
    clear c2
    obtain rfl := Option.some.inj H
    have hcv10 := own_string (P := Tryd.prog) Tryd.underlying81 Tryd.underlying5 Tryd.underlying9 (Kd.own_of_R HO_3.out)
    go_wp2
    go_ret
    exact ⟨au2,au0⟩
end Go.Proofs.YtfmnmjoofnbnfaaDoor.U
end
section
namespace Go.Proofs.YtfmnmjoofnbnfaaDoor.Pu
open Go Go.RowKit Go.Proofs.YtfmnmjoofnbnfaaDoor.Mu Go.Proofs.YtfmnmjoofnbnfaaDoor.U Go.Proofs.YtfmnmjoofnbnfaaDoorW.PrintWords Go.Proofs.YtfmnmjoofnbnfaaDoorW.PrintLast Go.Proofs.YtfmnmjoofnbnfaaDoorW.PrintMore
section
variable (t : ByteArray) (ht : t.size ≤ 1099511627776)
include ht
omit ht
include ht
end
theorem drop_cons {α : Type} {l t : List α} {b d : α} {i : Nat} (h : l.drop i = b :: t) : i < l.length ∧ l.getD i d = b ∧ l.drop (i + 1) = t := by
 have h1 : i < l.length := by
  rcases Nat.lt_or_ge i l.length with h2 | h2
  ·exact h2
  ·rw [List.drop_eq_nil_of_le h2] at h;cases h
 rw [List.drop_eq_getElem_cons h1] at h
 injection h with h2 h3
 exact ⟨h1,by rw [List.getD_eq_getElem?_getD,List.getElem?_eq_getElem h1];exact h2,h3⟩
theorem drop_nil_le {α : Type} {l : List α} {i : Nat} (h : l.drop i = []) : l.length ≤ i := List.drop_eq_nil_iff.1 h
theorem rd_nat (B : List Int) (i : Nat) : rd B i = B.getD i 0 := by unfold rd;rw [Int.toNat_natCast]
end Go.Proofs.YtfmnmjoofnbnfaaDoor.Pu
end
