/- What the law ChangeCases reaches of this seat's own texts, merged; what nothing uses is left out. -/
import Derived.Test.YtfmnmjoofnbnfaaDoorZChangeCases0
import Derived.Test.YtfmnmjoofnbnfaaDoorZChangeCases1
import Derived.Test.YtfmnmjoofnbnfaaDoorZChangeCases3
import Derived.Test.YtfmnmjoofnbnfaaDoorZChangeCases5
section
namespace Go.Proofs.YtfmnmjoofnbnfaaDoor.U
open Go.RowKit Go.Proofs.YtfmnmjoofnbnfaaDoorW.PrintWords Go.Proofs.YtfmnmjoofnbnfaaDoorW.PrintLast Go.Proofs.YtfmnmjoofnbnfaaDoorW.PrintMore
attribute [local go_sem] max2_int min2_int max_two min_two max_three min_three max_four min_four   -- for this text's walks alone
set_option linter.unusedVariables false
set_option linter.unusedSimpArgs false
def change_work_transposeWords.l0 : Nat → List (S63) → Int → Int → ByteArray → Int → Int → Int → Option (Int × Int × ByteArray × Int × ByteArray × Bool × Int)
 | 0,_,_,_,_,_,_,_ => none
 | k + 1,x4,x5,x6,x360000,x360001,x360002,x360003 => if x6 ≥ 0 then (if 0 ≤ x6 then (if x6 < (x4.length : Int) then (if ((rd_T63 x4 x6).f0) ≥ x360001 then (change_work_transposeWords.l0 k x4 x6 (wrap64 (x6 - 1)) x360000 x360001 x360002 x360003) else (if 0 ≤ (wrap64 ((mx x5 1) - 1)) then (if (wrap64 ((mx x5 1) - 1)) < (x4.length : Int) then (if 0 ≤ (mx x5 1) then (if (mx x5 1) < (x4.length : Int) then ((change_work_swap.f x360000 x360001 x360002 x360003 ((rd_T63 x4 (wrap64 ((mx x5 1) - 1))).f0) ((rd_T63 x4 (wrap64 ((mx x5 1) - 1))).f1) ((rd_T63 x4 (mx x5 1)).f0) ((rd_T63 x4 (mx x5 1)).f1)).bind fun bt369 => (some (bt369.1,bt369.2.1,bt369.2.2.1,bt369.2.2.2.1,bt369.2.2.2.2.1,bt369.2.2.2.2.2.1,bt369.2.2.2.2.2.2))) else (none)) else (none)) else (none)) else (none))) else (none)) else (none)) else (if 0 ≤ (wrap64 ((mx x5 1) - 1)) then (if (wrap64 ((mx x5 1) - 1)) < (x4.length : Int) then (if 0 ≤ (mx x5 1) then (if (mx x5 1) < (x4.length : Int) then ((change_work_swap.f x360000 x360001 x360002 x360003 ((rd_T63 x4 (wrap64 ((mx x5 1) - 1))).f0) ((rd_T63 x4 (wrap64 ((mx x5 1) - 1))).f1) ((rd_T63 x4 (mx x5 1)).f0) ((rd_T63 x4 (mx x5 1)).f1)).bind fun bt380 => (some (bt380.1,bt380.2.1,bt380.2.2.1,bt380.2.2.2.1,bt380.2.2.2.2.1,bt380.2.2.2.2.2.1,bt380.2.2.2.2.2.2))) else (none)) else (none)) else (none)) else (none))
def change_work_transposeWords.f (k : Nat) (a0_0 : ByteArray) (a0_1 : Int) (a0_2 : Int) (a0_3 : Int) : Option (Int × Int × ByteArray × Int × ByteArray × Bool × Int) := (word_Spans.f a0_0).bind fun t361 => (if (t361.length : Int) < 2 then (some (0,0,(⟨#[]⟩ : ByteArray),0,(⟨#[]⟩ : ByteArray),false,8)) else (change_work_transposeWords.l0 k t361 (wrap64 ((t361.length : Int) - 1)) (wrap64 ((t361.length : Int) - 1)) a0_0 a0_1 a0_2 a0_3))
def change_work_transposeWords.T6 : Bool × List (List Nat × List Nat) := (true,[([],[]),([0],[0]),([1],[1]),([2],[2]),([2],[2]),([3,4,2],[2,3,4]),([5,2],[2,5]),([6,2],[2,6]),([2],[2]),([8,2],[2,8]),([7,9,2],[2,7,9]),([2,10],[2,10])])
def change_work_transposeWords.B6 : List Nat := [0,1,3,7,7,31,63,127,7,263,1023,2047]
theorem change_work_transposeWords.tab6 : rtab .any (opsOf Tryd.f58 6) = change_work_transposeWords.T6 := by kernel_rfl
theorem change_work_transposeWords.bits6 : waitsOk change_work_transposeWords.T6.2 change_work_transposeWords.B6 = true := by kernel_rfl
def change_work_transposeWords.T10 : Bool × List (List Nat × List Nat) := (true,[([],[]),([],[]),([1],[1]),([0,2],[0,2]),([3],[3]),([],[]),([],[]),([5,6],[5,6]),([7],[7]),([],[]),([],[]),([9,4,0,1,2,3,4,9,10],[4,9]),([10,8,11,0,1,2,3,4,5,6,7,8,9,10,11],[8,10])])
def change_work_transposeWords.B10 : List Nat := [0,0,2,7,15,0,0,96,224,0,0,1567,4095]
theorem change_work_transposeWords.tab10 : rtab .any (opsOf Tryd.f58 10) = change_work_transposeWords.T10 := by kernel_rfl
theorem change_work_transposeWords.bits10 : waitsOk change_work_transposeWords.T10.2 change_work_transposeWords.B10 = true := by kernel_rfl
set_option maxHeartbeats 8000000 in
set_option maxRecDepth 100000 in
theorem change_work_transposeWords.calls (k : Nat) (a0_0 : ByteArray) (a0_1 : Int) (a0_2 : Int) (a0_3 : Int) (r1 : Int) (r2 : Int) (r3 : ByteArray) (r4 : Int) (r5 : ByteArray) (r6 : Bool) (r7 : Int) (w : World) (hT : Lib.Utf8Tabs 1 2 w) (h : change_work_transposeWords.f k a0_0 a0_1 a0_2 a0_3 = some (r1,r2,r3,r4,r5,r6,r7)) :
  Calls Tryd.prog 58 #[.agg #[.string a0_0,.int .i64 a0_1,.int .i64 a0_2,.int .i64 a0_3]] w fun e w' => e = .returned (.tuple #[.agg #[.int .i64 r1,.int .i64 r2,.string r3,.int .i64 r4,.string r5,.bool r6],.int .i64 r7]) ∧ Below w.heap.size w w' := by
 have hu52 := Tryd.underlying52
 have hu30 := Tryd.underlying30
 have hu63 := Tryd.underlying63
 have HT := Aside0.mk hT
 clear hT
 have HB := Aside0.mk (Below.refl w.heap.size w)
 have H : ((word_Spans.f a0_0).bind fun t361 => (if (t361.length : Int) < 2 then (some (0,0,(⟨#[]⟩ : ByteArray),0,(⟨#[]⟩ : ByteArray),false,8)) else (change_work_transposeWords.l0 k t361 (wrap64 ((t361.length : Int) - 1)) (wrap64 ((t361.length : Int) - 1)) a0_0 a0_1 a0_2 a0_3))) = some (r1,r2,r3,r4,r5,r6,r7) := h
 clear h
 replace H := Option.bind_eq_some_iff.mp H
 obtain ⟨t361,A20,H⟩ := H
 replace H : (if (t361.length : Int) < 2 then (some (0,0,(⟨#[]⟩ : ByteArray),0,(⟨#[]⟩ : ByteArray),false,8)) else (change_work_transposeWords.l0 k t361 (wrap64 ((t361.length : Int) - 1)) (wrap64 ((t361.length : Int) - 1)) a0_0 a0_1 a0_2 a0_3)) = some (r1,r2,r3,r4,r5,r6,r7) := H
 have A2 := Aside0.mk A20
 clear A20
 by_cases c3 : (t361.length : Int) < 2
 ·rw [if_pos c3] at H
  have c3b0 : decide ((t361.length : Int) < 2) = true := decide_eq_true c3
  have c3b1 : decide (t361.length < 2) = true := decide_eq_true (by omega)
  clear c3
  simp only [Option.some.injEq,Prod.mk.injEq] at H
  obtain ⟨rfl,rfl,rfl,rfl,rfl,rfl,rfl⟩ := H
  go_enter Tryd.func58,Tryd.ntmps58
  go_wp2_with (first | ((with_reducible refine gate_dst (N := 1) rfl ?_);refine box_event ?hg (N := 1) ?hd (cs := #[.string a0_0,.int .i64 a0_1,.int .i64 a0_2,.int .i64 a0_3]) (t := 52) ?hr ?_;(case hd => rfl);(case hg => rfl);(case hr => first | (go_simp;done) | (go_simp;rfl));intro gb359 hg w4 hbox hb;have n0_ := Aside0.mk (below_step au0 hb);have n1_ := Aside0.mk (hbox);have n2_ := Aside0.mk ((by rw [hg];exact (below_size au0) : w.heap.size ≤ gb359));have n3_ := Aside0.mk ((by rw [hg];exact (below_size au0) : w.heap.size ≤ gb359));clear HB;have HB := n0_;have BK359 := n1_;have GW359 := n2_;have GE359 := n3_;clear n0_ n1_ n2_ n3_;clear hb hbox hg) | ((with_reducible refine gate_dst (N := 2) rfl ?_);refine box_event ?hg (N := 2) ?hd (cs := #[.int .i64 0,.int .i64 0,.string (⟨#[]⟩ : ByteArray),.int .i64 0,.string (⟨#[]⟩ : ByteArray),.bool false]) (t := 30) ?hr ?_;(case hd => rfl);(case hg => rfl);(case hr => first | (go_simp;done) | (go_simp;rfl));intro gb360 hg w5 hbox hb;have n0_ := Aside0.mk (blk_below (g := gb359) (o := .cells #[.string a0_0,.int .i64 a0_1,.int .i64 a0_2,.int .i64 a0_3] 52 (0,0)) au5 hb);have n1_ := Aside0.mk (below_step au32 hb);have n2_ := Aside0.mk (hbox);have n3_ := Aside0.mk ((by rw [hg];exact (below_size au32) : w.heap.size ≤ gb360));have n4_ := Aside0.mk ((by rw [hg];exact (below_size au32) : w.heap.size ≤ gb360));have n5_ := Aside0.mk ((by rw [hg];exact Nat.ne_of_lt (blk_lt (g := gb359) (o := .cells #[.string a0_0,.int .i64 a0_1,.int .i64 a0_2,.int .i64 a0_3] 52 (0,0)) au5) : gb359 ≠ gb360));have n6_ := Aside0.mk ((by rw [hg];exact Nat.ne_of_gt (blk_lt (g := gb359) (o := .cells #[.string a0_0,.int .i64 a0_1,.int .i64 a0_2,.int .i64 a0_3] 52 (0,0)) au5) : gb360 ≠ gb359));clear BK359;clear HB;have BK359 := n0_;have HB := n1_;have BK360 := n2_;have GW360 := n3_;have GE360 := n4_;have NB359_360 := n5_;have NB360_359 := n6_;clear n0_ n1_ n2_ n3_ n4_ n5_ n6_;clear hb hbox hg;have hnb6 := NB359_360.out;have hnc6 := NB360_359.out;have hcz7_0 : w5.cell? ⟨gb359,0,none⟩ = some (.string a0_0) := (blk_cell BK359.out 0).trans rfl;have hcz7_1 : w5.cell? ⟨gb359,1,none⟩ = some (.int .i64 a0_1) := (blk_cell BK359.out 1).trans rfl;have hcz7_2 : w5.cell? ⟨gb359,2,none⟩ = some (.int .i64 a0_2) := (blk_cell BK359.out 2).trans rfl;have hcz7_3 : w5.cell? ⟨gb359,3,none⟩ = some (.int .i64 a0_3) := (blk_cell BK359.out 3).trans rfl;have hfz7_0 := blk_frozen BK359.out 0;have hfz7_1 := blk_frozen BK359.out 1;have hfz7_2 := blk_frozen BK359.out 2;have hfz7_3 := blk_frozen BK359.out 3) | ((with_reducible refine gate_callee (f := 19) rfl ?_);refine goesL_ (some 11) rfl rfl Tryd.func19 (by kernel_rfl) rfl #[.string a0_0] rfl au1 ?_;(with_reducible refine (word_Spans.calls a0_0 t361 _ ?side1 A2.out).mono ?_);(case side1 => exact tabs_below HT.out au7);rintro e w8 ⟨v362,rfl,ho0,hb⟩;refine ⟨_,rfl,?_⟩;have n0_ := Aside0.mk (Kd.R_lower ho0 (below_size au7));have n1_ := Aside0.mk (blk_below (g := gb359) (o := .cells #[.string a0_0,.int .i64 a0_1,.int .i64 a0_2,.int .i64 a0_3] 52 (0,0)) au5 hb);have n2_ := Aside0.mk (blk_below (g := gb360) (o := .cells #[.int .i64 0,.int .i64 0,.string (⟨#[]⟩ : ByteArray),.int .i64 0,.string (⟨#[]⟩ : ByteArray),.bool false] 30 (0,0)) au6 hb);have n3_ := Aside0.mk (below_step au7 hb);clear BK359;clear BK360;clear HB;have HO363 := n0_;have BK359 := n1_;have BK360 := n2_;have HB := n3_;clear n0_ n1_ n2_ n3_;(try clear hb);(try clear hb2);(try clear hk);(try clear hi);(try clear ho0);obtain ⟨Ao9,co9,eo9⟩ := Kd.R_slice HO363.out;subst eo9;have hcz10_0 : w8.cell? ⟨gb360,0,none⟩ = some (.int .i64 0) := (blk_cell BK360.out 0).trans rfl;have hcz10_1 : w8.cell? ⟨gb360,1,none⟩ = some (.int .i64 0) := (blk_cell BK360.out 1).trans rfl;have hcz10_2 : w8.cell? ⟨gb360,2,none⟩ = some (.string (⟨#[]⟩ : ByteArray)) := (blk_cell BK360.out 2).trans rfl;have hcz10_3 : w8.cell? ⟨gb360,3,none⟩ = some (.int .i64 0) := (blk_cell BK360.out 3).trans rfl;have hcz10_4 : w8.cell? ⟨gb360,4,none⟩ = some (.string (⟨#[]⟩ : ByteArray)) := (blk_cell BK360.out 4).trans rfl;have hcz10_5 : w8.cell? ⟨gb360,5,none⟩ = some (.bool false) := (blk_cell BK360.out 5).trans rfl;have hfz10_0 := blk_frozen BK360.out 0;have hfz10_1 := blk_frozen BK360.out 1;have hfz10_2 := blk_frozen BK360.out 2;have hfz10_3 := blk_frozen BK360.out 3;have hfz10_4 := blk_frozen BK360.out 4;have hfz10_5 := blk_frozen BK360.out 5))
  refine bodyPost_ret (results_ct rfl _ _ gb360 30 #[.int .i64 0,.int .i64 0,.string (⟨#[]⟩ : ByteArray),.int .i64 0,.string (⟨#[]⟩ : ByteArray),.bool false] (0,0) _ rfl (by (with_reducible repeat (first | refine blk_drewN ?_ _ | refine blk_drew ?_ | refine blk_alloc ?_ _));refine blk_put (cs := #[.int .i64 0,.int .i64 0,.string (⟨#[]⟩ : ByteArray),.int .i64 0,.string (⟨#[]⟩ : ByteArray),.bool false]) ?_ 5 _ rfl;(with_reducible repeat (first | refine blk_drewN ?_ _ | refine blk_drew ?_ | refine blk_alloc ?_ _));refine blk_put (cs := #[.int .i64 0,.int .i64 0,.string (⟨#[]⟩ : ByteArray),.int .i64 0,.string (⟨#[]⟩ : ByteArray),.bool false]) ?_ 4 _ rfl;(with_reducible repeat (first | refine blk_drewN ?_ _ | refine blk_drew ?_ | refine blk_alloc ?_ _));refine blk_put (cs := #[.int .i64 0,.int .i64 0,.string (⟨#[]⟩ : ByteArray),.int .i64 0,.string (⟨#[]⟩ : ByteArray),.bool false]) ?_ 3 _ rfl;(with_reducible repeat (first | refine blk_drewN ?_ _ | refine blk_drew ?_ | refine blk_alloc ?_ _));refine blk_put (cs := #[.int .i64 0,.int .i64 0,.string (⟨#[]⟩ : ByteArray),.int .i64 0,.string (⟨#[]⟩ : ByteArray),.bool false]) ?_ 2 _ rfl;(with_reducible repeat (first | refine blk_drewN ?_ _ | refine blk_drew ?_ | refine blk_alloc ?_ _));refine blk_put (cs := #[.int .i64 0,.int .i64 0,.string (⟨#[]⟩ : ByteArray),.int .i64 0,.string (⟨#[]⟩ : ByteArray),.bool false]) ?_ 1 _ rfl;(with_reducible repeat (first | refine blk_drewN ?_ _ | refine blk_drew ?_ | refine blk_alloc ?_ _));refine blk_put (cs := #[.int .i64 0,.int .i64 0,.string (⟨#[]⟩ : ByteArray),.int .i64 0,.string (⟨#[]⟩ : ByteArray),.bool false]) ?_ 0 _ rfl;(with_reducible repeat (first | refine blk_drewN ?_ _ | refine blk_drew ?_ | refine blk_alloc ?_ _));exact BK360.out) Tryd.underlying30 rfl (by kernel_rfl)) rfl ?_
  exact ⟨au2,by repeat (first | (with_reducible first | exact HB.out | apply below_alloc | apply pw_below_drewN | apply below_drew1 | refine below_set ?_ GE359.out | refine below_set ?_ GE360.out) | exact HB.out)⟩
 ·rw [if_neg c3] at H
  have c3b0 : decide ((t361.length : Int) < 2) = false := decide_eq_false c3
  have c3b1 : decide (t361.length < 2) = false := decide_eq_false (by omega)
  clear c3
  have H' := Aside0.mk H
  clear H
  go_enter Tryd.func58,Tryd.ntmps58
  go_wp2_with (first | ((with_reducible refine gate_dst (N := 1) rfl ?_);refine box_event ?hg (N := 1) ?hd (cs := #[.string a0_0,.int .i64 a0_1,.int .i64 a0_2,.int .i64 a0_3]) (t := 52) ?hr ?_;(case hd => rfl);(case hg => rfl);(case hr => first | (go_simp;done) | (go_simp;rfl));intro gb359 hg w11 hbox hb;have n0_ := Aside0.mk (below_step au0 hb);have n1_ := Aside0.mk (hbox);have n2_ := Aside0.mk ((by rw [hg];exact (below_size au0) : w.heap.size ≤ gb359));have n3_ := Aside0.mk ((by rw [hg];exact (below_size au0) : w.heap.size ≤ gb359));clear HB;have HB := n0_;have BK359 := n1_;have GW359 := n2_;have GE359 := n3_;clear n0_ n1_ n2_ n3_;clear hb hbox hg) | ((with_reducible refine gate_dst (N := 2) rfl ?_);refine box_event ?hg (N := 2) ?hd (cs := #[.int .i64 0,.int .i64 0,.string (⟨#[]⟩ : ByteArray),.int .i64 0,.string (⟨#[]⟩ : ByteArray),.bool false]) (t := 30) ?hr ?_;(case hd => rfl);(case hg => rfl);(case hr => first | (go_simp;done) | (go_simp;rfl));intro gb360 hg w12 hbox hb;have n0_ := Aside0.mk (blk_below (g := gb359) (o := .cells #[.string a0_0,.int .i64 a0_1,.int .i64 a0_2,.int .i64 a0_3] 52 (0,0)) au5 hb);have n1_ := Aside0.mk (below_step au32 hb);have n2_ := Aside0.mk (hbox);have n3_ := Aside0.mk ((by rw [hg];exact (below_size au32) : w.heap.size ≤ gb360));have n4_ := Aside0.mk ((by rw [hg];exact (below_size au32) : w.heap.size ≤ gb360));have n5_ := Aside0.mk ((by rw [hg];exact Nat.ne_of_lt (blk_lt (g := gb359) (o := .cells #[.string a0_0,.int .i64 a0_1,.int .i64 a0_2,.int .i64 a0_3] 52 (0,0)) au5) : gb359 ≠ gb360));have n6_ := Aside0.mk ((by rw [hg];exact Nat.ne_of_gt (blk_lt (g := gb359) (o := .cells #[.string a0_0,.int .i64 a0_1,.int .i64 a0_2,.int .i64 a0_3] 52 (0,0)) au5) : gb360 ≠ gb359));clear BK359;clear HB;have BK359 := n0_;have HB := n1_;have BK360 := n2_;have GW360 := n3_;have GE360 := n4_;have NB359_360 := n5_;have NB360_359 := n6_;clear n0_ n1_ n2_ n3_ n4_ n5_ n6_;clear hb hbox hg;have hnb13 := NB359_360.out;have hnc13 := NB360_359.out;have hcz14_0 : w12.cell? ⟨gb359,0,none⟩ = some (.string a0_0) := (blk_cell BK359.out 0).trans rfl;have hcz14_1 : w12.cell? ⟨gb359,1,none⟩ = some (.int .i64 a0_1) := (blk_cell BK359.out 1).trans rfl;have hcz14_2 : w12.cell? ⟨gb359,2,none⟩ = some (.int .i64 a0_2) := (blk_cell BK359.out 2).trans rfl;have hcz14_3 : w12.cell? ⟨gb359,3,none⟩ = some (.int .i64 a0_3) := (blk_cell BK359.out 3).trans rfl;have hfz14_0 := blk_frozen BK359.out 0;have hfz14_1 := blk_frozen BK359.out 1;have hfz14_2 := blk_frozen BK359.out 2;have hfz14_3 := blk_frozen BK359.out 3) | ((with_reducible refine gate_callee (f := 19) rfl ?_);refine goesL_ (some 11) rfl rfl Tryd.func19 (by kernel_rfl) rfl #[.string a0_0] rfl au1 ?_;(with_reducible refine (word_Spans.calls a0_0 t361 _ ?side1 A2.out).mono ?_);(case side1 => exact tabs_below HT.out au7);rintro e w15 ⟨v362,rfl,ho0,hb⟩;refine ⟨_,rfl,?_⟩;have n0_ := Aside0.mk (Kd.R_lower ho0 (below_size au7));have n1_ := Aside0.mk (blk_below (g := gb359) (o := .cells #[.string a0_0,.int .i64 a0_1,.int .i64 a0_2,.int .i64 a0_3] 52 (0,0)) au5 hb);have n2_ := Aside0.mk (blk_below (g := gb360) (o := .cells #[.int .i64 0,.int .i64 0,.string (⟨#[]⟩ : ByteArray),.int .i64 0,.string (⟨#[]⟩ : ByteArray),.bool false] 30 (0,0)) au6 hb);have n3_ := Aside0.mk (below_step au7 hb);clear BK359;clear BK360;clear HB;have HO363 := n0_;have BK359 := n1_;have BK360 := n2_;have HB := n3_;clear n0_ n1_ n2_ n3_;(try clear hb);(try clear hb2);(try clear hk);(try clear hi);(try clear ho0);obtain ⟨Ao16,co16,eo16⟩ := Kd.R_slice HO363.out;subst eo16))
  go_loopg [5,6] k (fun kq v5 v6 w' => ∃ (x5_1 : Int) (x6_1 : Int),v5 = .int .i64 x5_1 ∧ v6 = .int .i64 x6_1 ∧ Aside0 (change_work_transposeWords.l0 kq t361 x5_1 x6_1 a0_0 a0_1 a0_2 a0_3 = some (r1,r2,r3,r4,r5,r6,r7)) ∧ Aside0 (kq ≤ k) ∧ Aside0 (Kd.R k63 63 w' w.heap.size (fun _ => True) (.slice Ao16 t361.length co16) t361) ∧ Aside0 (w'.heap[gb359]? = some (.cells #[.string a0_0,.int .i64 a0_1,.int .i64 a0_2,.int .i64 a0_3] 52 (0,0))) ∧ Aside0 (w'.heap[gb360]? = some (.cells #[.int .i64 0,.int .i64 0,.string (⟨#[]⟩ : ByteArray),.int .i64 0,.string (⟨#[]⟩ : ByteArray),.bool false] 30 (0,0))) ∧ Aside0 (Below w.heap.size w w'))
  case atStart => exact ⟨(wrap64 ((t361.length : Int) - 1)),(wrap64 ((t361.length : Int) - 1)),au8,au8,H',⟨Nat.le_refl _⟩,⟨by (with_reducible repeat (first | apply Kd.R_alloc | apply Kd.R_drewN | apply Kd.R_drew));exact HO363.out⟩,⟨by (with_reducible repeat (first | refine blk_drewN ?_ _ | refine blk_drew ?_ | refine blk_alloc ?_ _));exact BK359.out⟩,⟨by (with_reducible repeat (first | refine blk_drewN ?_ _ | refine blk_drew ?_ | refine blk_alloc ?_ _));exact BK360.out⟩,⟨by repeat (first | (with_reducible first | exact HB.out | apply below_alloc | apply pw_below_drewN | apply below_drew1 | refine below_set ?_ GE359.out | refine below_set ?_ GE360.out) | exact HB.out)⟩⟩
  case round =>
   clear H'
   try clear c1
   try clear p2
   try clear c3
   try clear c3b0
   try clear c3b1
   try clear c5
   try clear c6
   try clear p6
   try clear c13
   try clear hcz10_0
   try clear hcz10_1
   try clear hcz10_2
   try clear hcz10_3
   try clear hcz10_4
   try clear hcz10_5
   try clear hcz14_0
   try clear hcz14_1
   try clear hcz14_2
   try clear hcz14_3
   try clear hcz7_0
   try clear hcz7_1
   try clear hcz7_2
   try clear hcz7_3
   try clear hfz10_0
   try clear hfz10_1
   try clear hfz10_2
   try clear hfz10_3
   try clear hfz10_4
   try clear hfz10_5
   try clear hfz14_0
   try clear hfz14_1
   try clear hfz14_2
   try clear hfz14_3
   try clear hfz7_0
   try clear hfz7_1
   try clear hfz7_2
   try clear hfz7_3
   obtain ⟨x5_1,x6_1,rfl,rfl,HA,HK1,HO_4,BK359,BK360,HB⟩ := hrel
   cases gk with
   | zero => exact absurd HA.out (by simp [change_work_transposeWords.l0])
   | succ k1 =>
    have H := HA.out
    clear HA
    simp only [change_work_transposeWords.l0] at H
    by_cases c17 : x6_1 ≥ 0
    ·rw [if_pos c17] at H
     have c17b0 : decide (0 ≤ x6_1) = true := decide_eq_true c17
     clear c17
     by_cases c18 : 0 ≤ x6_1
     ·rw [if_pos c18] at H
      have c18b0 : decide (0 ≤ x6_1) = true := decide_eq_true c18
      clear c18
      by_cases c19 : x6_1 < (t361.length : Int)
      ·rw [if_pos c19] at H
       have c19b0 : decide (x6_1 < (t361.length : Int)) = true := decide_eq_true c19
       clear c19
       by_cases c20 : ((rd_T63 t361 x6_1).f0) ≥ a0_1
       ·rw [if_pos c20] at H
        have c20b0 : decide (a0_1 ≤ ((rd_T63 t361 x6_1).f0)) = true := decide_eq_true c20
        clear c20
        have H' := Aside0.mk H
        clear H
        try go_wp2
        have n0_ := Aside0.mk (Kd.R_drew HO_4.out)
        have n1_ := Aside0.mk (blk_drew BK359.out)
        have n2_ := Aside0.mk (blk_drew BK360.out)
        have n3_ := Aside0.mk (below_drew1 HB.out)
        clear HO_4
        clear BK359
        clear BK360
        clear HB
        have HO_4 := n0_
        have BK359 := n1_
        have BK360 := n2_
        have HB := n3_
        clear n0_ n1_ n2_ n3_
        have p364 : 0 ≤ (x6_1 : Int) := of_decide_eq_true au18
        have q364 : x6_1 < (t361.length : Int) := of_decide_eq_true au18
        obtain ⟨ad364,e364,hx364_0,hx364_1⟩ := at_T63 (Kd.R_reads' HO_4.out).2.2 x6_1 p364 q364
        cases e364
        replace p364 := eq_true p364
        replace q364 := eq_true q364
        refine start_ (n := 12) (S := fun w' => w'.cell? ⟨gb359,0,none⟩ = some (.string a0_0) ∧ w'.cell? ⟨gb359,1,none⟩ = some (.int .i64 a0_1) ∧ w'.cell? ⟨gb359,2,none⟩ = some (.int .i64 a0_2) ∧ w'.cell? ⟨gb359,3,none⟩ = some (.int .i64 a0_3) ∧ w'.cell? (ad364.add ((x6_1).toNat * 2)) = some (.int .i64 ((rd_T63 t361 x6_1).f0)) ∧ w'.cell? ⟨(ad364.add ((x6_1).toNat * 2)).block,(ad364.add ((x6_1).toNat * 2)).off + 1,none⟩ = some (.int .i64 ((rd_T63 t361 x6_1).f1))) (ds := []) #[false,false,false,false,false,false,false,false,false,false,false,false] (by kernel_rfl) rfl rfl ⟨(blk_cell BK359.out 0).trans rfl,(blk_cell BK359.out 1).trans rfl,(blk_cell BK359.out 2).trans rfl,(blk_cell BK359.out 3).trans rfl,hx364_0,hx364_1⟩ (fun hHeld => ?_);refine with_tabW change_work_transposeWords.tab6 change_work_transposeWords.bits6 (fun HT_ HW_ => ?_)
        generalize wr.drew = w21 at HO_4 BK359 BK360 HB hx364_0 hx364_1 hHeld ⊢
        refine pure_ (i := 0) (N := some 20) (v := ?_) (a' := ?_) #[true,false,false,false,false,false,false,false,false,false,false,false] rfl rfl (any_of HT_.out (by kernel_rfl)) (fun _ _ _ h => h) (Or.inl ⟨by rfl,?_⟩) ?_ ?_
        rotate_left
        ·intro w'
         go_simp
         with_reducible rfl
        rotate_left
        ·simp only [Act.put,List.setIfInBounds_toArray,List.set_cons_zero,List.set_cons_succ,i64_w,i32_w]
         rfl
        refine pure_ (i := 1) (N := some 21) (v := ?_) (a' := ?_) #[true,true,false,false,false,false,false,false,false,false,false,false] rfl rfl (any_of HT_.out (by kernel_rfl)) (fun _ _ _ h => h) (Or.inl ⟨by rfl,?_⟩) ?_ ?_
        rotate_left
        ·intro w'
         go_simp
         with_reducible rfl
        rotate_left
        ·simp only [Act.put,List.setIfInBounds_toArray,List.set_cons_zero,List.set_cons_succ,i64_w,i32_w]
         rfl
        refine pure_ (i := 2) (N := some 22) (v := ?_) (a' := ?_) #[true,true,true,false,false,false,false,false,false,false,false,false] rfl rfl (any_of HT_.out (by kernel_rfl)) (fun _ _ _ h => h) (Or.inl ⟨by rfl,?_⟩) ?_ ?_
        rotate_left
        ·intro w'
         go_simp
         with_reducible rfl
        rotate_left
        ·simp only [Act.put,List.setIfInBounds_toArray,List.set_cons_zero,List.set_cons_succ,i64_w,i32_w]
         rfl
        refine pure_ (i := 3) (N := some 23) (v := ?_) (a' := ?_) #[true,true,true,true,false,false,false,false,false,false,false,false] rfl rfl (any_of HT_.out (by kernel_rfl)) (fun _ _ _ h => h) (Or.inl ⟨by rfl,?_⟩) ?_ ?_
        rotate_left
        ·intro w'
         go_simp
         with_reducible rfl
        rotate_left
        ·simp only [Act.put,List.setIfInBounds_toArray,List.set_cons_zero,List.set_cons_succ,i64_w,i32_w]
         rfl
        refine pure_ (i := 4) (N := some 24) (v := ?_) (a' := ?_) #[true,true,true,true,true,false,false,false,false,false,false,false] rfl rfl (any_of HT_.out (by kernel_rfl)) (fun _ _ _ h => h) (Or.inl ⟨by rfl,?_⟩) ?_ ?_
        rotate_left
        ·intro w'
         go_simp
         with_reducible rfl
        rotate_left
        ·simp only [Act.put,List.setIfInBounds_toArray,List.set_cons_zero,List.set_cons_succ,i64_w,i32_w]
         rfl
        refine pure_ (i := 5) (N := some 25) (v := ?_) (a' := ?_) #[true,true,true,true,true,true,false,false,false,false,false,false] rfl rfl (any_of HT_.out (by kernel_rfl)) (fun _ _ _ h => h) (Or.inl ⟨by rfl,?_⟩) ?_ ?_
        rotate_left
        ·intro w'
         go_simp
         with_reducible rfl
        rotate_left
        ·simp only [Act.put,List.setIfInBounds_toArray,List.set_cons_zero,List.set_cons_succ,i64_w,i32_w]
         rfl
        refine pure_ (i := 6) (N := some 26) (v := ?_) (a' := ?_) #[true,true,true,true,true,true,true,false,false,false,false,false] rfl rfl (any_of HT_.out (by kernel_rfl)) (fun _ _ _ h => h) (Or.inl ⟨by rfl,?_⟩) ?_ ?_
        rotate_left
        ·intro w'
         go_simp
         with_reducible rfl
        rotate_left
        ·simp only [Act.put,List.setIfInBounds_toArray,List.set_cons_zero,List.set_cons_succ,i64_w,i32_w]
         rfl
        refine pure_ (i := 8) (N := some 28) (v := ?_) (a' := ?_) #[true,true,true,true,true,true,true,false,true,false,false,false] rfl rfl (any_of HT_.out (by kernel_rfl)) (fun _ _ _ h => h) (Or.inl ⟨by rfl,?_⟩) ?_ ?_
        rotate_left
        ·intro w'
         go_simp
         with_reducible rfl
        rotate_left
        ·simp only [Act.put,List.setIfInBounds_toArray,List.set_cons_zero,List.set_cons_succ,i64_w,i32_w]
         rfl
        refine take_ (i := 7) (N := some 27) (v := ?_) (a' := ?_) #[true,true,true,true,true,true,true,true,true,false,false,false] rfl rfl (take_ofW HT_.out HW_.out (by kernel_rfl)) (fun _ _ _ h => h) (Or.inl ⟨by rfl,?_⟩) hHeld ?_ ?_
        rotate_left
        ·rintro w' ⟨s0,s1,s2,s3,s4,s5⟩
         go_simp
         with_reducible rfl
        rotate_left
        ·simp only [Act.put,List.setIfInBounds_toArray,List.set_cons_zero,List.set_cons_succ,i64_w,i32_w]
         rfl
        refine take_ (i := 9) (N := some 29) (v := ?_) (a' := ?_) #[true,true,true,true,true,true,true,true,true,true,false,false] rfl rfl (take_ofW HT_.out HW_.out (by kernel_rfl)) (fun _ _ _ h => h) (Or.inl ⟨by rfl,?_⟩) hHeld ?_ ?_
        rotate_left
        ·rintro w' ⟨s0,s1,s2,s3,s4,s5⟩
         go_simp
         with_reducible rfl
        rotate_left
        ·simp only [Act.put,List.setIfInBounds_toArray,List.set_cons_zero,List.set_cons_succ,i64_w,i32_w]
         rfl
        refine pure_ (i := 10) (N := some 30) (v := ?_) (a' := ?_) #[true,true,true,true,true,true,true,true,true,true,true,false] rfl rfl (any_of HT_.out (by kernel_rfl)) (fun _ _ _ h => h) (Or.inl ⟨by rfl,?_⟩) ?_ ?_
        rotate_left
        ·intro w'
         go_simp
         with_reducible rfl
        rotate_left
        ·simp only [Act.put,List.setIfInBounds_toArray,List.set_cons_zero,List.set_cons_succ,i64_w,i32_w]
         rfl
        refine pure_ (i := 11) (N := some 31) (v := ?_) (a' := ?_) #[true,true,true,true,true,true,true,true,true,true,true,true] rfl rfl (any_of HT_.out (by kernel_rfl)) (fun _ _ _ h => h) (Or.inl ⟨by rfl,?_⟩) ?_ ?_
        rotate_left
        ·intro w'
         go_simp
         with_reducible rfl
        rotate_left
        ·simp only [Act.put,List.setIfInBounds_toArray,List.set_cons_zero,List.set_cons_succ,i64_w,i32_w]
         rfl
        refine done_ (done_of HT_.out (by kernel_rfl)) ?_
        try go_wp2
        go_roundg k1
        case measure => have := HK1.out;omega
        case rel => exact ⟨(x6_1),(wrap64 (x6_1 - 1)),au8,au8,H',⟨by have := HK1.out;omega⟩,⟨by (with_reducible repeat (first | apply Kd.R_alloc | apply Kd.R_drewN | apply Kd.R_drew));exact HO_4.out⟩,⟨by (with_reducible repeat (first | refine blk_drewN ?_ _ | refine blk_drew ?_ | refine blk_alloc ?_ _));exact BK359.out⟩,⟨by (with_reducible repeat (first | refine blk_drewN ?_ _ | refine blk_drew ?_ | refine blk_alloc ?_ _));exact BK360.out⟩,⟨by repeat (first | (with_reducible first | exact HB.out | apply below_alloc | apply pw_below_drewN | apply below_drew1 | refine below_set ?_ GE359.out | refine below_set ?_ GE360.out) | exact HB.out)⟩⟩
       ·rw [if_neg c20] at H
        have c20b0 : decide (a0_1 ≤ ((rd_T63 t361 x6_1).f0)) = false := decide_eq_false c20
        clear c20
        obtain ⟨ji22,hji22⟩ : ∃ j_ : Int,(mx x5_1 1) = j_ := ⟨_,rfl⟩
        replace H : (if 0 ≤ (wrap64 ((ji22) - 1)) then (if (wrap64 ((ji22) - 1)) < (t361.length : Int) then (if 0 ≤ (ji22) then (if (ji22) < (t361.length : Int) then ((change_work_swap.f a0_0 a0_1 a0_2 a0_3 ((rd_T63 t361 (wrap64 ((ji22) - 1))).f0) ((rd_T63 t361 (wrap64 ((ji22) - 1))).f1) ((rd_T63 t361 (ji22)).f0) ((rd_T63 t361 (ji22)).f1)).bind fun bt369 => (some (bt369.1,bt369.2.1,bt369.2.2.1,bt369.2.2.2.1,bt369.2.2.2.2.1,bt369.2.2.2.2.2.1,bt369.2.2.2.2.2.2))) else (none)) else (none)) else (none)) else (none)) = some (r1,r2,r3,r4,r5,r6,r7) := by first | (rw [hji22] at H;exact H) | (simp only [hji22] at H ⊢;exact H)
        have hji22_ : (if x5_1 < 1 then 1 else x5_1) = ji22 := hji22
        obtain ⟨ji23,hji23⟩ : ∃ j_ : Int,(wrap64 ((ji22) - 1)) = j_ := ⟨_,rfl⟩
        replace H : (if 0 ≤ (ji23) then (if (ji23) < (t361.length : Int) then (if 0 ≤ (ji22) then (if (ji22) < (t361.length : Int) then ((change_work_swap.f a0_0 a0_1 a0_2 a0_3 ((rd_T63 t361 (ji23)).f0) ((rd_T63 t361 (ji23)).f1) ((rd_T63 t361 (ji22)).f0) ((rd_T63 t361 (ji22)).f1)).bind fun bt369 => (some (bt369.1,bt369.2.1,bt369.2.2.1,bt369.2.2.2.1,bt369.2.2.2.2.1,bt369.2.2.2.2.2.1,bt369.2.2.2.2.2.2))) else (none)) else (none)) else (none)) else (none)) = some (r1,r2,r3,r4,r5,r6,r7) := by first | (rw [hji23] at H;exact H) | (simp only [hji23] at H ⊢;exact H)
        have hji23w : (IntKind.i64.wrap ((ji22) - 1)) = ji23 := (i64_w _).trans hji23
        by_cases c24 : 0 ≤ (ji23)
        ·rw [if_pos c24] at H
         have c24b0 : decide (0 ≤ (ji23)) = true := decide_eq_true c24
         clear c24
         by_cases c25 : (ji23) < (t361.length : Int)
         ·rw [if_pos c25] at H
          have c25b0 : decide ((ji23) < (t361.length : Int)) = true := decide_eq_true c25
          clear c25
          by_cases c26 : 0 ≤ (ji22)
          ·rw [if_pos c26] at H
           have c26b0 : decide (0 ≤ (ji22)) = true := decide_eq_true c26
           clear c26
           by_cases c27 : (ji22) < (t361.length : Int)
           ·rw [if_pos c27] at H
            have c27b0 : decide ((ji22) < (t361.length : Int)) = true := decide_eq_true c27
            clear c27
            replace H := Option.bind_eq_some_iff.mp H
            obtain ⟨⟨t369,t370,t371,t372,t373,t374,t375⟩,A280,H⟩ := H
            replace H : (some (t369,t370,t371,t372,t373,t374,t375)) = some (r1,r2,r3,r4,r5,r6,r7) := H
            have A28 := Aside0.mk A280
            clear A280
            simp only [Option.some.injEq,Prod.mk.injEq] at H
            obtain ⟨rfl,rfl,rfl,rfl,rfl,rfl,rfl⟩ := H
            try go_wp2
            have n0_ := Aside0.mk (Kd.R_drew HO_4.out)
            have n1_ := Aside0.mk (blk_drew BK359.out)
            have n2_ := Aside0.mk (blk_drew BK360.out)
            have n3_ := Aside0.mk (below_drew1 HB.out)
            clear HO_4
            clear BK359
            clear BK360
            clear HB
            have HO_4 := n0_
            have BK359 := n1_
            have BK360 := n2_
            have HB := n3_
            clear n0_ n1_ n2_ n3_
            have p364 : 0 ≤ (x6_1 : Int) := of_decide_eq_true au18
            have q364 : x6_1 < (t361.length : Int) := of_decide_eq_true au18
            obtain ⟨ad364,e364,hx364_0,hx364_1⟩ := at_T63 (Kd.R_reads' HO_4.out).2.2 x6_1 p364 q364
            cases e364
            replace p364 := eq_true p364
            replace q364 := eq_true q364
            refine start_ (n := 12) (S := fun w' => w'.cell? ⟨gb359,0,none⟩ = some (.string a0_0) ∧ w'.cell? ⟨gb359,1,none⟩ = some (.int .i64 a0_1) ∧ w'.cell? ⟨gb359,2,none⟩ = some (.int .i64 a0_2) ∧ w'.cell? ⟨gb359,3,none⟩ = some (.int .i64 a0_3) ∧ w'.cell? (ad364.add ((x6_1).toNat * 2)) = some (.int .i64 ((rd_T63 t361 x6_1).f0)) ∧ w'.cell? ⟨(ad364.add ((x6_1).toNat * 2)).block,(ad364.add ((x6_1).toNat * 2)).off + 1,none⟩ = some (.int .i64 ((rd_T63 t361 x6_1).f1))) (ds := []) #[false,false,false,false,false,false,false,false,false,false,false,false] (by kernel_rfl) rfl rfl ⟨(blk_cell BK359.out 0).trans rfl,(blk_cell BK359.out 1).trans rfl,(blk_cell BK359.out 2).trans rfl,(blk_cell BK359.out 3).trans rfl,hx364_0,hx364_1⟩ (fun hHeld => ?_);refine with_tabW change_work_transposeWords.tab6 change_work_transposeWords.bits6 (fun HT_ HW_ => ?_)
            generalize wr.drew = w29 at HO_4 BK359 BK360 HB hx364_0 hx364_1 hHeld ⊢
            refine pure_ (i := 0) (N := some 20) (v := ?_) (a' := ?_) #[true,false,false,false,false,false,false,false,false,false,false,false] rfl rfl (any_of HT_.out (by kernel_rfl)) (fun _ _ _ h => h) (Or.inl ⟨by rfl,?_⟩) ?_ ?_
            rotate_left
            ·intro w'
             go_simp
             with_reducible rfl
            rotate_left
            ·simp only [Act.put,List.setIfInBounds_toArray,List.set_cons_zero,List.set_cons_succ,i64_w,i32_w]
             rfl
            refine pure_ (i := 1) (N := some 21) (v := ?_) (a' := ?_) #[true,true,false,false,false,false,false,false,false,false,false,false] rfl rfl (any_of HT_.out (by kernel_rfl)) (fun _ _ _ h => h) (Or.inl ⟨by rfl,?_⟩) ?_ ?_
            rotate_left
            ·intro w'
             go_simp
             with_reducible rfl
            rotate_left
            ·simp only [Act.put,List.setIfInBounds_toArray,List.set_cons_zero,List.set_cons_succ,i64_w,i32_w]
             rfl
            refine pure_ (i := 2) (N := some 22) (v := ?_) (a' := ?_) #[true,true,true,false,false,false,false,false,false,false,false,false] rfl rfl (any_of HT_.out (by kernel_rfl)) (fun _ _ _ h => h) (Or.inl ⟨by rfl,?_⟩) ?_ ?_
            rotate_left
            ·intro w'
             go_simp
             with_reducible rfl
            rotate_left
            ·simp only [Act.put,List.setIfInBounds_toArray,List.set_cons_zero,List.set_cons_succ,i64_w,i32_w]
             rfl
            refine pure_ (i := 3) (N := some 23) (v := ?_) (a' := ?_) #[true,true,true,true,false,false,false,false,false,false,false,false] rfl rfl (any_of HT_.out (by kernel_rfl)) (fun _ _ _ h => h) (Or.inl ⟨by rfl,?_⟩) ?_ ?_
            rotate_left
            ·intro w'
             go_simp
             with_reducible rfl
            rotate_left
            ·simp only [Act.put,List.setIfInBounds_toArray,List.set_cons_zero,List.set_cons_succ,i64_w,i32_w]
             rfl
            refine pure_ (i := 4) (N := some 24) (v := ?_) (a' := ?_) #[true,true,true,true,true,false,false,false,false,false,false,false] rfl rfl (any_of HT_.out (by kernel_rfl)) (fun _ _ _ h => h) (Or.inl ⟨by rfl,?_⟩) ?_ ?_
            rotate_left
            ·intro w'
             go_simp
             with_reducible rfl
            rotate_left
            ·simp only [Act.put,List.setIfInBounds_toArray,List.set_cons_zero,List.set_cons_succ,i64_w,i32_w]
             rfl
            refine pure_ (i := 5) (N := some 25) (v := ?_) (a' := ?_) #[true,true,true,true,true,true,false,false,false,false,false,false] rfl rfl (any_of HT_.out (by kernel_rfl)) (fun _ _ _ h => h) (Or.inl ⟨by rfl,?_⟩) ?_ ?_
            rotate_left
            ·intro w'
             go_simp
             with_reducible rfl
            rotate_left
            ·simp only [Act.put,List.setIfInBounds_toArray,List.set_cons_zero,List.set_cons_succ,i64_w,i32_w]
             rfl
            refine pure_ (i := 6) (N := some 26) (v := ?_) (a' := ?_) #[true,true,true,true,true,true,true,false,false,false,false,false] rfl rfl (any_of HT_.out (by kernel_rfl)) (fun _ _ _ h => h) (Or.inl ⟨by rfl,?_⟩) ?_ ?_
            rotate_left
            ·intro w'
             go_simp
             with_reducible rfl
            rotate_left
            ·simp only [Act.put,List.setIfInBounds_toArray,List.set_cons_zero,List.set_cons_succ,i64_w,i32_w]
             rfl
            refine pure_ (i := 8) (N := some 28) (v := ?_) (a' := ?_) #[true,true,true,true,true,true,true,false,true,false,false,false] rfl rfl (any_of HT_.out (by kernel_rfl)) (fun _ _ _ h => h) (Or.inl ⟨by rfl,?_⟩) ?_ ?_
            rotate_left
            ·intro w'
             go_simp
             with_reducible rfl
            rotate_left
            ·simp only [Act.put,List.setIfInBounds_toArray,List.set_cons_zero,List.set_cons_succ,i64_w,i32_w]
             rfl
            refine take_ (i := 7) (N := some 27) (v := ?_) (a' := ?_) #[true,true,true,true,true,true,true,true,true,false,false,false] rfl rfl (take_ofW HT_.out HW_.out (by kernel_rfl)) (fun _ _ _ h => h) (Or.inl ⟨by rfl,?_⟩) hHeld ?_ ?_
            rotate_left
            ·rintro w' ⟨s0,s1,s2,s3,s4,s5⟩
             go_simp
             with_reducible rfl
            rotate_left
            ·simp only [Act.put,List.setIfInBounds_toArray,List.set_cons_zero,List.set_cons_succ,i64_w,i32_w]
             rfl
            refine take_ (i := 9) (N := some 29) (v := ?_) (a' := ?_) #[true,true,true,true,true,true,true,true,true,true,false,false] rfl rfl (take_ofW HT_.out HW_.out (by kernel_rfl)) (fun _ _ _ h => h) (Or.inl ⟨by rfl,?_⟩) hHeld ?_ ?_
            rotate_left
            ·rintro w' ⟨s0,s1,s2,s3,s4,s5⟩
             go_simp
             with_reducible rfl
            rotate_left
            ·simp only [Act.put,List.setIfInBounds_toArray,List.set_cons_zero,List.set_cons_succ,i64_w,i32_w]
             rfl
            refine pure_ (i := 10) (N := some 30) (v := ?_) (a' := ?_) #[true,true,true,true,true,true,true,true,true,true,true,false] rfl rfl (any_of HT_.out (by kernel_rfl)) (fun _ _ _ h => h) (Or.inl ⟨by rfl,?_⟩) ?_ ?_
            rotate_left
            ·intro w'
             go_simp
             with_reducible rfl
            rotate_left
            ·simp only [Act.put,List.setIfInBounds_toArray,List.set_cons_zero,List.set_cons_succ,i64_w,i32_w]
             rfl
            refine pure_ (i := 11) (N := some 31) (v := ?_) (a' := ?_) #[true,true,true,true,true,true,true,true,true,true,true,true] rfl rfl (any_of HT_.out (by kernel_rfl)) (fun _ _ _ h => h) (Or.inl ⟨by rfl,?_⟩) ?_ ?_
            rotate_left
            ·intro w'
             go_simp
             with_reducible rfl
            rotate_left
            ·simp only [Act.put,List.setIfInBounds_toArray,List.set_cons_zero,List.set_cons_succ,i64_w,i32_w]
             rfl
            refine done_ (done_of HT_.out (by kernel_rfl)) ?_
            try go_wp2
            have n0_ := Aside0.mk (Kd.R_drew HO_4.out)
            have n1_ := Aside0.mk (blk_drew BK359.out)
            have n2_ := Aside0.mk (blk_drew BK360.out)
            have n3_ := Aside0.mk (below_drew1 HB.out)
            clear HO_4
            clear BK359
            clear BK360
            clear HB
            have HO_4 := n0_
            have BK359 := n1_
            have BK360 := n2_
            have HB := n3_
            clear n0_ n1_ n2_ n3_
            have p365 : 0 ≤ ((ji23) : Int) := of_decide_eq_true au18
            have q365 : (ji23) < (t361.length : Int) := of_decide_eq_true au18
            obtain ⟨ad365,e365,hx365_0,hx365_1⟩ := at_T63 (Kd.R_reads' HO_4.out).2.2 (ji23) p365 q365
            obtain rfl : ad364 = ad365 := (by injection e365)
            replace p365 := eq_true p365
            replace q365 := eq_true q365
            have p366 : 0 ≤ ((ji22) : Int) := of_decide_eq_true au18
            have q366 : (ji22) < (t361.length : Int) := of_decide_eq_true au18
            obtain ⟨ad366,e366,hx366_0,hx366_1⟩ := at_T63 (Kd.R_reads' HO_4.out).2.2 (ji22) p366 q366
            obtain rfl : ad364 = ad366 := (by injection e366)
            replace p366 := eq_true p366
            replace q366 := eq_true q366
            refine start_ (n := 13) (S := fun w' => w'.cell? (ad364.add (((ji23)).toNat * 2)) = some (.int .i64 ((rd_T63 t361 (ji23)).f0)) ∧ w'.cell? ⟨(ad364.add (((ji23)).toNat * 2)).block,(ad364.add (((ji23)).toNat * 2)).off + 1,none⟩ = some (.int .i64 ((rd_T63 t361 (ji23)).f1)) ∧ w'.cell? (ad364.add (((ji22)).toNat * 2)) = some (.int .i64 ((rd_T63 t361 (ji22)).f0)) ∧ w'.cell? ⟨(ad364.add (((ji22)).toNat * 2)).block,(ad364.add (((ji22)).toNat * 2)).off + 1,none⟩ = some (.int .i64 ((rd_T63 t361 (ji22)).f1))) (ds := []) #[false,false,false,false,false,false,false,false,false,false,false,false,false] (by kernel_rfl) rfl rfl ⟨hx365_0,hx365_1,hx366_0,hx366_1⟩ (fun hHeld => ?_);refine with_tabW change_work_transposeWords.tab10 change_work_transposeWords.bits10 (fun HT_ HW_ => ?_)
            generalize w29.drew = w30 at HO_4 BK359 BK360 HB hx365_0 hx365_1 hx366_0 hx366_1 hHeld ⊢
            refine pure_ (i := 0) (N := some 37) (v := ?_) (a' := ?_) #[true,false,false,false,false,false,false,false,false,false,false,false,false] rfl rfl (any_of HT_.out (by kernel_rfl)) (fun _ _ _ h => h) (Or.inl ⟨by rfl,?_⟩) ?_ ?_
            rotate_left
            ·intro w'
             go_simp
             with_reducible rfl
            rotate_left
            ·simp only [Act.put,List.setIfInBounds_toArray,List.set_cons_zero,List.set_cons_succ,i64_w,i32_w]
             rfl
            refine pure_ (i := 1) (N := some 38) (v := ?_) (a' := ?_) #[true,true,false,false,false,false,false,false,false,false,false,false,false] rfl rfl (any_of HT_.out (by kernel_rfl)) (fun _ _ _ h => h) (Or.inl ⟨by rfl,?_⟩) ?_ ?_
            rotate_left
            ·intro w'
             go_simp
             with_reducible rfl
            rotate_left
            ·simp only [Act.put,List.setIfInBounds_toArray,List.set_cons_zero,List.set_cons_succ,i64_w,i32_w]
             rfl
            refine pure_ (i := 2) (N := some 39) (v := ?_) (a' := ?_) #[true,true,true,false,false,false,false,false,false,false,false,false,false] rfl rfl (any_of HT_.out (by kernel_rfl)) (fun _ _ _ h => h) (Or.inl ⟨by rfl,?_⟩) ?_ ?_
            rotate_left
            ·intro w'
             go_simp
             with_reducible rfl
            rotate_left
            ·simp only [Act.put,List.setIfInBounds_toArray,List.set_cons_zero,List.set_cons_succ,i64_w,i32_w]
             rfl
            refine pure_ (i := 3) (N := some 40) (v := ?_) (a' := ?_) #[true,true,true,true,false,false,false,false,false,false,false,false,false] rfl rfl (any_of HT_.out (by kernel_rfl)) (fun _ _ _ h => h) (Or.inl ⟨by rfl,?_⟩) ?_ ?_
            rotate_left
            ·intro w'
             go_simp
             with_reducible rfl
            rotate_left
            ·simp only [Act.put,List.setIfInBounds_toArray,List.set_cons_zero,List.set_cons_succ,i64_w,i32_w]
             rfl
            refine pure_ (i := 5) (N := some 42) (v := ?_) (a' := ?_) #[true,true,true,true,false,true,false,false,false,false,false,false,false] rfl rfl (any_of HT_.out (by kernel_rfl)) (fun _ _ _ h => h) (Or.inl ⟨by rfl,?_⟩) ?_ ?_
            rotate_left
            ·intro w'
             go_simp
             with_reducible rfl
            rotate_left
            ·simp only [Act.put,List.setIfInBounds_toArray,List.set_cons_zero,List.set_cons_succ,i64_w,i32_w]
             rfl
            refine pure_ (i := 6) (N := some 43) (v := ?_) (a' := ?_) #[true,true,true,true,false,true,true,false,false,false,false,false,false] rfl rfl (any_of HT_.out (by kernel_rfl)) (fun _ _ _ h => h) (Or.inl ⟨by rfl,?_⟩) ?_ ?_
            rotate_left
            ·intro w'
             go_simp
             with_reducible rfl
            rotate_left
            ·simp only [Act.put,List.setIfInBounds_toArray,List.set_cons_zero,List.set_cons_succ,i64_w,i32_w]
             rfl
            refine pure_ (i := 7) (N := some 44) (v := ?_) (a' := ?_) #[true,true,true,true,false,true,true,true,false,false,false,false,false] rfl rfl (any_of HT_.out (by kernel_rfl)) (fun _ _ _ h => h) (Or.inl ⟨by rfl,?_⟩) ?_ ?_
            rotate_left
            ·intro w'
             go_simp
             with_reducible rfl
            rotate_left
            ·simp only [Act.put,List.setIfInBounds_toArray,List.set_cons_zero,List.set_cons_succ,i64_w,i32_w]
             rfl
            refine take_ (i := 4) (N := some 41) (v := ?_) (a' := ?_) #[true,true,true,true,true,true,true,true,false,false,false,false,false] rfl rfl (take_ofW HT_.out HW_.out (by kernel_rfl)) (fun _ _ _ h => h) (Or.inl ⟨by rfl,?_⟩) hHeld ?_ ?_
            rotate_left
            ·rintro w' ⟨s0,s1,s2,s3⟩
             go_simp
             with_reducible rfl
            rotate_left
            ·simp only [Act.put,List.setIfInBounds_toArray,List.set_cons_zero,List.set_cons_succ,i64_w,i32_w]
             rfl
            refine take_ (i := 8) (N := some 45) (v := ?_) (a' := ?_) #[true,true,true,true,true,true,true,true,true,false,false,false,false] rfl rfl (take_ofW HT_.out HW_.out (by kernel_rfl)) (fun _ _ _ h => h) (Or.inl ⟨by rfl,?_⟩) hHeld ?_ ?_
            rotate_left
            ·rintro w' ⟨s0,s1,s2,s3⟩
             go_simp
             with_reducible rfl
            rotate_left
            ·simp only [Act.put,List.setIfInBounds_toArray,List.set_cons_zero,List.set_cons_succ,i64_w,i32_w]
             rfl
            refine join_ (σ := Nat × Nat) 2 #[true,true,true,true,true,true,true,true,true,true,true,false,false] (fun s_ => [(7,.pointer (some ⟨s_.1,0,none⟩)),(8,.pointer (some ⟨s_.2,0,none⟩))]) (fun s_ w' => (w'.cell? (ad364.add (((ji23)).toNat * 2)) = some (.int .i64 ((rd_T63 t361 (ji23)).f0)) ∧ w'.cell? ⟨(ad364.add (((ji23)).toNat * 2)).block,(ad364.add (((ji23)).toNat * 2)).off + 1,none⟩ = some (.int .i64 ((rd_T63 t361 (ji23)).f1)) ∧ w'.cell? (ad364.add (((ji22)).toNat * 2)) = some (.int .i64 ((rd_T63 t361 (ji22)).f0)) ∧ w'.cell? ⟨(ad364.add (((ji22)).toNat * 2)).block,(ad364.add (((ji22)).toNat * 2)).off + 1,none⟩ = some (.int .i64 ((rd_T63 t361 (ji22)).f1))) ∧ (Kd.R k63 63 w' w.heap.size (fun k_ => k_ ≠ s_.1 ∧ k_ ≠ s_.2) (.slice (some ad364) t361.length co16) t361) ∧ (w'.heap[gb359]? = some (.cells #[.string a0_0,.int .i64 a0_1,.int .i64 a0_2,.int .i64 a0_3] 52 (0,0))) ∧ (w'.heap[gb360]? = some (.cells #[.int .i64 0,.int .i64 0,.string (⟨#[]⟩ : ByteArray),.int .i64 0,.string (⟨#[]⟩ : ByteArray),.bool false] 30 (0,0))) ∧ (w'.heap[s_.1]? = some (.cells #[.int .i64 0,.int .i64 0] 63 (0,0))) ∧ (w'.heap[s_.2]? = some (.cells #[.int .i64 0,.int .i64 0] 63 (0,0))) ∧ (w.heap.size ≤ s_.1) ∧ (w.heap.size ≤ s_.1) ∧ (gb359 ≠ s_.1) ∧ (s_.1 ≠ gb359) ∧ (gb360 ≠ s_.1) ∧ (s_.1 ≠ gb360) ∧ (s_.2 ≠ s_.1) ∧ (s_.1 ≠ s_.2) ∧ (w.heap.size ≤ s_.2) ∧ (w.heap.size ≤ s_.2) ∧ (gb359 ≠ s_.2) ∧ (s_.2 ≠ gb359) ∧ (gb360 ≠ s_.2) ∧ (s_.2 ≠ gb360) ∧ (Below w.heap.size w w')) ?_ ?_
            rotate_left
            ·intro hCont
             refine two_ (i := 9) (j := 10) (Ni := some 7) (Nj := some 8) #[true,true,true,true,true,true,true,true,true,true,false,false,false] #[true,true,true,true,true,true,true,true,true,false,true,false,false] rfl rfl rfl rfl (two_of HT_.out (by kernel_rfl)) (by decide) (by decide) (fun K hK => ?_) (fun K hK => ?_)
             ·skip
              refine box_step ?hg (N := 7) ?hd (cs := #[.int .i64 0,.int .i64 0]) (t := 63) ?hr ?_;(case hd => rfl);(case hg => rfl);(case hr => first | (go_simp;done) | (go_simp;rfl))
              intro gb367 hg w31 hbox hb
              have HS0_ := (hb.cell (World.block_lt_of_cell? _ _ (hHeld.1))).trans (hHeld.1)
              have HS1_ := (hb.cell (World.block_lt_of_cell? _ _ (hHeld.2.1))).trans (hHeld.2.1)
              have HS2_ := (hb.cell (World.block_lt_of_cell? _ _ (hHeld.2.2.1))).trans (hHeld.2.2.1)
              have HS3_ := (hb.cell (World.block_lt_of_cell? _ _ (hHeld.2.2.2))).trans (hHeld.2.2.2)
              have n0_ := Aside0.mk (Kd.R_below (Kd.R_elderB (by (with_reducible repeat (first | apply Kd.R_alloc | apply Kd.R_drewN | apply Kd.R_drew));exact HO_4.out) gb367 (Nat.le_of_eq hg.symm)) hb)
              have n1_ := Aside0.mk (blk_below (g := gb359) (o := .cells #[.string a0_0,.int .i64 a0_1,.int .i64 a0_2,.int .i64 a0_3] 52 (0,0)) au5 hb)
              have n2_ := Aside0.mk (blk_below (g := gb360) (o := .cells #[.int .i64 0,.int .i64 0,.string (⟨#[]⟩ : ByteArray),.int .i64 0,.string (⟨#[]⟩ : ByteArray),.bool false] 30 (0,0)) au6 hb)
              have n3_ := Aside0.mk (below_step au7 hb)
              have n4_ := Aside0.mk (hbox)
              have n5_ := Aside0.mk ((by rw [hg];exact (below_size au7) : w.heap.size ≤ gb367))
              have n6_ := Aside0.mk ((by rw [hg];exact (below_size au7) : w.heap.size ≤ gb367))
              have n7_ := Aside0.mk ((by rw [hg];exact Nat.ne_of_lt (blk_lt (g := gb359) (o := .cells #[.string a0_0,.int .i64 a0_1,.int .i64 a0_2,.int .i64 a0_3] 52 (0,0)) au5) : gb359 ≠ gb367))
              have n8_ := Aside0.mk ((by rw [hg];exact Nat.ne_of_gt (blk_lt (g := gb359) (o := .cells #[.string a0_0,.int .i64 a0_1,.int .i64 a0_2,.int .i64 a0_3] 52 (0,0)) au5) : gb367 ≠ gb359))
              have n9_ := Aside0.mk ((by rw [hg];exact Nat.ne_of_lt (blk_lt (g := gb360) (o := .cells #[.int .i64 0,.int .i64 0,.string (⟨#[]⟩ : ByteArray),.int .i64 0,.string (⟨#[]⟩ : ByteArray),.bool false] 30 (0,0)) au6) : gb360 ≠ gb367))
              have n10_ := Aside0.mk ((by rw [hg];exact Nat.ne_of_gt (blk_lt (g := gb360) (o := .cells #[.int .i64 0,.int .i64 0,.string (⟨#[]⟩ : ByteArray),.int .i64 0,.string (⟨#[]⟩ : ByteArray),.bool false] 30 (0,0)) au6) : gb367 ≠ gb360))
              clear HO_4
              clear BK359
              clear BK360
              clear HB
              have HO_4 := n0_
              have BK359 := n1_
              have BK360 := n2_
              have HB := n3_
              have BK367 := n4_
              have GW367 := n5_
              have GE367 := n6_
              have NB359_367 := n7_
              have NB367_359 := n8_
              have NB360_367 := n9_
              have NB367_360 := n10_
              clear n0_ n1_ n2_ n3_ n4_ n5_ n6_ n7_ n8_ n9_ n10_
              clear hb hbox hg
              refine hK.out _ _ ⟨HS0_,HS1_,HS2_,HS3_⟩ (fun hHeld => ?_)
              clear hK K
              refine norm_ (a' := ?_) ?_ ?_
              rotate_left
              ·show Act.put _ (some 7) _ = _
               simp only [Act.put,List.setIfInBounds_toArray,List.set_cons_zero,List.set_cons_succ,i64_w,i32_w]
               rfl
              refine one_ (i := 10) (N := some 8) #[true,true,true,true,true,true,true,true,true,true,true,false,false] rfl rfl (one_of HT_.out (by kernel_rfl)) (by decide) (fun K hK => ?_)
              refine box_step ?hg (N := 8) ?hd (cs := #[.int .i64 0,.int .i64 0]) (t := 63) ?hr ?_;(case hd => rfl);(case hg => rfl);(case hr => first | (go_simp;done) | (go_simp;rfl))
              intro gb368 hg w32 hbox hb
              have HS0_ := (hb.cell (World.block_lt_of_cell? _ _ (hHeld.1))).trans (hHeld.1)
              have HS1_ := (hb.cell (World.block_lt_of_cell? _ _ (hHeld.2.1))).trans (hHeld.2.1)
              have HS2_ := (hb.cell (World.block_lt_of_cell? _ _ (hHeld.2.2.1))).trans (hHeld.2.2.1)
              have HS3_ := (hb.cell (World.block_lt_of_cell? _ _ (hHeld.2.2.2))).trans (hHeld.2.2.2)
              have n0_ := Aside0.mk (Kd.R_below (Kd.R_elderB (by (with_reducible repeat (first | apply Kd.R_alloc | apply Kd.R_drewN | apply Kd.R_drew));exact HO_4.out) gb368 (Nat.le_of_eq hg.symm)) hb)
              have n1_ := Aside0.mk (blk_below (g := gb359) (o := .cells #[.string a0_0,.int .i64 a0_1,.int .i64 a0_2,.int .i64 a0_3] 52 (0,0)) au5 hb)
              have n2_ := Aside0.mk (blk_below (g := gb360) (o := .cells #[.int .i64 0,.int .i64 0,.string (⟨#[]⟩ : ByteArray),.int .i64 0,.string (⟨#[]⟩ : ByteArray),.bool false] 30 (0,0)) au6 hb)
              have n3_ := Aside0.mk (blk_below (g := gb367) (o := .cells #[.int .i64 0,.int .i64 0] 63 (0,0)) (by (with_reducible repeat (first | refine blk_drewN ?_ _ | refine blk_drew ?_ | refine blk_alloc ?_ _));exact BK367.out) hb)
              have n4_ := Aside0.mk (below_step (by repeat (first | (with_reducible first | exact HB.out | apply below_alloc | apply pw_below_drewN | apply below_drew1 | refine below_set ?_ GE359.out | refine below_set ?_ GE360.out | refine below_set ?_ GE367.out) | exact HB.out)) hb)
              have n5_ := Aside0.mk (hbox)
              have n6_ := Aside0.mk ((by rw [hg];exact (below_size (by repeat (first | (with_reducible first | exact HB.out | apply below_alloc | apply pw_below_drewN | apply below_drew1 | refine below_set ?_ GE359.out | refine below_set ?_ GE360.out | refine below_set ?_ GE367.out) | exact HB.out))) : w.heap.size ≤ gb368))
              have n7_ := Aside0.mk ((by rw [hg];exact (below_size (by repeat (first | (with_reducible first | exact HB.out | apply below_alloc | apply pw_below_drewN | apply below_drew1 | refine below_set ?_ GE359.out | refine below_set ?_ GE360.out | refine below_set ?_ GE367.out) | exact HB.out))) : w.heap.size ≤ gb368))
              have n8_ := Aside0.mk ((by rw [hg];exact Nat.ne_of_lt (blk_lt (g := gb359) (o := .cells #[.string a0_0,.int .i64 a0_1,.int .i64 a0_2,.int .i64 a0_3] 52 (0,0)) au5) : gb359 ≠ gb368))
              have n9_ := Aside0.mk ((by rw [hg];exact Nat.ne_of_gt (blk_lt (g := gb359) (o := .cells #[.string a0_0,.int .i64 a0_1,.int .i64 a0_2,.int .i64 a0_3] 52 (0,0)) au5) : gb368 ≠ gb359))
              have n10_ := Aside0.mk ((by rw [hg];exact Nat.ne_of_lt (blk_lt (g := gb360) (o := .cells #[.int .i64 0,.int .i64 0,.string (⟨#[]⟩ : ByteArray),.int .i64 0,.string (⟨#[]⟩ : ByteArray),.bool false] 30 (0,0)) au6) : gb360 ≠ gb368))
              have n11_ := Aside0.mk ((by rw [hg];exact Nat.ne_of_gt (blk_lt (g := gb360) (o := .cells #[.int .i64 0,.int .i64 0,.string (⟨#[]⟩ : ByteArray),.int .i64 0,.string (⟨#[]⟩ : ByteArray),.bool false] 30 (0,0)) au6) : gb368 ≠ gb360))
              have n12_ := Aside0.mk ((by rw [hg];exact Nat.ne_of_lt (blk_lt (g := gb367) (o := .cells #[.int .i64 0,.int .i64 0] 63 (0,0)) (by (with_reducible repeat (first | refine blk_drewN ?_ _ | refine blk_drew ?_ | refine blk_alloc ?_ _));exact BK367.out)) : gb367 ≠ gb368))
              have n13_ := Aside0.mk ((by rw [hg];exact Nat.ne_of_gt (blk_lt (g := gb367) (o := .cells #[.int .i64 0,.int .i64 0] 63 (0,0)) (by (with_reducible repeat (first | refine blk_drewN ?_ _ | refine blk_drew ?_ | refine blk_alloc ?_ _));exact BK367.out)) : gb368 ≠ gb367))
              clear HO_4
              clear BK359
              clear BK360
              clear BK367
              clear HB
              have HO_4 := n0_
              have BK359 := n1_
              have BK360 := n2_
              have BK367 := n3_
              have HB := n4_
              have BK368 := n5_
              have GW368 := n6_
              have GE368 := n7_
              have NB359_368 := n8_
              have NB368_359 := n9_
              have NB360_368 := n10_
              have NB368_360 := n11_
              have NB367_368 := n12_
              have NB368_367 := n13_
              clear n0_ n1_ n2_ n3_ n4_ n5_ n6_ n7_ n8_ n9_ n10_ n11_ n12_ n13_
              clear hb hbox hg
              refine hK.out _ _ ⟨HS0_,HS1_,HS2_,HS3_⟩ (fun hHeld => ?_)
              clear hK K
              refine norm_ (a' := ?_) ?_ ?_
              rotate_left
              ·show Act.put _ (some 8) _ = _
               simp only [Act.put,List.setIfInBounds_toArray,List.set_cons_zero,List.set_cons_succ,i64_w,i32_w]
               rfl
              exact norm_ au39 (hCont (gb367,gb368) _ ⟨hHeld,(by (with_reducible repeat (first | apply Kd.R_alloc | apply Kd.R_drewN | apply Kd.R_drew));exact Kd.R_mono HO_4.out (fun _ hk => ⟨hk.1.2,hk.2⟩)),au5,au6,(by (with_reducible repeat (first | refine blk_drewN ?_ _ | refine blk_drew ?_ | refine blk_alloc ?_ _));exact BK367.out),(by (with_reducible repeat (first | refine blk_drewN ?_ _ | refine blk_drew ?_ | refine blk_alloc ?_ _));exact BK368.out),GW367.out,GE367.out,NB359_367.out,NB367_359.out,NB360_367.out,NB367_360.out,NB368_367.out,NB367_368.out,GW368.out,GE368.out,NB359_368.out,NB368_359.out,NB360_368.out,NB368_360.out,(by repeat (first | (with_reducible first | exact HB.out | apply below_alloc | apply pw_below_drewN | apply below_drew1 | refine below_set ?_ GE359.out | refine below_set ?_ GE360.out | refine below_set ?_ GE367.out | refine below_set ?_ GE368.out) | exact HB.out))⟩)
             ·skip
              refine box_step ?hg (N := 8) ?hd (cs := #[.int .i64 0,.int .i64 0]) (t := 63) ?hr ?_;(case hd => rfl);(case hg => rfl);(case hr => first | (go_simp;done) | (go_simp;rfl))
              intro gb368 hg w31 hbox hb
              have HS0_ := (hb.cell (World.block_lt_of_cell? _ _ (hHeld.1))).trans (hHeld.1)
              have HS1_ := (hb.cell (World.block_lt_of_cell? _ _ (hHeld.2.1))).trans (hHeld.2.1)
              have HS2_ := (hb.cell (World.block_lt_of_cell? _ _ (hHeld.2.2.1))).trans (hHeld.2.2.1)
              have HS3_ := (hb.cell (World.block_lt_of_cell? _ _ (hHeld.2.2.2))).trans (hHeld.2.2.2)
              have n0_ := Aside0.mk (Kd.R_below (Kd.R_elderB (by (with_reducible repeat (first | apply Kd.R_alloc | apply Kd.R_drewN | apply Kd.R_drew));exact HO_4.out) gb368 (Nat.le_of_eq hg.symm)) hb)
              have n1_ := Aside0.mk (blk_below (g := gb359) (o := .cells #[.string a0_0,.int .i64 a0_1,.int .i64 a0_2,.int .i64 a0_3] 52 (0,0)) au5 hb)
              have n2_ := Aside0.mk (blk_below (g := gb360) (o := .cells #[.int .i64 0,.int .i64 0,.string (⟨#[]⟩ : ByteArray),.int .i64 0,.string (⟨#[]⟩ : ByteArray),.bool false] 30 (0,0)) au6 hb)
              have n3_ := Aside0.mk (below_step au7 hb)
              have n4_ := Aside0.mk (hbox)
              have n5_ := Aside0.mk ((by rw [hg];exact (below_size au7) : w.heap.size ≤ gb368))
              have n6_ := Aside0.mk ((by rw [hg];exact (below_size au7) : w.heap.size ≤ gb368))
              have n7_ := Aside0.mk ((by rw [hg];exact Nat.ne_of_lt (blk_lt (g := gb359) (o := .cells #[.string a0_0,.int .i64 a0_1,.int .i64 a0_2,.int .i64 a0_3] 52 (0,0)) au5) : gb359 ≠ gb368))
              have n8_ := Aside0.mk ((by rw [hg];exact Nat.ne_of_gt (blk_lt (g := gb359) (o := .cells #[.string a0_0,.int .i64 a0_1,.int .i64 a0_2,.int .i64 a0_3] 52 (0,0)) au5) : gb368 ≠ gb359))
              have n9_ := Aside0.mk ((by rw [hg];exact Nat.ne_of_lt (blk_lt (g := gb360) (o := .cells #[.int .i64 0,.int .i64 0,.string (⟨#[]⟩ : ByteArray),.int .i64 0,.string (⟨#[]⟩ : ByteArray),.bool false] 30 (0,0)) au6) : gb360 ≠ gb368))
              have n10_ := Aside0.mk ((by rw [hg];exact Nat.ne_of_gt (blk_lt (g := gb360) (o := .cells #[.int .i64 0,.int .i64 0,.string (⟨#[]⟩ : ByteArray),.int .i64 0,.string (⟨#[]⟩ : ByteArray),.bool false] 30 (0,0)) au6) : gb368 ≠ gb360))
              clear HO_4
              clear BK359
              clear BK360
              clear HB
              have HO_4 := n0_
              have BK359 := n1_
              have BK360 := n2_
              have HB := n3_
              have BK368 := n4_
              have GW368 := n5_
              have GE368 := n6_
              have NB359_368 := n7_
              have NB368_359 := n8_
              have NB360_368 := n9_
              have NB368_360 := n10_
              clear n0_ n1_ n2_ n3_ n4_ n5_ n6_ n7_ n8_ n9_ n10_
              clear hb hbox hg
              refine hK.out _ _ ⟨HS0_,HS1_,HS2_,HS3_⟩ (fun hHeld => ?_)
              clear hK K
              refine norm_ (a' := ?_) ?_ ?_
              rotate_left
              ·show Act.put _ (some 8) _ = _
               simp only [Act.put,List.setIfInBounds_toArray,List.set_cons_zero,List.set_cons_succ,i64_w,i32_w]
               rfl
              refine one_ (i := 9) (N := some 7) #[true,true,true,true,true,true,true,true,true,true,true,false,false] rfl rfl (one_of HT_.out (by kernel_rfl)) (by decide) (fun K hK => ?_)
              refine box_step ?hg (N := 7) ?hd (cs := #[.int .i64 0,.int .i64 0]) (t := 63) ?hr ?_;(case hd => rfl);(case hg => rfl);(case hr => first | (go_simp;done) | (go_simp;rfl))
              intro gb367 hg w32 hbox hb
              have HS0_ := (hb.cell (World.block_lt_of_cell? _ _ (hHeld.1))).trans (hHeld.1)
              have HS1_ := (hb.cell (World.block_lt_of_cell? _ _ (hHeld.2.1))).trans (hHeld.2.1)
              have HS2_ := (hb.cell (World.block_lt_of_cell? _ _ (hHeld.2.2.1))).trans (hHeld.2.2.1)
              have HS3_ := (hb.cell (World.block_lt_of_cell? _ _ (hHeld.2.2.2))).trans (hHeld.2.2.2)
              have n0_ := Aside0.mk (Kd.R_below (Kd.R_elderB (by (with_reducible repeat (first | apply Kd.R_alloc | apply Kd.R_drewN | apply Kd.R_drew));exact HO_4.out) gb367 (Nat.le_of_eq hg.symm)) hb)
              have n1_ := Aside0.mk (blk_below (g := gb359) (o := .cells #[.string a0_0,.int .i64 a0_1,.int .i64 a0_2,.int .i64 a0_3] 52 (0,0)) au5 hb)
              have n2_ := Aside0.mk (blk_below (g := gb360) (o := .cells #[.int .i64 0,.int .i64 0,.string (⟨#[]⟩ : ByteArray),.int .i64 0,.string (⟨#[]⟩ : ByteArray),.bool false] 30 (0,0)) au6 hb)
              have n3_ := Aside0.mk (blk_below (g := gb368) (o := .cells #[.int .i64 0,.int .i64 0] 63 (0,0)) (by (with_reducible repeat (first | refine blk_drewN ?_ _ | refine blk_drew ?_ | refine blk_alloc ?_ _));exact BK368.out) hb)
              have n4_ := Aside0.mk (below_step (by repeat (first | (with_reducible first | exact HB.out | apply below_alloc | apply pw_below_drewN | apply below_drew1 | refine below_set ?_ GE359.out | refine below_set ?_ GE360.out | refine below_set ?_ GE368.out) | exact HB.out)) hb)
              have n5_ := Aside0.mk (hbox)
              have n6_ := Aside0.mk ((by rw [hg];exact (below_size (by repeat (first | (with_reducible first | exact HB.out | apply below_alloc | apply pw_below_drewN | apply below_drew1 | refine below_set ?_ GE359.out | refine below_set ?_ GE360.out | refine below_set ?_ GE368.out) | exact HB.out))) : w.heap.size ≤ gb367))
              have n7_ := Aside0.mk ((by rw [hg];exact (below_size (by repeat (first | (with_reducible first | exact HB.out | apply below_alloc | apply pw_below_drewN | apply below_drew1 | refine below_set ?_ GE359.out | refine below_set ?_ GE360.out | refine below_set ?_ GE368.out) | exact HB.out))) : w.heap.size ≤ gb367))
              have n8_ := Aside0.mk ((by rw [hg];exact Nat.ne_of_lt (blk_lt (g := gb359) (o := .cells #[.string a0_0,.int .i64 a0_1,.int .i64 a0_2,.int .i64 a0_3] 52 (0,0)) au5) : gb359 ≠ gb367))
              have n9_ := Aside0.mk ((by rw [hg];exact Nat.ne_of_gt (blk_lt (g := gb359) (o := .cells #[.string a0_0,.int .i64 a0_1,.int .i64 a0_2,.int .i64 a0_3] 52 (0,0)) au5) : gb367 ≠ gb359))
              have n10_ := Aside0.mk ((by rw [hg];exact Nat.ne_of_lt (blk_lt (g := gb360) (o := .cells #[.int .i64 0,.int .i64 0,.string (⟨#[]⟩ : ByteArray),.int .i64 0,.string (⟨#[]⟩ : ByteArray),.bool false] 30 (0,0)) au6) : gb360 ≠ gb367))
              have n11_ := Aside0.mk ((by rw [hg];exact Nat.ne_of_gt (blk_lt (g := gb360) (o := .cells #[.int .i64 0,.int .i64 0,.string (⟨#[]⟩ : ByteArray),.int .i64 0,.string (⟨#[]⟩ : ByteArray),.bool false] 30 (0,0)) au6) : gb367 ≠ gb360))
              have n12_ := Aside0.mk ((by rw [hg];exact Nat.ne_of_lt (blk_lt (g := gb368) (o := .cells #[.int .i64 0,.int .i64 0] 63 (0,0)) (by (with_reducible repeat (first | refine blk_drewN ?_ _ | refine blk_drew ?_ | refine blk_alloc ?_ _));exact BK368.out)) : gb368 ≠ gb367))
              have n13_ := Aside0.mk ((by rw [hg];exact Nat.ne_of_gt (blk_lt (g := gb368) (o := .cells #[.int .i64 0,.int .i64 0] 63 (0,0)) (by (with_reducible repeat (first | refine blk_drewN ?_ _ | refine blk_drew ?_ | refine blk_alloc ?_ _));exact BK368.out)) : gb367 ≠ gb368))
              clear HO_4
              clear BK359
              clear BK360
              clear BK368
              clear HB
              have HO_4 := n0_
              have BK359 := n1_
              have BK360 := n2_
              have BK368 := n3_
              have HB := n4_
              have BK367 := n5_
              have GW367 := n6_
              have GE367 := n7_
              have NB359_367 := n8_
              have NB367_359 := n9_
              have NB360_367 := n10_
              have NB367_360 := n11_
              have NB368_367 := n12_
              have NB367_368 := n13_
              clear n0_ n1_ n2_ n3_ n4_ n5_ n6_ n7_ n8_ n9_ n10_ n11_ n12_ n13_
              clear hb hbox hg
              refine hK.out _ _ ⟨HS0_,HS1_,HS2_,HS3_⟩ (fun hHeld => ?_)
              clear hK K
              refine norm_ (a' := ?_) ?_ ?_
              rotate_left
              ·show Act.put _ (some 7) _ = _
               simp only [Act.put,List.setIfInBounds_toArray,List.set_cons_zero,List.set_cons_succ,i64_w,i32_w]
               rfl
              exact norm_ au39 (hCont (gb367,gb368) _ ⟨hHeld,(by (with_reducible repeat (first | apply Kd.R_alloc | apply Kd.R_drewN | apply Kd.R_drew));exact Kd.R_mono HO_4.out (fun _ hk => ⟨hk.2,hk.1.2⟩)),au5,au6,(by (with_reducible repeat (first | refine blk_drewN ?_ _ | refine blk_drew ?_ | refine blk_alloc ?_ _));exact BK367.out),(by (with_reducible repeat (first | refine blk_drewN ?_ _ | refine blk_drew ?_ | refine blk_alloc ?_ _));exact BK368.out),GW367.out,GE367.out,NB359_367.out,NB367_359.out,NB360_367.out,NB367_360.out,NB368_367.out,NB367_368.out,GW368.out,GE368.out,NB359_368.out,NB368_359.out,NB360_368.out,NB368_360.out,(by repeat (first | (with_reducible first | exact HB.out | apply below_alloc | apply pw_below_drewN | apply below_drew1 | refine below_set ?_ GE359.out | refine below_set ?_ GE360.out | refine below_set ?_ GE368.out | refine below_set ?_ GE367.out) | exact HB.out))⟩)
            rintro ⟨gb367,gb368⟩ w33 ⟨hS_,h0_,h1_,h2_,h3_,h4_,h5_,h6_,h7_,h8_,h9_,h10_,h11_,h12_,h13_,h14_,h15_,h16_,h17_,h18_,h19_⟩
            have n0_ : Aside0 (Kd.R k63 63 w33 w.heap.size (fun k_ => k_ ≠ gb367 ∧ k_ ≠ gb368) (.slice (some ad364) t361.length co16) t361) := ⟨h0_⟩
            have n1_ : Aside0 (w33.heap[gb359]? = some (.cells #[.string a0_0,.int .i64 a0_1,.int .i64 a0_2,.int .i64 a0_3] 52 (0,0))) := ⟨h1_⟩
            have n2_ : Aside0 (w33.heap[gb360]? = some (.cells #[.int .i64 0,.int .i64 0,.string (⟨#[]⟩ : ByteArray),.int .i64 0,.string (⟨#[]⟩ : ByteArray),.bool false] 30 (0,0))) := ⟨h2_⟩
            have n3_ : Aside0 (w33.heap[gb367]? = some (.cells #[.int .i64 0,.int .i64 0] 63 (0,0))) := ⟨h3_⟩
            have n4_ : Aside0 (w33.heap[gb368]? = some (.cells #[.int .i64 0,.int .i64 0] 63 (0,0))) := ⟨h4_⟩
            have n5_ : Aside0 (w.heap.size ≤ gb367) := ⟨h5_⟩
            have n6_ : Aside0 (w.heap.size ≤ gb367) := ⟨h6_⟩
            have n7_ : Aside0 (gb359 ≠ gb367) := ⟨h7_⟩
            have n8_ : Aside0 (gb367 ≠ gb359) := ⟨h8_⟩
            have n9_ : Aside0 (gb360 ≠ gb367) := ⟨h9_⟩
            have n10_ : Aside0 (gb367 ≠ gb360) := ⟨h10_⟩
            have n11_ : Aside0 (gb368 ≠ gb367) := ⟨h11_⟩
            have n12_ : Aside0 (gb367 ≠ gb368) := ⟨h12_⟩
            have n13_ : Aside0 (w.heap.size ≤ gb368) := ⟨h13_⟩
            have n14_ : Aside0 (w.heap.size ≤ gb368) := ⟨h14_⟩
            have n15_ : Aside0 (gb359 ≠ gb368) := ⟨h15_⟩
            have n16_ : Aside0 (gb368 ≠ gb359) := ⟨h16_⟩
            have n17_ : Aside0 (gb360 ≠ gb368) := ⟨h17_⟩
            have n18_ : Aside0 (gb368 ≠ gb360) := ⟨h18_⟩
            have n19_ : Aside0 (Below w.heap.size w w33) := ⟨h19_⟩
            clear HO_4
            clear BK359
            clear BK360
            clear HB
            clear h0_ h1_ h2_ h3_ h4_ h5_ h6_ h7_ h8_ h9_ h10_ h11_ h12_ h13_ h14_ h15_ h16_ h17_ h18_ h19_
            have HO_4 := n0_
            have BK359 := n1_
            have BK360 := n2_
            have BK367 := n3_
            have BK368 := n4_
            have GW367 := n5_
            have GE367 := n6_
            have NB359_367 := n7_
            have NB367_359 := n8_
            have NB360_367 := n9_
            have NB367_360 := n10_
            have NB368_367 := n11_
            have NB367_368 := n12_
            have GW368 := n13_
            have GE368 := n14_
            have NB359_368 := n15_
            have NB368_359 := n16_
            have NB360_368 := n17_
            have NB368_360 := n18_
            have HB := n19_
            clear n0_ n1_ n2_ n3_ n4_ n5_ n6_ n7_ n8_ n9_ n10_ n11_ n12_ n13_ n14_ n15_ n16_ n17_ n18_ n19_
            have hHeld : w33.cell? (ad364.add (((ji23)).toNat * 2)) = some (.int .i64 ((rd_T63 t361 (ji23)).f0)) ∧ w33.cell? ⟨(ad364.add (((ji23)).toNat * 2)).block,(ad364.add (((ji23)).toNat * 2)).off + 1,none⟩ = some (.int .i64 ((rd_T63 t361 (ji23)).f1)) ∧ w33.cell? (ad364.add (((ji22)).toNat * 2)) = some (.int .i64 ((rd_T63 t361 (ji22)).f0)) ∧ w33.cell? ⟨(ad364.add (((ji22)).toNat * 2)).block,(ad364.add (((ji22)).toNat * 2)).off + 1,none⟩ = some (.int .i64 ((rd_T63 t361 (ji22)).f1)) := hS_
            refine norm_ (a' := ?_) ?_ ?_
            rotate_left
            ·simp only [putAll,Act.put,List.setIfInBounds_toArray,List.set_cons_zero,List.set_cons_succ]
             rfl
            refine one_ (i := 11) (N := none) #[true,true,true,true,true,true,true,true,true,true,true,true,false] rfl rfl (one_of HT_.out (by kernel_rfl)) (by decide) (fun K hK => ?_)
            have hs34 : w33.cell? ⟨gb367,0,none⟩ = some (.int .i64 0) := (blk_cell BK367.out 0).trans rfl
            have hfs34 := blk_frozen BK367.out 0
            have hns34_0 := NB359_367.out
            have hns34_1 := NB360_367.out
            have hns34_3 := NB368_367.out
            have hms34_0 := NB367_359.out
            have hms34_1 := NB367_360.out
            have hms34_3 := NB367_368.out
            have hs35 : w33.cell? ⟨gb367,1,none⟩ = some (.int .i64 0) := (blk_cell BK367.out 1).trans rfl
            have hfs35 := blk_frozen BK367.out 1
            have hns35_0 := NB359_367.out
            have hns35_1 := NB360_367.out
            have hns35_3 := NB368_367.out
            have hms35_0 := NB367_359.out
            have hms35_1 := NB367_360.out
            have hms35_3 := NB367_368.out
            refine skip_ (w1 := ?_) (by rfl) rfl ?_ ?_
            rotate_left
            ·go_simp
             rfl
            refine hK.out _ _ ⟨((cell_far (p := ⟨gb367,_,none⟩) au3 _).trans (((cell_far (p := ⟨gb367,_,none⟩) au3 _).trans (hHeld.1)))),((cell_far (p := ⟨gb367,_,none⟩) au3 _).trans (((cell_far (p := ⟨gb367,_,none⟩) au3 _).trans (hHeld.2.1)))),((cell_far (p := ⟨gb367,_,none⟩) au3 _).trans (((cell_far (p := ⟨gb367,_,none⟩) au3 _).trans (hHeld.2.2.1)))),((cell_far (p := ⟨gb367,_,none⟩) au3 _).trans (((cell_far (p := ⟨gb367,_,none⟩) au3 _).trans (hHeld.2.2.2))))⟩ (fun hHeld => ?_)
            clear hK K
            refine one_ (i := 12) (N := none) #[true,true,true,true,true,true,true,true,true,true,true,true,true] rfl rfl (one_of HT_.out (by kernel_rfl)) (by decide) (fun K hK => ?_)
            have hs36 : w33.cell? ⟨gb368,0,none⟩ = some (.int .i64 0) := (blk_cell BK368.out 0).trans rfl
            have hfs36 := blk_frozen BK368.out 0
            have hns36_0 := NB359_368.out
            have hns36_1 := NB360_368.out
            have hns36_2 := NB367_368.out
            have hms36_0 := NB368_359.out
            have hms36_1 := NB368_360.out
            have hms36_2 := NB368_367.out
            have hs37 : w33.cell? ⟨gb368,1,none⟩ = some (.int .i64 0) := (blk_cell BK368.out 1).trans rfl
            have hfs37 := blk_frozen BK368.out 1
            have hns37_0 := NB359_368.out
            have hns37_1 := NB360_368.out
            have hns37_2 := NB367_368.out
            have hms37_0 := NB368_359.out
            have hms37_1 := NB368_360.out
            have hms37_2 := NB368_367.out
            refine skip_ (w1 := ?_) (by rfl) rfl ?_ ?_
            rotate_left
            ·go_simp
             rfl
            refine hK.out _ _ ⟨((cell_far (p := ⟨gb368,_,none⟩) au4 _).trans (((cell_far (p := ⟨gb368,_,none⟩) au4 _).trans (hHeld.1)))),((cell_far (p := ⟨gb368,_,none⟩) au4 _).trans (((cell_far (p := ⟨gb368,_,none⟩) au4 _).trans (hHeld.2.1)))),((cell_far (p := ⟨gb368,_,none⟩) au4 _).trans (((cell_far (p := ⟨gb368,_,none⟩) au4 _).trans (hHeld.2.2.1)))),((cell_far (p := ⟨gb368,_,none⟩) au4 _).trans (((cell_far (p := ⟨gb368,_,none⟩) au4 _).trans (hHeld.2.2.2))))⟩ (fun hHeld => ?_)
            clear hK K
            refine done_ (done_of HT_.out (by kernel_rfl)) ?_
            have hnb38 := NB359_360.out
            have hnc38 := NB360_359.out
            have hnb39 := NB359_367.out
            have hnc39 := NB367_359.out
            have hnb40 := NB359_368.out
            have hnc40 := NB368_359.out
            have hcz41_0 : w33.cell? ⟨gb359,0,none⟩ = some (.string a0_0) := (blk_cell BK359.out 0).trans rfl
            have hcz41_1 : w33.cell? ⟨gb359,1,none⟩ = some (.int .i64 a0_1) := (blk_cell BK359.out 1).trans rfl
            have hcz41_2 : w33.cell? ⟨gb359,2,none⟩ = some (.int .i64 a0_2) := (blk_cell BK359.out 2).trans rfl
            have hcz41_3 : w33.cell? ⟨gb359,3,none⟩ = some (.int .i64 a0_3) := (blk_cell BK359.out 3).trans rfl
            have hfz41_0 := blk_frozen BK359.out 0
            have hfz41_1 := blk_frozen BK359.out 1
            have hfz41_2 := blk_frozen BK359.out 2
            have hfz41_3 := blk_frozen BK359.out 3
            have hnb42 := NB367_360.out
            have hnc42 := NB360_367.out
            have hnb43 := NB367_368.out
            have hnc43 := NB368_367.out
            have hcz44_0 : w33.cell? ⟨gb367,0,none⟩ = some (.int .i64 0) := (blk_cell BK367.out 0).trans rfl
            have hcz44_1 : w33.cell? ⟨gb367,1,none⟩ = some (.int .i64 0) := (blk_cell BK367.out 1).trans rfl
            have hfz44_0 := blk_frozen BK367.out 0
            have hfz44_1 := blk_frozen BK367.out 1
            have hnb45 := NB368_360.out
            have hnc45 := NB360_368.out
            have hcz46_0 : w33.cell? ⟨gb368,0,none⟩ = some (.int .i64 0) := (blk_cell BK368.out 0).trans rfl
            have hcz46_1 : w33.cell? ⟨gb368,1,none⟩ = some (.int .i64 0) := (blk_cell BK368.out 1).trans rfl
            have hfz46_0 := blk_frozen BK368.out 0
            have hfz46_1 := blk_frozen BK368.out 1
            try go_wp2_with (first | ((with_reducible refine gate_callee (f := 72) rfl ?_);refine goesL_ (some 55) rfl rfl Tryd.func72 (by kernel_rfl) rfl #[.agg #[.string a0_0,.int .i64 a0_1,.int .i64 a0_2,.int .i64 a0_3],.int .i64 ((rd_T63 t361 (ji23)).f0),.int .i64 ((rd_T63 t361 (ji23)).f1),.int .i64 ((rd_T63 t361 (ji22)).f0),.int .i64 ((rd_T63 t361 (ji22)).f1)] rfl (by (try simp only [List.map_toArray,List.map_cons,List.map_nil]);first | done | (simp only [hji22,hji23];rfl) | rfl | (simp only [List.length_drop,List.length_take];rfl)) ?_;(with_reducible refine (change_work_swap.calls a0_0 a0_1 a0_2 a0_3 ((rd_T63 t361 (ji23)).f0) ((rd_T63 t361 (ji23)).f1) ((rd_T63 t361 (ji22)).f0) ((rd_T63 t361 (ji22)).f1) t369 t370 t371 t372 t373 t374 t375 _ A28.out).mono ?_);rintro e w47 ⟨rfl,hb⟩;refine ⟨_,rfl,?_⟩;have n0_ := Aside0.mk (Kd.R_below (by (with_reducible repeat (first | apply Kd.R_alloc | apply Kd.R_drewN | apply Kd.R_drew));exact (Kd.R_mono (Kd.R_mono (Kd.R_far (p := ⟨gb368,1,none⟩) (Kd.R_far (p := ⟨gb368,0,none⟩) (Kd.R_far (p := ⟨gb367,1,none⟩) (Kd.R_far (p := ⟨gb367,0,none⟩) (Kd.R_mono (Kd.R_mono HO_4.out (fun k_ hk => (⟨hk,hk.1⟩ : _ ∧ k_ ≠ gb367))) (fun k_ hk => (⟨hk,hk.1.2⟩ : _ ∧ k_ ≠ gb368))) (fun _ hk => hk.1.2) (.int .i64 ((rd_T63 t361 (ji23)).f0))) (fun _ hk => hk.1.2) (.int .i64 ((rd_T63 t361 (ji23)).f1))) (fun _ hk => hk.2) (.int .i64 ((rd_T63 t361 (ji22)).f0))) (fun _ hk => hk.2) (.int .i64 ((rd_T63 t361 (ji22)).f1))) (fun _ h_ => h_.1)) (fun _ h_ => h_.1))) hb);have n1_ := Aside0.mk (blk_below (g := gb359) (o := .cells #[.string a0_0,.int .i64 a0_1,.int .i64 a0_2,.int .i64 a0_3] 52 (0,0)) (by (with_reducible repeat (first | refine blk_drewN ?_ _ | refine blk_drew ?_ | refine blk_alloc ?_ _));refine blk_far ?_ NB359_368.out _;(with_reducible repeat (first | refine blk_drewN ?_ _ | refine blk_drew ?_ | refine blk_alloc ?_ _));refine blk_far ?_ NB359_368.out _;(with_reducible repeat (first | refine blk_drewN ?_ _ | refine blk_drew ?_ | refine blk_alloc ?_ _));refine blk_far ?_ NB359_367.out _;(with_reducible repeat (first | refine blk_drewN ?_ _ | refine blk_drew ?_ | refine blk_alloc ?_ _));refine blk_far ?_ NB359_367.out _;(with_reducible repeat (first | refine blk_drewN ?_ _ | refine blk_drew ?_ | refine blk_alloc ?_ _));exact BK359.out) hb);have n2_ := Aside0.mk (blk_below (g := gb360) (o := .cells #[.int .i64 0,.int .i64 0,.string (⟨#[]⟩ : ByteArray),.int .i64 0,.string (⟨#[]⟩ : ByteArray),.bool false] 30 (0,0)) (by (with_reducible repeat (first | refine blk_drewN ?_ _ | refine blk_drew ?_ | refine blk_alloc ?_ _));refine blk_far ?_ NB360_368.out _;(with_reducible repeat (first | refine blk_drewN ?_ _ | refine blk_drew ?_ | refine blk_alloc ?_ _));refine blk_far ?_ NB360_368.out _;(with_reducible repeat (first | refine blk_drewN ?_ _ | refine blk_drew ?_ | refine blk_alloc ?_ _));refine blk_far ?_ NB360_367.out _;(with_reducible repeat (first | refine blk_drewN ?_ _ | refine blk_drew ?_ | refine blk_alloc ?_ _));refine blk_far ?_ NB360_367.out _;(with_reducible repeat (first | refine blk_drewN ?_ _ | refine blk_drew ?_ | refine blk_alloc ?_ _));exact BK360.out) hb);have n3_ := Aside0.mk (blk_below (g := gb367) (o := .cells #[.int .i64 ((rd_T63 t361 (ji23)).f0),.int .i64 ((rd_T63 t361 (ji23)).f1)] 63 (0,0)) (by (with_reducible repeat (first | refine blk_drewN ?_ _ | refine blk_drew ?_ | refine blk_alloc ?_ _));refine blk_far ?_ NB367_368.out _;(with_reducible repeat (first | refine blk_drewN ?_ _ | refine blk_drew ?_ | refine blk_alloc ?_ _));refine blk_far ?_ NB367_368.out _;(with_reducible repeat (first | refine blk_drewN ?_ _ | refine blk_drew ?_ | refine blk_alloc ?_ _));refine blk_put (cs := #[.int .i64 ((rd_T63 t361 (ji23)).f0),.int .i64 0]) ?_ 1 _ rfl;(with_reducible repeat (first | refine blk_drewN ?_ _ | refine blk_drew ?_ | refine blk_alloc ?_ _));refine blk_put (cs := #[.int .i64 0,.int .i64 0]) ?_ 0 _ rfl;(with_reducible repeat (first | refine blk_drewN ?_ _ | refine blk_drew ?_ | refine blk_alloc ?_ _));exact BK367.out) hb);have n4_ := Aside0.mk (blk_below (g := gb368) (o := .cells #[.int .i64 ((rd_T63 t361 (ji22)).f0),.int .i64 ((rd_T63 t361 (ji22)).f1)] 63 (0,0)) (by (with_reducible repeat (first | refine blk_drewN ?_ _ | refine blk_drew ?_ | refine blk_alloc ?_ _));refine blk_put (cs := #[.int .i64 ((rd_T63 t361 (ji22)).f0),.int .i64 0]) ?_ 1 _ rfl;(with_reducible repeat (first | refine blk_drewN ?_ _ | refine blk_drew ?_ | refine blk_alloc ?_ _));refine blk_put (cs := #[.int .i64 0,.int .i64 0]) ?_ 0 _ rfl;(with_reducible repeat (first | refine blk_drewN ?_ _ | refine blk_drew ?_ | refine blk_alloc ?_ _));refine blk_far ?_ NB368_367.out _;(with_reducible repeat (first | refine blk_drewN ?_ _ | refine blk_drew ?_ | refine blk_alloc ?_ _));refine blk_far ?_ NB368_367.out _;(with_reducible repeat (first | refine blk_drewN ?_ _ | refine blk_drew ?_ | refine blk_alloc ?_ _));exact BK368.out) hb);have n5_ := Aside0.mk (below_step (by repeat (first | (with_reducible first | exact HB.out | apply below_alloc | apply pw_below_drewN | apply below_drew1 | refine below_set ?_ GE359.out | refine below_set ?_ GE360.out | refine below_set ?_ GE367.out | refine below_set ?_ GE368.out) | exact HB.out)) hb);clear HO_4;clear BK359;clear BK360;clear BK367;clear BK368;clear HB;have HO_4 := n0_;have BK359 := n1_;have BK360 := n2_;have BK367 := n3_;have BK368 := n4_;have HB := n5_;clear n0_ n1_ n2_ n3_ n4_ n5_;(try clear hb);(try clear hb2);(try clear hk);(try clear hi);have hcz48_0 : w47.cell? ⟨gb360,0,none⟩ = some (.int .i64 0) := (blk_cell BK360.out 0).trans rfl;have hcz48_1 : w47.cell? ⟨gb360,1,none⟩ = some (.int .i64 0) := (blk_cell BK360.out 1).trans rfl;have hcz48_2 : w47.cell? ⟨gb360,2,none⟩ = some (.string (⟨#[]⟩ : ByteArray)) := (blk_cell BK360.out 2).trans rfl;have hcz48_3 : w47.cell? ⟨gb360,3,none⟩ = some (.int .i64 0) := (blk_cell BK360.out 3).trans rfl;have hcz48_4 : w47.cell? ⟨gb360,4,none⟩ = some (.string (⟨#[]⟩ : ByteArray)) := (blk_cell BK360.out 4).trans rfl;have hcz48_5 : w47.cell? ⟨gb360,5,none⟩ = some (.bool false) := (blk_cell BK360.out 5).trans rfl;have hfz48_0 := blk_frozen BK360.out 0;have hfz48_1 := blk_frozen BK360.out 1;have hfz48_2 := blk_frozen BK360.out 2;have hfz48_3 := blk_frozen BK360.out 3;have hfz48_4 := blk_frozen BK360.out 4;have hfz48_5 := blk_frozen BK360.out 5))
            refine bodyPost_ret (results_ct rfl _ _ gb360 30 #[.int .i64 t369,.int .i64 t370,.string t371,.int .i64 t372,.string t373,.bool t374] (0,0) _ rfl (by (with_reducible repeat (first | refine blk_drewN ?_ _ | refine blk_drew ?_ | refine blk_alloc ?_ _));refine blk_put (cs := #[.int .i64 t369,.int .i64 t370,.string t371,.int .i64 t372,.string t373,.bool false]) ?_ 5 _ rfl;(with_reducible repeat (first | refine blk_drewN ?_ _ | refine blk_drew ?_ | refine blk_alloc ?_ _));refine blk_put (cs := #[.int .i64 t369,.int .i64 t370,.string t371,.int .i64 t372,.string (⟨#[]⟩ : ByteArray),.bool false]) ?_ 4 _ rfl;(with_reducible repeat (first | refine blk_drewN ?_ _ | refine blk_drew ?_ | refine blk_alloc ?_ _));refine blk_put (cs := #[.int .i64 t369,.int .i64 t370,.string t371,.int .i64 0,.string (⟨#[]⟩ : ByteArray),.bool false]) ?_ 3 _ rfl;(with_reducible repeat (first | refine blk_drewN ?_ _ | refine blk_drew ?_ | refine blk_alloc ?_ _));refine blk_put (cs := #[.int .i64 t369,.int .i64 t370,.string (⟨#[]⟩ : ByteArray),.int .i64 0,.string (⟨#[]⟩ : ByteArray),.bool false]) ?_ 2 _ rfl;(with_reducible repeat (first | refine blk_drewN ?_ _ | refine blk_drew ?_ | refine blk_alloc ?_ _));refine blk_put (cs := #[.int .i64 t369,.int .i64 0,.string (⟨#[]⟩ : ByteArray),.int .i64 0,.string (⟨#[]⟩ : ByteArray),.bool false]) ?_ 1 _ rfl;(with_reducible repeat (first | refine blk_drewN ?_ _ | refine blk_drew ?_ | refine blk_alloc ?_ _));refine blk_put (cs := #[.int .i64 0,.int .i64 0,.string (⟨#[]⟩ : ByteArray),.int .i64 0,.string (⟨#[]⟩ : ByteArray),.bool false]) ?_ 0 _ rfl;(with_reducible repeat (first | refine blk_drewN ?_ _ | refine blk_drew ?_ | refine blk_alloc ?_ _));exact BK360.out) Tryd.underlying30 rfl (by kernel_rfl)) rfl ?_
            exact ⟨by first | rfl | (simp [errW_none,errW_some] <;> rfl) | (simp only [← hji22,← hji23];first | rfl | (simp [errW_none,errW_some] <;> rfl)) | (simp [*,errW_none,errW_some] <;> rfl),by repeat (first | (with_reducible first | exact HB.out | apply below_alloc | apply pw_below_drewN | apply below_drew1 | refine below_set ?_ GE359.out | refine below_set ?_ GE360.out | refine below_set ?_ GE367.out | refine below_set ?_ GE368.out) | exact HB.out)⟩
           ·rw [if_neg c27] at H
            exact absurd H (by simp)
          ·rw [if_neg c26] at H
           exact absurd H (by simp)
         ·rw [if_neg c25] at H
          exact absurd H (by simp)
        ·rw [if_neg c24] at H
         exact absurd H (by simp)
      ·rw [if_neg c19] at H
       exact absurd H (by simp)
     ·rw [if_neg c18] at H
      exact absurd H (by simp)
    ·rw [if_neg c17] at H
     have c17b0 : decide (0 ≤ x6_1) = false := decide_eq_false c17
     clear c17
     obtain ⟨ji49,hji49⟩ : ∃ j_ : Int,(mx x5_1 1) = j_ := ⟨_,rfl⟩
     replace H : (if 0 ≤ (wrap64 ((ji49) - 1)) then (if (wrap64 ((ji49) - 1)) < (t361.length : Int) then (if 0 ≤ (ji49) then (if (ji49) < (t361.length : Int) then ((change_work_swap.f a0_0 a0_1 a0_2 a0_3 ((rd_T63 t361 (wrap64 ((ji49) - 1))).f0) ((rd_T63 t361 (wrap64 ((ji49) - 1))).f1) ((rd_T63 t361 (ji49)).f0) ((rd_T63 t361 (ji49)).f1)).bind fun bt380 => (some (bt380.1,bt380.2.1,bt380.2.2.1,bt380.2.2.2.1,bt380.2.2.2.2.1,bt380.2.2.2.2.2.1,bt380.2.2.2.2.2.2))) else (none)) else (none)) else (none)) else (none)) = some (r1,r2,r3,r4,r5,r6,r7) := by first | (rw [hji49] at H;exact H) | (simp only [hji49] at H ⊢;exact H)
     have hji49_ : (if x5_1 < 1 then 1 else x5_1) = ji49 := hji49
     obtain ⟨ji50,hji50⟩ : ∃ j_ : Int,(wrap64 ((ji49) - 1)) = j_ := ⟨_,rfl⟩
     replace H : (if 0 ≤ (ji50) then (if (ji50) < (t361.length : Int) then (if 0 ≤ (ji49) then (if (ji49) < (t361.length : Int) then ((change_work_swap.f a0_0 a0_1 a0_2 a0_3 ((rd_T63 t361 (ji50)).f0) ((rd_T63 t361 (ji50)).f1) ((rd_T63 t361 (ji49)).f0) ((rd_T63 t361 (ji49)).f1)).bind fun bt380 => (some (bt380.1,bt380.2.1,bt380.2.2.1,bt380.2.2.2.1,bt380.2.2.2.2.1,bt380.2.2.2.2.2.1,bt380.2.2.2.2.2.2))) else (none)) else (none)) else (none)) else (none)) = some (r1,r2,r3,r4,r5,r6,r7) := by first | (rw [hji50] at H;exact H) | (simp only [hji50] at H ⊢;exact H)
     have hji50w : (IntKind.i64.wrap ((ji49) - 1)) = ji50 := (i64_w _).trans hji50
     by_cases c51 : 0 ≤ (ji50)
     ·rw [if_pos c51] at H
      have c51b0 : decide (0 ≤ (ji50)) = true := decide_eq_true c51
      clear c51
      by_cases c52 : (ji50) < (t361.length : Int)
      ·rw [if_pos c52] at H
       have c52b0 : decide ((ji50) < (t361.length : Int)) = true := decide_eq_true c52
       clear c52
       by_cases c53 : 0 ≤ (ji49)
       ·rw [if_pos c53] at H
        have c53b0 : decide (0 ≤ (ji49)) = true := decide_eq_true c53
        clear c53
        by_cases c54 : (ji49) < (t361.length : Int)
        ·rw [if_pos c54] at H
         have c54b0 : decide ((ji49) < (t361.length : Int)) = true := decide_eq_true c54
         clear c54
         replace H := Option.bind_eq_some_iff.mp H
         obtain ⟨⟨t380,t381,t382,t383,t384,t385,t386⟩,A550,H⟩ := H
         replace H : (some (t380,t381,t382,t383,t384,t385,t386)) = some (r1,r2,r3,r4,r5,r6,r7) := H
         have A55 := Aside0.mk A550
         clear A550
         simp only [Option.some.injEq,Prod.mk.injEq] at H
         obtain ⟨rfl,rfl,rfl,rfl,rfl,rfl,rfl⟩ := H
         try go_wp2
         have n0_ := Aside0.mk (Kd.R_drew HO_4.out)
         have n1_ := Aside0.mk (blk_drew BK359.out)
         have n2_ := Aside0.mk (blk_drew BK360.out)
         have n3_ := Aside0.mk (below_drew1 HB.out)
         clear HO_4
         clear BK359
         clear BK360
         clear HB
         have HO_4 := n0_
         have BK359 := n1_
         have BK360 := n2_
         have HB := n3_
         clear n0_ n1_ n2_ n3_
         refine start_ (n := 12) (S := fun w' => True) (ds := []) #[false,false,false,false,false,false,false,false,false,false,false,false] (by kernel_rfl) rfl rfl trivial (fun hHeld => ?_);refine with_tabW change_work_transposeWords.tab6 change_work_transposeWords.bits6 (fun HT_ HW_ => ?_)
         generalize wr.drew = w56 at HO_4 BK359 BK360 HB hHeld ⊢
         refine pure_ (i := 0) (N := some 20) (v := ?_) (a' := ?_) #[true,false,false,false,false,false,false,false,false,false,false,false] rfl rfl (any_of HT_.out (by kernel_rfl)) (fun _ _ _ h => h) (Or.inl ⟨by rfl,?_⟩) ?_ ?_
         rotate_left
         ·intro w'
          go_simp
          with_reducible rfl
         rotate_left
         ·simp only [Act.put,List.setIfInBounds_toArray,List.set_cons_zero,List.set_cons_succ,i64_w,i32_w]
          rfl
         refine pure_ (i := 1) (N := some 21) (v := ?_) (a' := ?_) #[true,true,false,false,false,false,false,false,false,false,false,false] rfl rfl (any_of HT_.out (by kernel_rfl)) (fun _ _ _ h => h) (Or.inl ⟨by rfl,?_⟩) ?_ ?_
         rotate_left
         ·intro w'
          go_simp
          with_reducible rfl
         rotate_left
         ·simp only [Act.put,List.setIfInBounds_toArray,List.set_cons_zero,List.set_cons_succ,i64_w,i32_w]
          rfl
         refine pure_ (i := 2) (N := some 22) (v := ?_) (a' := ?_) #[true,true,true,false,false,false,false,false,false,false,false,false] rfl rfl (any_of HT_.out (by kernel_rfl)) (fun _ _ _ h => h) (Or.inl ⟨by rfl,?_⟩) ?_ ?_
         rotate_left
         ·intro w'
          go_simp
          with_reducible rfl
         rotate_left
         ·simp only [Act.put,List.setIfInBounds_toArray,List.set_cons_zero,List.set_cons_succ,i64_w,i32_w]
          rfl
         refine pure_ (i := 3) (N := some 23) (v := undef) (a' := ?_) #[true,true,true,true,false,false,false,false,false,false,false,false] rfl rfl (any_of HT_.out (by kernel_rfl)) (fun _ _ _ h => h) (Or.inr ⟨by rfl,rfl⟩) ?_ ?_
         rotate_left
         ·simp only [Act.put,List.setIfInBounds_toArray,List.set_cons_zero,List.set_cons_succ,i64_w,i32_w]
          rfl
         refine pure_ (i := 4) (N := some 24) (v := undef) (a' := ?_) #[true,true,true,true,true,false,false,false,false,false,false,false] rfl rfl (any_of HT_.out (by kernel_rfl)) (fun _ _ _ h => h) (Or.inr ⟨by rfl,rfl⟩) ?_ ?_
         rotate_left
         ·simp only [Act.put,List.setIfInBounds_toArray,List.set_cons_zero,List.set_cons_succ,i64_w,i32_w]
          rfl
         refine pure_ (i := 5) (N := some 25) (v := undef) (a' := ?_) #[true,true,true,true,true,true,false,false,false,false,false,false] rfl rfl (any_of HT_.out (by kernel_rfl)) (fun _ _ _ h => h) (Or.inr ⟨by rfl,rfl⟩) ?_ ?_
         rotate_left
         ·simp only [Act.put,List.setIfInBounds_toArray,List.set_cons_zero,List.set_cons_succ,i64_w,i32_w]
          rfl
         refine pure_ (i := 6) (N := some 26) (v := undef) (a' := ?_) #[true,true,true,true,true,true,true,false,false,false,false,false] rfl rfl (any_of HT_.out (by kernel_rfl)) (fun _ _ _ h => h) (Or.inr ⟨by rfl,rfl⟩) ?_ ?_
         rotate_left
         ·simp only [Act.put,List.setIfInBounds_toArray,List.set_cons_zero,List.set_cons_succ,i64_w,i32_w]
          rfl
         refine pure_ (i := 7) (N := some 27) (v := undef) (a' := ?_) #[true,true,true,true,true,true,true,true,false,false,false,false] rfl rfl (any_of HT_.out (by kernel_rfl)) (fun _ _ _ h => h) (Or.inr ⟨by rfl,rfl⟩) ?_ ?_
         rotate_left
         ·simp only [Act.put,List.setIfInBounds_toArray,List.set_cons_zero,List.set_cons_succ,i64_w,i32_w]
          rfl
         refine pure_ (i := 8) (N := some 28) (v := undef) (a' := ?_) #[true,true,true,true,true,true,true,true,true,false,false,false] rfl rfl (any_of HT_.out (by kernel_rfl)) (fun _ _ _ h => h) (Or.inr ⟨by rfl,rfl⟩) ?_ ?_
         rotate_left
         ·simp only [Act.put,List.setIfInBounds_toArray,List.set_cons_zero,List.set_cons_succ,i64_w,i32_w]
          rfl
         refine pure_ (i := 9) (N := some 29) (v := undef) (a' := ?_) #[true,true,true,true,true,true,true,true,true,true,false,false] rfl rfl (any_of HT_.out (by kernel_rfl)) (fun _ _ _ h => h) (Or.inr ⟨by rfl,rfl⟩) ?_ ?_
         rotate_left
         ·simp only [Act.put,List.setIfInBounds_toArray,List.set_cons_zero,List.set_cons_succ,i64_w,i32_w]
          rfl
         refine pure_ (i := 10) (N := some 30) (v := undef) (a' := ?_) #[true,true,true,true,true,true,true,true,true,true,true,false] rfl rfl (any_of HT_.out (by kernel_rfl)) (fun _ _ _ h => h) (Or.inr ⟨by rfl,rfl⟩) ?_ ?_
         rotate_left
         ·simp only [Act.put,List.setIfInBounds_toArray,List.set_cons_zero,List.set_cons_succ,i64_w,i32_w]
          rfl
         refine pure_ (i := 11) (N := some 31) (v := ?_) (a' := ?_) #[true,true,true,true,true,true,true,true,true,true,true,true] rfl rfl (any_of HT_.out (by kernel_rfl)) (fun _ _ _ h => h) (Or.inl ⟨by rfl,?_⟩) ?_ ?_
         rotate_left
         ·intro w'
          go_simp
          with_reducible rfl
         rotate_left
         ·simp only [Act.put,List.setIfInBounds_toArray,List.set_cons_zero,List.set_cons_succ,i64_w,i32_w]
          rfl
         refine done_ (done_of HT_.out (by kernel_rfl)) ?_
         try go_wp2
         have n0_ := Aside0.mk (Kd.R_drew HO_4.out)
         have n1_ := Aside0.mk (blk_drew BK359.out)
         have n2_ := Aside0.mk (blk_drew BK360.out)
         have n3_ := Aside0.mk (below_drew1 HB.out)
         clear HO_4
         clear BK359
         clear BK360
         clear HB
         have HO_4 := n0_
         have BK359 := n1_
         have BK360 := n2_
         have HB := n3_
         clear n0_ n1_ n2_ n3_
         have p376 : 0 ≤ ((ji50) : Int) := of_decide_eq_true au18
         have q376 : (ji50) < (t361.length : Int) := of_decide_eq_true au18
         obtain ⟨ad376,e376,hx376_0,hx376_1⟩ := at_T63 (Kd.R_reads' HO_4.out).2.2 (ji50) p376 q376
         cases e376
         replace p376 := eq_true p376
         replace q376 := eq_true q376
         have p377 : 0 ≤ ((ji49) : Int) := of_decide_eq_true au18
         have q377 : (ji49) < (t361.length : Int) := of_decide_eq_true au18
         obtain ⟨ad377,e377,hx377_0,hx377_1⟩ := at_T63 (Kd.R_reads' HO_4.out).2.2 (ji49) p377 q377
         obtain rfl : ad376 = ad377 := (by injection e377)
         replace p377 := eq_true p377
         replace q377 := eq_true q377
         refine start_ (n := 13) (S := fun w' => w'.cell? (ad376.add (((ji50)).toNat * 2)) = some (.int .i64 ((rd_T63 t361 (ji50)).f0)) ∧ w'.cell? ⟨(ad376.add (((ji50)).toNat * 2)).block,(ad376.add (((ji50)).toNat * 2)).off + 1,none⟩ = some (.int .i64 ((rd_T63 t361 (ji50)).f1)) ∧ w'.cell? (ad376.add (((ji49)).toNat * 2)) = some (.int .i64 ((rd_T63 t361 (ji49)).f0)) ∧ w'.cell? ⟨(ad376.add (((ji49)).toNat * 2)).block,(ad376.add (((ji49)).toNat * 2)).off + 1,none⟩ = some (.int .i64 ((rd_T63 t361 (ji49)).f1))) (ds := []) #[false,false,false,false,false,false,false,false,false,false,false,false,false] (by kernel_rfl) rfl rfl ⟨hx376_0,hx376_1,hx377_0,hx377_1⟩ (fun hHeld => ?_);refine with_tabW change_work_transposeWords.tab10 change_work_transposeWords.bits10 (fun HT_ HW_ => ?_)
         generalize w56.drew = w57 at HO_4 BK359 BK360 HB hx376_0 hx376_1 hx377_0 hx377_1 hHeld ⊢
         refine pure_ (i := 0) (N := some 37) (v := ?_) (a' := ?_) #[true,false,false,false,false,false,false,false,false,false,false,false,false] rfl rfl (any_of HT_.out (by kernel_rfl)) (fun _ _ _ h => h) (Or.inl ⟨by rfl,?_⟩) ?_ ?_
         rotate_left
         ·intro w'
          go_simp
          with_reducible rfl
         rotate_left
         ·simp only [Act.put,List.setIfInBounds_toArray,List.set_cons_zero,List.set_cons_succ,i64_w,i32_w]
          rfl
         refine pure_ (i := 1) (N := some 38) (v := ?_) (a' := ?_) #[true,true,false,false,false,false,false,false,false,false,false,false,false] rfl rfl (any_of HT_.out (by kernel_rfl)) (fun _ _ _ h => h) (Or.inl ⟨by rfl,?_⟩) ?_ ?_
         rotate_left
         ·intro w'
          go_simp
          with_reducible rfl
         rotate_left
         ·simp only [Act.put,List.setIfInBounds_toArray,List.set_cons_zero,List.set_cons_succ,i64_w,i32_w]
          rfl
         refine pure_ (i := 2) (N := some 39) (v := ?_) (a' := ?_) #[true,true,true,false,false,false,false,false,false,false,false,false,false] rfl rfl (any_of HT_.out (by kernel_rfl)) (fun _ _ _ h => h) (Or.inl ⟨by rfl,?_⟩) ?_ ?_
         rotate_left
         ·intro w'
          go_simp
          with_reducible rfl
         rotate_left
         ·simp only [Act.put,List.setIfInBounds_toArray,List.set_cons_zero,List.set_cons_succ,i64_w,i32_w]
          rfl
         refine pure_ (i := 3) (N := some 40) (v := ?_) (a' := ?_) #[true,true,true,true,false,false,false,false,false,false,false,false,false] rfl rfl (any_of HT_.out (by kernel_rfl)) (fun _ _ _ h => h) (Or.inl ⟨by rfl,?_⟩) ?_ ?_
         rotate_left
         ·intro w'
          go_simp
          with_reducible rfl
         rotate_left
         ·simp only [Act.put,List.setIfInBounds_toArray,List.set_cons_zero,List.set_cons_succ,i64_w,i32_w]
          rfl
         refine pure_ (i := 5) (N := some 42) (v := ?_) (a' := ?_) #[true,true,true,true,false,true,false,false,false,false,false,false,false] rfl rfl (any_of HT_.out (by kernel_rfl)) (fun _ _ _ h => h) (Or.inl ⟨by rfl,?_⟩) ?_ ?_
         rotate_left
         ·intro w'
          go_simp
          with_reducible rfl
         rotate_left
         ·simp only [Act.put,List.setIfInBounds_toArray,List.set_cons_zero,List.set_cons_succ,i64_w,i32_w]
          rfl
         refine pure_ (i := 6) (N := some 43) (v := ?_) (a' := ?_) #[true,true,true,true,false,true,true,false,false,false,false,false,false] rfl rfl (any_of HT_.out (by kernel_rfl)) (fun _ _ _ h => h) (Or.inl ⟨by rfl,?_⟩) ?_ ?_
         rotate_left
         ·intro w'
          go_simp
          with_reducible rfl
         rotate_left
         ·simp only [Act.put,List.setIfInBounds_toArray,List.set_cons_zero,List.set_cons_succ,i64_w,i32_w]
          rfl
         refine pure_ (i := 7) (N := some 44) (v := ?_) (a' := ?_) #[true,true,true,true,false,true,true,true,false,false,false,false,false] rfl rfl (any_of HT_.out (by kernel_rfl)) (fun _ _ _ h => h) (Or.inl ⟨by rfl,?_⟩) ?_ ?_
         rotate_left
         ·intro w'
          go_simp
          with_reducible rfl
         rotate_left
         ·simp only [Act.put,List.setIfInBounds_toArray,List.set_cons_zero,List.set_cons_succ,i64_w,i32_w]
          rfl
         refine take_ (i := 4) (N := some 41) (v := ?_) (a' := ?_) #[true,true,true,true,true,true,true,true,false,false,false,false,false] rfl rfl (take_ofW HT_.out HW_.out (by kernel_rfl)) (fun _ _ _ h => h) (Or.inl ⟨by rfl,?_⟩) hHeld ?_ ?_
         rotate_left
         ·rintro w' ⟨s0,s1,s2,s3⟩
          go_simp
          with_reducible rfl
         rotate_left
         ·simp only [Act.put,List.setIfInBounds_toArray,List.set_cons_zero,List.set_cons_succ,i64_w,i32_w]
          rfl
         refine take_ (i := 8) (N := some 45) (v := ?_) (a' := ?_) #[true,true,true,true,true,true,true,true,true,false,false,false,false] rfl rfl (take_ofW HT_.out HW_.out (by kernel_rfl)) (fun _ _ _ h => h) (Or.inl ⟨by rfl,?_⟩) hHeld ?_ ?_
         rotate_left
         ·rintro w' ⟨s0,s1,s2,s3⟩
          go_simp
          with_reducible rfl
         rotate_left
         ·simp only [Act.put,List.setIfInBounds_toArray,List.set_cons_zero,List.set_cons_succ,i64_w,i32_w]
          rfl
         refine join_ (σ := Nat × Nat) 2 #[true,true,true,true,true,true,true,true,true,true,true,false,false] (fun s_ => [(7,.pointer (some ⟨s_.1,0,none⟩)),(8,.pointer (some ⟨s_.2,0,none⟩))]) (fun s_ w' => (w'.cell? (ad376.add (((ji50)).toNat * 2)) = some (.int .i64 ((rd_T63 t361 (ji50)).f0)) ∧ w'.cell? ⟨(ad376.add (((ji50)).toNat * 2)).block,(ad376.add (((ji50)).toNat * 2)).off + 1,none⟩ = some (.int .i64 ((rd_T63 t361 (ji50)).f1)) ∧ w'.cell? (ad376.add (((ji49)).toNat * 2)) = some (.int .i64 ((rd_T63 t361 (ji49)).f0)) ∧ w'.cell? ⟨(ad376.add (((ji49)).toNat * 2)).block,(ad376.add (((ji49)).toNat * 2)).off + 1,none⟩ = some (.int .i64 ((rd_T63 t361 (ji49)).f1))) ∧ (Kd.R k63 63 w' w.heap.size (fun k_ => k_ ≠ s_.1 ∧ k_ ≠ s_.2) (.slice (some ad376) t361.length co16) t361) ∧ (w'.heap[gb359]? = some (.cells #[.string a0_0,.int .i64 a0_1,.int .i64 a0_2,.int .i64 a0_3] 52 (0,0))) ∧ (w'.heap[gb360]? = some (.cells #[.int .i64 0,.int .i64 0,.string (⟨#[]⟩ : ByteArray),.int .i64 0,.string (⟨#[]⟩ : ByteArray),.bool false] 30 (0,0))) ∧ (w'.heap[s_.1]? = some (.cells #[.int .i64 0,.int .i64 0] 63 (0,0))) ∧ (w'.heap[s_.2]? = some (.cells #[.int .i64 0,.int .i64 0] 63 (0,0))) ∧ (w.heap.size ≤ s_.1) ∧ (w.heap.size ≤ s_.1) ∧ (gb359 ≠ s_.1) ∧ (s_.1 ≠ gb359) ∧ (gb360 ≠ s_.1) ∧ (s_.1 ≠ gb360) ∧ (s_.2 ≠ s_.1) ∧ (s_.1 ≠ s_.2) ∧ (w.heap.size ≤ s_.2) ∧ (w.heap.size ≤ s_.2) ∧ (gb359 ≠ s_.2) ∧ (s_.2 ≠ gb359) ∧ (gb360 ≠ s_.2) ∧ (s_.2 ≠ gb360) ∧ (Below w.heap.size w w')) ?_ ?_
         rotate_left
         ·intro hCont
          refine two_ (i := 9) (j := 10) (Ni := some 7) (Nj := some 8) #[true,true,true,true,true,true,true,true,true,true,false,false,false] #[true,true,true,true,true,true,true,true,true,false,true,false,false] rfl rfl rfl rfl (two_of HT_.out (by kernel_rfl)) (by decide) (by decide) (fun K hK => ?_) (fun K hK => ?_)
          ·skip
           refine box_step ?hg (N := 7) ?hd (cs := #[.int .i64 0,.int .i64 0]) (t := 63) ?hr ?_;(case hd => rfl);(case hg => rfl);(case hr => first | (go_simp;done) | (go_simp;rfl))
           intro gb378 hg w58 hbox hb
           have HS0_ := (hb.cell (World.block_lt_of_cell? _ _ (hHeld.1))).trans (hHeld.1)
           have HS1_ := (hb.cell (World.block_lt_of_cell? _ _ (hHeld.2.1))).trans (hHeld.2.1)
           have HS2_ := (hb.cell (World.block_lt_of_cell? _ _ (hHeld.2.2.1))).trans (hHeld.2.2.1)
           have HS3_ := (hb.cell (World.block_lt_of_cell? _ _ (hHeld.2.2.2))).trans (hHeld.2.2.2)
           have n0_ := Aside0.mk (Kd.R_below (Kd.R_elderB (by (with_reducible repeat (first | apply Kd.R_alloc | apply Kd.R_drewN | apply Kd.R_drew));exact HO_4.out) gb378 (Nat.le_of_eq hg.symm)) hb)
           have n1_ := Aside0.mk (blk_below (g := gb359) (o := .cells #[.string a0_0,.int .i64 a0_1,.int .i64 a0_2,.int .i64 a0_3] 52 (0,0)) au5 hb)
           have n2_ := Aside0.mk (blk_below (g := gb360) (o := .cells #[.int .i64 0,.int .i64 0,.string (⟨#[]⟩ : ByteArray),.int .i64 0,.string (⟨#[]⟩ : ByteArray),.bool false] 30 (0,0)) au6 hb)
           have n3_ := Aside0.mk (below_step au7 hb)
           have n4_ := Aside0.mk (hbox)
           have n5_ := Aside0.mk ((by rw [hg];exact (below_size au7) : w.heap.size ≤ gb378))
           have n6_ := Aside0.mk ((by rw [hg];exact (below_size au7) : w.heap.size ≤ gb378))
           have n7_ := Aside0.mk ((by rw [hg];exact Nat.ne_of_lt (blk_lt (g := gb359) (o := .cells #[.string a0_0,.int .i64 a0_1,.int .i64 a0_2,.int .i64 a0_3] 52 (0,0)) au5) : gb359 ≠ gb378))
           have n8_ := Aside0.mk ((by rw [hg];exact Nat.ne_of_gt (blk_lt (g := gb359) (o := .cells #[.string a0_0,.int .i64 a0_1,.int .i64 a0_2,.int .i64 a0_3] 52 (0,0)) au5) : gb378 ≠ gb359))
           have n9_ := Aside0.mk ((by rw [hg];exact Nat.ne_of_lt (blk_lt (g := gb360) (o := .cells #[.int .i64 0,.int .i64 0,.string (⟨#[]⟩ : ByteArray),.int .i64 0,.string (⟨#[]⟩ : ByteArray),.bool false] 30 (0,0)) au6) : gb360 ≠ gb378))
           have n10_ := Aside0.mk ((by rw [hg];exact Nat.ne_of_gt (blk_lt (g := gb360) (o := .cells #[.int .i64 0,.int .i64 0,.string (⟨#[]⟩ : ByteArray),.int .i64 0,.string (⟨#[]⟩ : ByteArray),.bool false] 30 (0,0)) au6) : gb378 ≠ gb360))
           clear HO_4
           clear BK359
           clear BK360
           clear HB
           have HO_4 := n0_
           have BK359 := n1_
           have BK360 := n2_
           have HB := n3_
           have BK378 := n4_
           have GW378 := n5_
           have GE378 := n6_
           have NB359_378 := n7_
           have NB378_359 := n8_
           have NB360_378 := n9_
           have NB378_360 := n10_
           clear n0_ n1_ n2_ n3_ n4_ n5_ n6_ n7_ n8_ n9_ n10_
           clear hb hbox hg
           refine hK.out _ _ ⟨HS0_,HS1_,HS2_,HS3_⟩ (fun hHeld => ?_)
           clear hK K
           refine norm_ (a' := ?_) ?_ ?_
           rotate_left
           ·show Act.put _ (some 7) _ = _
            simp only [Act.put,List.setIfInBounds_toArray,List.set_cons_zero,List.set_cons_succ,i64_w,i32_w]
            rfl
           refine one_ (i := 10) (N := some 8) #[true,true,true,true,true,true,true,true,true,true,true,false,false] rfl rfl (one_of HT_.out (by kernel_rfl)) (by decide) (fun K hK => ?_)
           refine box_step ?hg (N := 8) ?hd (cs := #[.int .i64 0,.int .i64 0]) (t := 63) ?hr ?_;(case hd => rfl);(case hg => rfl);(case hr => first | (go_simp;done) | (go_simp;rfl))
           intro gb379 hg w59 hbox hb
           have HS0_ := (hb.cell (World.block_lt_of_cell? _ _ (hHeld.1))).trans (hHeld.1)
           have HS1_ := (hb.cell (World.block_lt_of_cell? _ _ (hHeld.2.1))).trans (hHeld.2.1)
           have HS2_ := (hb.cell (World.block_lt_of_cell? _ _ (hHeld.2.2.1))).trans (hHeld.2.2.1)
           have HS3_ := (hb.cell (World.block_lt_of_cell? _ _ (hHeld.2.2.2))).trans (hHeld.2.2.2)
           have n0_ := Aside0.mk (Kd.R_below (Kd.R_elderB (by (with_reducible repeat (first | apply Kd.R_alloc | apply Kd.R_drewN | apply Kd.R_drew));exact HO_4.out) gb379 (Nat.le_of_eq hg.symm)) hb)
           have n1_ := Aside0.mk (blk_below (g := gb359) (o := .cells #[.string a0_0,.int .i64 a0_1,.int .i64 a0_2,.int .i64 a0_3] 52 (0,0)) au5 hb)
           have n2_ := Aside0.mk (blk_below (g := gb360) (o := .cells #[.int .i64 0,.int .i64 0,.string (⟨#[]⟩ : ByteArray),.int .i64 0,.string (⟨#[]⟩ : ByteArray),.bool false] 30 (0,0)) au6 hb)
           have n3_ := Aside0.mk (blk_below (g := gb378) (o := .cells #[.int .i64 0,.int .i64 0] 63 (0,0)) (by (with_reducible repeat (first | refine blk_drewN ?_ _ | refine blk_drew ?_ | refine blk_alloc ?_ _));exact BK378.out) hb)
           have n4_ := Aside0.mk (below_step (by repeat (first | (with_reducible first | exact HB.out | apply below_alloc | apply pw_below_drewN | apply below_drew1 | refine below_set ?_ GE359.out | refine below_set ?_ GE360.out | refine below_set ?_ GE378.out) | exact HB.out)) hb)
           have n5_ := Aside0.mk (hbox)
           have n6_ := Aside0.mk ((by rw [hg];exact (below_size (by repeat (first | (with_reducible first | exact HB.out | apply below_alloc | apply pw_below_drewN | apply below_drew1 | refine below_set ?_ GE359.out | refine below_set ?_ GE360.out | refine below_set ?_ GE378.out) | exact HB.out))) : w.heap.size ≤ gb379))
           have n7_ := Aside0.mk ((by rw [hg];exact (below_size (by repeat (first | (with_reducible first | exact HB.out | apply below_alloc | apply pw_below_drewN | apply below_drew1 | refine below_set ?_ GE359.out | refine below_set ?_ GE360.out | refine below_set ?_ GE378.out) | exact HB.out))) : w.heap.size ≤ gb379))
           have n8_ := Aside0.mk ((by rw [hg];exact Nat.ne_of_lt (blk_lt (g := gb359) (o := .cells #[.string a0_0,.int .i64 a0_1,.int .i64 a0_2,.int .i64 a0_3] 52 (0,0)) au5) : gb359 ≠ gb379))
           have n9_ := Aside0.mk ((by rw [hg];exact Nat.ne_of_gt (blk_lt (g := gb359) (o := .cells #[.string a0_0,.int .i64 a0_1,.int .i64 a0_2,.int .i64 a0_3] 52 (0,0)) au5) : gb379 ≠ gb359))
           have n10_ := Aside0.mk ((by rw [hg];exact Nat.ne_of_lt (blk_lt (g := gb360) (o := .cells #[.int .i64 0,.int .i64 0,.string (⟨#[]⟩ : ByteArray),.int .i64 0,.string (⟨#[]⟩ : ByteArray),.bool false] 30 (0,0)) au6) : gb360 ≠ gb379))
           have n11_ := Aside0.mk ((by rw [hg];exact Nat.ne_of_gt (blk_lt (g := gb360) (o := .cells #[.int .i64 0,.int .i64 0,.string (⟨#[]⟩ : ByteArray),.int .i64 0,.string (⟨#[]⟩ : ByteArray),.bool false] 30 (0,0)) au6) : gb379 ≠ gb360))
           have n12_ := Aside0.mk ((by rw [hg];exact Nat.ne_of_lt (blk_lt (g := gb378) (o := .cells #[.int .i64 0,.int .i64 0] 63 (0,0)) (by (with_reducible repeat (first | refine blk_drewN ?_ _ | refine blk_drew ?_ | refine blk_alloc ?_ _));exact BK378.out)) : gb378 ≠ gb379))
           have n13_ := Aside0.mk ((by rw [hg];exact Nat.ne_of_gt (blk_lt (g := gb378) (o := .cells #[.int .i64 0,.int .i64 0] 63 (0,0)) (by (with_reducible repeat (first | refine blk_drewN ?_ _ | refine blk_drew ?_ | refine blk_alloc ?_ _));exact BK378.out)) : gb379 ≠ gb378))
           clear HO_4
           clear BK359
           clear BK360
           clear BK378
           clear HB
           have HO_4 := n0_
           have BK359 := n1_
           have BK360 := n2_
           have BK378 := n3_
           have HB := n4_
           have BK379 := n5_
           have GW379 := n6_
           have GE379 := n7_
           have NB359_379 := n8_
           have NB379_359 := n9_
           have NB360_379 := n10_
           have NB379_360 := n11_
           have NB378_379 := n12_
           have NB379_378 := n13_
           clear n0_ n1_ n2_ n3_ n4_ n5_ n6_ n7_ n8_ n9_ n10_ n11_ n12_ n13_
           clear hb hbox hg
           refine hK.out _ _ ⟨HS0_,HS1_,HS2_,HS3_⟩ (fun hHeld => ?_)
           clear hK K
           refine norm_ (a' := ?_) ?_ ?_
           rotate_left
           ·show Act.put _ (some 8) _ = _
            simp only [Act.put,List.setIfInBounds_toArray,List.set_cons_zero,List.set_cons_succ,i64_w,i32_w]
            rfl
           exact norm_ au39 (hCont (gb378,gb379) _ ⟨hHeld,(by (with_reducible repeat (first | apply Kd.R_alloc | apply Kd.R_drewN | apply Kd.R_drew));exact Kd.R_mono HO_4.out (fun _ hk => ⟨hk.1.2,hk.2⟩)),au5,au6,(by (with_reducible repeat (first | refine blk_drewN ?_ _ | refine blk_drew ?_ | refine blk_alloc ?_ _));exact BK378.out),(by (with_reducible repeat (first | refine blk_drewN ?_ _ | refine blk_drew ?_ | refine blk_alloc ?_ _));exact BK379.out),GW378.out,GE378.out,NB359_378.out,NB378_359.out,NB360_378.out,NB378_360.out,NB379_378.out,NB378_379.out,GW379.out,GE379.out,NB359_379.out,NB379_359.out,NB360_379.out,NB379_360.out,(by repeat (first | (with_reducible first | exact HB.out | apply below_alloc | apply pw_below_drewN | apply below_drew1 | refine below_set ?_ GE359.out | refine below_set ?_ GE360.out | refine below_set ?_ GE378.out | refine below_set ?_ GE379.out) | exact HB.out))⟩)
          ·skip
           refine box_step ?hg (N := 8) ?hd (cs := #[.int .i64 0,.int .i64 0]) (t := 63) ?hr ?_;(case hd => rfl);(case hg => rfl);(case hr => first | (go_simp;done) | (go_simp;rfl))
           intro gb379 hg w58 hbox hb
           have HS0_ := (hb.cell (World.block_lt_of_cell? _ _ (hHeld.1))).trans (hHeld.1)
           have HS1_ := (hb.cell (World.block_lt_of_cell? _ _ (hHeld.2.1))).trans (hHeld.2.1)
           have HS2_ := (hb.cell (World.block_lt_of_cell? _ _ (hHeld.2.2.1))).trans (hHeld.2.2.1)
           have HS3_ := (hb.cell (World.block_lt_of_cell? _ _ (hHeld.2.2.2))).trans (hHeld.2.2.2)
           have n0_ := Aside0.mk (Kd.R_below (Kd.R_elderB (by (with_reducible repeat (first | apply Kd.R_alloc | apply Kd.R_drewN | apply Kd.R_drew));exact HO_4.out) gb379 (Nat.le_of_eq hg.symm)) hb)
           have n1_ := Aside0.mk (blk_below (g := gb359) (o := .cells #[.string a0_0,.int .i64 a0_1,.int .i64 a0_2,.int .i64 a0_3] 52 (0,0)) au5 hb)
           have n2_ := Aside0.mk (blk_below (g := gb360) (o := .cells #[.int .i64 0,.int .i64 0,.string (⟨#[]⟩ : ByteArray),.int .i64 0,.string (⟨#[]⟩ : ByteArray),.bool false] 30 (0,0)) au6 hb)
           have n3_ := Aside0.mk (below_step au7 hb)
           have n4_ := Aside0.mk (hbox)
           have n5_ := Aside0.mk ((by rw [hg];exact (below_size au7) : w.heap.size ≤ gb379))
           have n6_ := Aside0.mk ((by rw [hg];exact (below_size au7) : w.heap.size ≤ gb379))
           have n7_ := Aside0.mk ((by rw [hg];exact Nat.ne_of_lt (blk_lt (g := gb359) (o := .cells #[.string a0_0,.int .i64 a0_1,.int .i64 a0_2,.int .i64 a0_3] 52 (0,0)) au5) : gb359 ≠ gb379))
           have n8_ := Aside0.mk ((by rw [hg];exact Nat.ne_of_gt (blk_lt (g := gb359) (o := .cells #[.string a0_0,.int .i64 a0_1,.int .i64 a0_2,.int .i64 a0_3] 52 (0,0)) au5) : gb379 ≠ gb359))
           have n9_ := Aside0.mk ((by rw [hg];exact Nat.ne_of_lt (blk_lt (g := gb360) (o := .cells #[.int .i64 0,.int .i64 0,.string (⟨#[]⟩ : ByteArray),.int .i64 0,.string (⟨#[]⟩ : ByteArray),.bool false] 30 (0,0)) au6) : gb360 ≠ gb379))
           have n10_ := Aside0.mk ((by rw [hg];exact Nat.ne_of_gt (blk_lt (g := gb360) (o := .cells #[.int .i64 0,.int .i64 0,.string (⟨#[]⟩ : ByteArray),.int .i64 0,.string (⟨#[]⟩ : ByteArray),.bool false] 30 (0,0)) au6) : gb379 ≠ gb360))
           clear HO_4
           clear BK359
           clear BK360
           clear HB
           have HO_4 := n0_
           have BK359 := n1_
           have BK360 := n2_
           have HB := n3_
           have BK379 := n4_
           have GW379 := n5_
           have GE379 := n6_
           have NB359_379 := n7_
           have NB379_359 := n8_
           have NB360_379 := n9_
           have NB379_360 := n10_
           clear n0_ n1_ n2_ n3_ n4_ n5_ n6_ n7_ n8_ n9_ n10_
           clear hb hbox hg
           refine hK.out _ _ ⟨HS0_,HS1_,HS2_,HS3_⟩ (fun hHeld => ?_)
           clear hK K
           refine norm_ (a' := ?_) ?_ ?_
           rotate_left
           ·show Act.put _ (some 8) _ = _
            simp only [Act.put,List.setIfInBounds_toArray,List.set_cons_zero,List.set_cons_succ,i64_w,i32_w]
            rfl
           refine one_ (i := 9) (N := some 7) #[true,true,true,true,true,true,true,true,true,true,true,false,false] rfl rfl (one_of HT_.out (by kernel_rfl)) (by decide) (fun K hK => ?_)
           refine box_step ?hg (N := 7) ?hd (cs := #[.int .i64 0,.int .i64 0]) (t := 63) ?hr ?_;(case hd => rfl);(case hg => rfl);(case hr => first | (go_simp;done) | (go_simp;rfl))
           intro gb378 hg w59 hbox hb
           have HS0_ := (hb.cell (World.block_lt_of_cell? _ _ (hHeld.1))).trans (hHeld.1)
           have HS1_ := (hb.cell (World.block_lt_of_cell? _ _ (hHeld.2.1))).trans (hHeld.2.1)
           have HS2_ := (hb.cell (World.block_lt_of_cell? _ _ (hHeld.2.2.1))).trans (hHeld.2.2.1)
           have HS3_ := (hb.cell (World.block_lt_of_cell? _ _ (hHeld.2.2.2))).trans (hHeld.2.2.2)
           have n0_ := Aside0.mk (Kd.R_below (Kd.R_elderB (by (with_reducible repeat (first | apply Kd.R_alloc | apply Kd.R_drewN | apply Kd.R_drew));exact HO_4.out) gb378 (Nat.le_of_eq hg.symm)) hb)
           have n1_ := Aside0.mk (blk_below (g := gb359) (o := .cells #[.string a0_0,.int .i64 a0_1,.int .i64 a0_2,.int .i64 a0_3] 52 (0,0)) au5 hb)
           have n2_ := Aside0.mk (blk_below (g := gb360) (o := .cells #[.int .i64 0,.int .i64 0,.string (⟨#[]⟩ : ByteArray),.int .i64 0,.string (⟨#[]⟩ : ByteArray),.bool false] 30 (0,0)) au6 hb)
           have n3_ := Aside0.mk (blk_below (g := gb379) (o := .cells #[.int .i64 0,.int .i64 0] 63 (0,0)) (by (with_reducible repeat (first | refine blk_drewN ?_ _ | refine blk_drew ?_ | refine blk_alloc ?_ _));exact BK379.out) hb)
           have n4_ := Aside0.mk (below_step (by repeat (first | (with_reducible first | exact HB.out | apply below_alloc | apply pw_below_drewN | apply below_drew1 | refine below_set ?_ GE359.out | refine below_set ?_ GE360.out | refine below_set ?_ GE379.out) | exact HB.out)) hb)
           have n5_ := Aside0.mk (hbox)
           have n6_ := Aside0.mk ((by rw [hg];exact (below_size (by repeat (first | (with_reducible first | exact HB.out | apply below_alloc | apply pw_below_drewN | apply below_drew1 | refine below_set ?_ GE359.out | refine below_set ?_ GE360.out | refine below_set ?_ GE379.out) | exact HB.out))) : w.heap.size ≤ gb378))
           have n7_ := Aside0.mk ((by rw [hg];exact (below_size (by repeat (first | (with_reducible first | exact HB.out | apply below_alloc | apply pw_below_drewN | apply below_drew1 | refine below_set ?_ GE359.out | refine below_set ?_ GE360.out | refine below_set ?_ GE379.out) | exact HB.out))) : w.heap.size ≤ gb378))
           have n8_ := Aside0.mk ((by rw [hg];exact Nat.ne_of_lt (blk_lt (g := gb359) (o := .cells #[.string a0_0,.int .i64 a0_1,.int .i64 a0_2,.int .i64 a0_3] 52 (0,0)) au5) : gb359 ≠ gb378))
           have n9_ := Aside0.mk ((by rw [hg];exact Nat.ne_of_gt (blk_lt (g := gb359) (o := .cells #[.string a0_0,.int .i64 a0_1,.int .i64 a0_2,.int .i64 a0_3] 52 (0,0)) au5) : gb378 ≠ gb359))
           have n10_ := Aside0.mk ((by rw [hg];exact Nat.ne_of_lt (blk_lt (g := gb360) (o := .cells #[.int .i64 0,.int .i64 0,.string (⟨#[]⟩ : ByteArray),.int .i64 0,.string (⟨#[]⟩ : ByteArray),.bool false] 30 (0,0)) au6) : gb360 ≠ gb378))
           have n11_ := Aside0.mk ((by rw [hg];exact Nat.ne_of_gt (blk_lt (g := gb360) (o := .cells #[.int .i64 0,.int .i64 0,.string (⟨#[]⟩ : ByteArray),.int .i64 0,.string (⟨#[]⟩ : ByteArray),.bool false] 30 (0,0)) au6) : gb378 ≠ gb360))
           have n12_ := Aside0.mk ((by rw [hg];exact Nat.ne_of_lt (blk_lt (g := gb379) (o := .cells #[.int .i64 0,.int .i64 0] 63 (0,0)) (by (with_reducible repeat (first | refine blk_drewN ?_ _ | refine blk_drew ?_ | refine blk_alloc ?_ _));exact BK379.out)) : gb379 ≠ gb378))
           have n13_ := Aside0.mk ((by rw [hg];exact Nat.ne_of_gt (blk_lt (g := gb379) (o := .cells #[.int .i64 0,.int .i64 0] 63 (0,0)) (by (with_reducible repeat (first | refine blk_drewN ?_ _ | refine blk_drew ?_ | refine blk_alloc ?_ _));exact BK379.out)) : gb378 ≠ gb379))
           clear HO_4
           clear BK359
           clear BK360
           clear BK379
           clear HB
           have HO_4 := n0_
           have BK359 := n1_
           have BK360 := n2_
           have BK379 := n3_
           have HB := n4_
           have BK378 := n5_
           have GW378 := n6_
           have GE378 := n7_
           have NB359_378 := n8_
           have NB378_359 := n9_
           have NB360_378 := n10_
           have NB378_360 := n11_
           have NB379_378 := n12_
           have NB378_379 := n13_
           clear n0_ n1_ n2_ n3_ n4_ n5_ n6_ n7_ n8_ n9_ n10_ n11_ n12_ n13_
           clear hb hbox hg
           refine hK.out _ _ ⟨HS0_,HS1_,HS2_,HS3_⟩ (fun hHeld => ?_)
           clear hK K
           refine norm_ (a' := ?_) ?_ ?_
           rotate_left
           ·show Act.put _ (some 7) _ = _
            simp only [Act.put,List.setIfInBounds_toArray,List.set_cons_zero,List.set_cons_succ,i64_w,i32_w]
            rfl
           exact norm_ au39 (hCont (gb378,gb379) _ ⟨hHeld,(by (with_reducible repeat (first | apply Kd.R_alloc | apply Kd.R_drewN | apply Kd.R_drew));exact Kd.R_mono HO_4.out (fun _ hk => ⟨hk.2,hk.1.2⟩)),au5,au6,(by (with_reducible repeat (first | refine blk_drewN ?_ _ | refine blk_drew ?_ | refine blk_alloc ?_ _));exact BK378.out),(by (with_reducible repeat (first | refine blk_drewN ?_ _ | refine blk_drew ?_ | refine blk_alloc ?_ _));exact BK379.out),GW378.out,GE378.out,NB359_378.out,NB378_359.out,NB360_378.out,NB378_360.out,NB379_378.out,NB378_379.out,GW379.out,GE379.out,NB359_379.out,NB379_359.out,NB360_379.out,NB379_360.out,(by repeat (first | (with_reducible first | exact HB.out | apply below_alloc | apply pw_below_drewN | apply below_drew1 | refine below_set ?_ GE359.out | refine below_set ?_ GE360.out | refine below_set ?_ GE379.out | refine below_set ?_ GE378.out) | exact HB.out))⟩)
         rintro ⟨gb378,gb379⟩ w60 ⟨hS_,h0_,h1_,h2_,h3_,h4_,h5_,h6_,h7_,h8_,h9_,h10_,h11_,h12_,h13_,h14_,h15_,h16_,h17_,h18_,h19_⟩
         have n0_ : Aside0 (Kd.R k63 63 w60 w.heap.size (fun k_ => k_ ≠ gb378 ∧ k_ ≠ gb379) (.slice (some ad376) t361.length co16) t361) := ⟨h0_⟩
         have n1_ : Aside0 (w60.heap[gb359]? = some (.cells #[.string a0_0,.int .i64 a0_1,.int .i64 a0_2,.int .i64 a0_3] 52 (0,0))) := ⟨h1_⟩
         have n2_ : Aside0 (w60.heap[gb360]? = some (.cells #[.int .i64 0,.int .i64 0,.string (⟨#[]⟩ : ByteArray),.int .i64 0,.string (⟨#[]⟩ : ByteArray),.bool false] 30 (0,0))) := ⟨h2_⟩
         have n3_ : Aside0 (w60.heap[gb378]? = some (.cells #[.int .i64 0,.int .i64 0] 63 (0,0))) := ⟨h3_⟩
         have n4_ : Aside0 (w60.heap[gb379]? = some (.cells #[.int .i64 0,.int .i64 0] 63 (0,0))) := ⟨h4_⟩
         have n5_ : Aside0 (w.heap.size ≤ gb378) := ⟨h5_⟩
         have n6_ : Aside0 (w.heap.size ≤ gb378) := ⟨h6_⟩
         have n7_ : Aside0 (gb359 ≠ gb378) := ⟨h7_⟩
         have n8_ : Aside0 (gb378 ≠ gb359) := ⟨h8_⟩
         have n9_ : Aside0 (gb360 ≠ gb378) := ⟨h9_⟩
         have n10_ : Aside0 (gb378 ≠ gb360) := ⟨h10_⟩
         have n11_ : Aside0 (gb379 ≠ gb378) := ⟨h11_⟩
         have n12_ : Aside0 (gb378 ≠ gb379) := ⟨h12_⟩
         have n13_ : Aside0 (w.heap.size ≤ gb379) := ⟨h13_⟩
         have n14_ : Aside0 (w.heap.size ≤ gb379) := ⟨h14_⟩
         have n15_ : Aside0 (gb359 ≠ gb379) := ⟨h15_⟩
         have n16_ : Aside0 (gb379 ≠ gb359) := ⟨h16_⟩
         have n17_ : Aside0 (gb360 ≠ gb379) := ⟨h17_⟩
         have n18_ : Aside0 (gb379 ≠ gb360) := ⟨h18_⟩
         have n19_ : Aside0 (Below w.heap.size w w60) := ⟨h19_⟩
         clear HO_4
         clear BK359
         clear BK360
         clear HB
         clear h0_ h1_ h2_ h3_ h4_ h5_ h6_ h7_ h8_ h9_ h10_ h11_ h12_ h13_ h14_ h15_ h16_ h17_ h18_ h19_
         have HO_4 := n0_
         have BK359 := n1_
         have BK360 := n2_
         have BK378 := n3_
         have BK379 := n4_
         have GW378 := n5_
         have GE378 := n6_
         have NB359_378 := n7_
         have NB378_359 := n8_
         have NB360_378 := n9_
         have NB378_360 := n10_
         have NB379_378 := n11_
         have NB378_379 := n12_
         have GW379 := n13_
         have GE379 := n14_
         have NB359_379 := n15_
         have NB379_359 := n16_
         have NB360_379 := n17_
         have NB379_360 := n18_
         have HB := n19_
         clear n0_ n1_ n2_ n3_ n4_ n5_ n6_ n7_ n8_ n9_ n10_ n11_ n12_ n13_ n14_ n15_ n16_ n17_ n18_ n19_
         have hHeld : w60.cell? (ad376.add (((ji50)).toNat * 2)) = some (.int .i64 ((rd_T63 t361 (ji50)).f0)) ∧ w60.cell? ⟨(ad376.add (((ji50)).toNat * 2)).block,(ad376.add (((ji50)).toNat * 2)).off + 1,none⟩ = some (.int .i64 ((rd_T63 t361 (ji50)).f1)) ∧ w60.cell? (ad376.add (((ji49)).toNat * 2)) = some (.int .i64 ((rd_T63 t361 (ji49)).f0)) ∧ w60.cell? ⟨(ad376.add (((ji49)).toNat * 2)).block,(ad376.add (((ji49)).toNat * 2)).off + 1,none⟩ = some (.int .i64 ((rd_T63 t361 (ji49)).f1)) := hS_
         refine norm_ (a' := ?_) ?_ ?_
         rotate_left
         ·simp only [putAll,Act.put,List.setIfInBounds_toArray,List.set_cons_zero,List.set_cons_succ]
          rfl
         refine one_ (i := 11) (N := none) #[true,true,true,true,true,true,true,true,true,true,true,true,false] rfl rfl (one_of HT_.out (by kernel_rfl)) (by decide) (fun K hK => ?_)
         have hs61 : w60.cell? ⟨gb378,0,none⟩ = some (.int .i64 0) := (blk_cell BK378.out 0).trans rfl
         have hfs61 := blk_frozen BK378.out 0
         have hns61_0 := NB359_378.out
         have hns61_1 := NB360_378.out
         have hns61_3 := NB379_378.out
         have hms61_0 := NB378_359.out
         have hms61_1 := NB378_360.out
         have hms61_3 := NB378_379.out
         have hs62 : w60.cell? ⟨gb378,1,none⟩ = some (.int .i64 0) := (blk_cell BK378.out 1).trans rfl
         have hfs62 := blk_frozen BK378.out 1
         have hns62_0 := NB359_378.out
         have hns62_1 := NB360_378.out
         have hns62_3 := NB379_378.out
         have hms62_0 := NB378_359.out
         have hms62_1 := NB378_360.out
         have hms62_3 := NB378_379.out
         refine skip_ (w1 := ?_) (by rfl) rfl ?_ ?_
         rotate_left
         ·go_simp
          rfl
         refine hK.out _ _ ⟨((cell_far (p := ⟨gb378,_,none⟩) au3 _).trans (((cell_far (p := ⟨gb378,_,none⟩) au3 _).trans (hHeld.1)))),((cell_far (p := ⟨gb378,_,none⟩) au3 _).trans (((cell_far (p := ⟨gb378,_,none⟩) au3 _).trans (hHeld.2.1)))),((cell_far (p := ⟨gb378,_,none⟩) au3 _).trans (((cell_far (p := ⟨gb378,_,none⟩) au3 _).trans (hHeld.2.2.1)))),((cell_far (p := ⟨gb378,_,none⟩) au3 _).trans (((cell_far (p := ⟨gb378,_,none⟩) au3 _).trans (hHeld.2.2.2))))⟩ (fun hHeld => ?_)
         clear hK K
         refine one_ (i := 12) (N := none) #[true,true,true,true,true,true,true,true,true,true,true,true,true] rfl rfl (one_of HT_.out (by kernel_rfl)) (by decide) (fun K hK => ?_)
         have hs63 : w60.cell? ⟨gb379,0,none⟩ = some (.int .i64 0) := (blk_cell BK379.out 0).trans rfl
         have hfs63 := blk_frozen BK379.out 0
         have hns63_0 := NB359_379.out
         have hns63_1 := NB360_379.out
         have hns63_2 := NB378_379.out
         have hms63_0 := NB379_359.out
         have hms63_1 := NB379_360.out
         have hms63_2 := NB379_378.out
         have hs64 : w60.cell? ⟨gb379,1,none⟩ = some (.int .i64 0) := (blk_cell BK379.out 1).trans rfl
         have hfs64 := blk_frozen BK379.out 1
         have hns64_0 := NB359_379.out
         have hns64_1 := NB360_379.out
         have hns64_2 := NB378_379.out
         have hms64_0 := NB379_359.out
         have hms64_1 := NB379_360.out
         have hms64_2 := NB379_378.out
         refine skip_ (w1 := ?_) (by rfl) rfl ?_ ?_
         rotate_left
         ·go_simp
          rfl
         refine hK.out _ _ ⟨((cell_far (p := ⟨gb379,_,none⟩) au4 _).trans (((cell_far (p := ⟨gb379,_,none⟩) au4 _).trans (hHeld.1)))),((cell_far (p := ⟨gb379,_,none⟩) au4 _).trans (((cell_far (p := ⟨gb379,_,none⟩) au4 _).trans (hHeld.2.1)))),((cell_far (p := ⟨gb379,_,none⟩) au4 _).trans (((cell_far (p := ⟨gb379,_,none⟩) au4 _).trans (hHeld.2.2.1)))),((cell_far (p := ⟨gb379,_,none⟩) au4 _).trans (((cell_far (p := ⟨gb379,_,none⟩) au4 _).trans (hHeld.2.2.2))))⟩ (fun hHeld => ?_)
         clear hK K
         refine done_ (done_of HT_.out (by kernel_rfl)) ?_
         have hnb65 := NB359_360.out
         have hnc65 := NB360_359.out
         have hnb66 := NB359_378.out
         have hnc66 := NB378_359.out
         have hnb67 := NB359_379.out
         have hnc67 := NB379_359.out
         have hcz68_0 : w60.cell? ⟨gb359,0,none⟩ = some (.string a0_0) := (blk_cell BK359.out 0).trans rfl
         have hcz68_1 : w60.cell? ⟨gb359,1,none⟩ = some (.int .i64 a0_1) := (blk_cell BK359.out 1).trans rfl
         have hcz68_2 : w60.cell? ⟨gb359,2,none⟩ = some (.int .i64 a0_2) := (blk_cell BK359.out 2).trans rfl
         have hcz68_3 : w60.cell? ⟨gb359,3,none⟩ = some (.int .i64 a0_3) := (blk_cell BK359.out 3).trans rfl
         have hfz68_0 := blk_frozen BK359.out 0
         have hfz68_1 := blk_frozen BK359.out 1
         have hfz68_2 := blk_frozen BK359.out 2
         have hfz68_3 := blk_frozen BK359.out 3
         have hnb69 := NB378_360.out
         have hnc69 := NB360_378.out
         have hnb70 := NB378_379.out
         have hnc70 := NB379_378.out
         have hcz71_0 : w60.cell? ⟨gb378,0,none⟩ = some (.int .i64 0) := (blk_cell BK378.out 0).trans rfl
         have hcz71_1 : w60.cell? ⟨gb378,1,none⟩ = some (.int .i64 0) := (blk_cell BK378.out 1).trans rfl
         have hfz71_0 := blk_frozen BK378.out 0
         have hfz71_1 := blk_frozen BK378.out 1
         have hnb72 := NB379_360.out
         have hnc72 := NB360_379.out
         have hcz73_0 : w60.cell? ⟨gb379,0,none⟩ = some (.int .i64 0) := (blk_cell BK379.out 0).trans rfl
         have hcz73_1 : w60.cell? ⟨gb379,1,none⟩ = some (.int .i64 0) := (blk_cell BK379.out 1).trans rfl
         have hfz73_0 := blk_frozen BK379.out 0
         have hfz73_1 := blk_frozen BK379.out 1
         try go_wp2_with (first | ((with_reducible refine gate_callee (f := 72) rfl ?_);refine goesL_ (some 55) rfl rfl Tryd.func72 (by kernel_rfl) rfl #[.agg #[.string a0_0,.int .i64 a0_1,.int .i64 a0_2,.int .i64 a0_3],.int .i64 ((rd_T63 t361 (ji50)).f0),.int .i64 ((rd_T63 t361 (ji50)).f1),.int .i64 ((rd_T63 t361 (ji49)).f0),.int .i64 ((rd_T63 t361 (ji49)).f1)] rfl (by (try simp only [List.map_toArray,List.map_cons,List.map_nil]);first | done | (simp only [hji49,hji50];rfl) | rfl | (simp only [List.length_drop,List.length_take];rfl)) ?_;(with_reducible refine (change_work_swap.calls a0_0 a0_1 a0_2 a0_3 ((rd_T63 t361 (ji50)).f0) ((rd_T63 t361 (ji50)).f1) ((rd_T63 t361 (ji49)).f0) ((rd_T63 t361 (ji49)).f1) t380 t381 t382 t383 t384 t385 t386 _ A55.out).mono ?_);rintro e w74 ⟨rfl,hb⟩;refine ⟨_,rfl,?_⟩;have n0_ := Aside0.mk (Kd.R_below (by (with_reducible repeat (first | apply Kd.R_alloc | apply Kd.R_drewN | apply Kd.R_drew));exact (Kd.R_mono (Kd.R_mono (Kd.R_far (p := ⟨gb379,1,none⟩) (Kd.R_far (p := ⟨gb379,0,none⟩) (Kd.R_far (p := ⟨gb378,1,none⟩) (Kd.R_far (p := ⟨gb378,0,none⟩) (Kd.R_mono (Kd.R_mono HO_4.out (fun k_ hk => (⟨hk,hk.1⟩ : _ ∧ k_ ≠ gb378))) (fun k_ hk => (⟨hk,hk.1.2⟩ : _ ∧ k_ ≠ gb379))) (fun _ hk => hk.1.2) (.int .i64 ((rd_T63 t361 (ji50)).f0))) (fun _ hk => hk.1.2) (.int .i64 ((rd_T63 t361 (ji50)).f1))) (fun _ hk => hk.2) (.int .i64 ((rd_T63 t361 (ji49)).f0))) (fun _ hk => hk.2) (.int .i64 ((rd_T63 t361 (ji49)).f1))) (fun _ h_ => h_.1)) (fun _ h_ => h_.1))) hb);have n1_ := Aside0.mk (blk_below (g := gb359) (o := .cells #[.string a0_0,.int .i64 a0_1,.int .i64 a0_2,.int .i64 a0_3] 52 (0,0)) (by (with_reducible repeat (first | refine blk_drewN ?_ _ | refine blk_drew ?_ | refine blk_alloc ?_ _));refine blk_far ?_ NB359_379.out _;(with_reducible repeat (first | refine blk_drewN ?_ _ | refine blk_drew ?_ | refine blk_alloc ?_ _));refine blk_far ?_ NB359_379.out _;(with_reducible repeat (first | refine blk_drewN ?_ _ | refine blk_drew ?_ | refine blk_alloc ?_ _));refine blk_far ?_ NB359_378.out _;(with_reducible repeat (first | refine blk_drewN ?_ _ | refine blk_drew ?_ | refine blk_alloc ?_ _));refine blk_far ?_ NB359_378.out _;(with_reducible repeat (first | refine blk_drewN ?_ _ | refine blk_drew ?_ | refine blk_alloc ?_ _));exact BK359.out) hb);have n2_ := Aside0.mk (blk_below (g := gb360) (o := .cells #[.int .i64 0,.int .i64 0,.string (⟨#[]⟩ : ByteArray),.int .i64 0,.string (⟨#[]⟩ : ByteArray),.bool false] 30 (0,0)) (by (with_reducible repeat (first | refine blk_drewN ?_ _ | refine blk_drew ?_ | refine blk_alloc ?_ _));refine blk_far ?_ NB360_379.out _;(with_reducible repeat (first | refine blk_drewN ?_ _ | refine blk_drew ?_ | refine blk_alloc ?_ _));refine blk_far ?_ NB360_379.out _;(with_reducible repeat (first | refine blk_drewN ?_ _ | refine blk_drew ?_ | refine blk_alloc ?_ _));refine blk_far ?_ NB360_378.out _;(with_reducible repeat (first | refine blk_drewN ?_ _ | refine blk_drew ?_ | refine blk_alloc ?_ _));refine blk_far ?_ NB360_378.out _;(with_reducible repeat (first | refine blk_drewN ?_ _ | refine blk_drew ?_ | refine blk_alloc ?_ _));exact BK360.out) hb);have n3_ := Aside0.mk (blk_below (g := gb378) (o := .cells #[.int .i64 ((rd_T63 t361 (ji50)).f0),.int .i64 ((rd_T63 t361 (ji50)).f1)] 63 (0,0)) (by (with_reducible repeat (first | refine blk_drewN ?_ _ | refine blk_drew ?_ | refine blk_alloc ?_ _));refine blk_far ?_ NB378_379.out _;(with_reducible repeat (first | refine blk_drewN ?_ _ | refine blk_drew ?_ | refine blk_alloc ?_ _));refine blk_far ?_ NB378_379.out _;(with_reducible repeat (first | refine blk_drewN ?_ _ | refine blk_drew ?_ | refine blk_alloc ?_ _));refine blk_put (cs := #[.int .i64 ((rd_T63 t361 (ji50)).f0),.int .i64 0]) ?_ 1 _ rfl;(with_reducible repeat (first | refine blk_drewN ?_ _ | refine blk_drew ?_ | refine blk_alloc ?_ _));refine blk_put (cs := #[.int .i64 0,.int .i64 0]) ?_ 0 _ rfl;(with_reducible repeat (first | refine blk_drewN ?_ _ | refine blk_drew ?_ | refine blk_alloc ?_ _));exact BK378.out) hb);have n4_ := Aside0.mk (blk_below (g := gb379) (o := .cells #[.int .i64 ((rd_T63 t361 (ji49)).f0),.int .i64 ((rd_T63 t361 (ji49)).f1)] 63 (0,0)) (by (with_reducible repeat (first | refine blk_drewN ?_ _ | refine blk_drew ?_ | refine blk_alloc ?_ _));refine blk_put (cs := #[.int .i64 ((rd_T63 t361 (ji49)).f0),.int .i64 0]) ?_ 1 _ rfl;(with_reducible repeat (first | refine blk_drewN ?_ _ | refine blk_drew ?_ | refine blk_alloc ?_ _));refine blk_put (cs := #[.int .i64 0,.int .i64 0]) ?_ 0 _ rfl;(with_reducible repeat (first | refine blk_drewN ?_ _ | refine blk_drew ?_ | refine blk_alloc ?_ _));refine blk_far ?_ NB379_378.out _;(with_reducible repeat (first | refine blk_drewN ?_ _ | refine blk_drew ?_ | refine blk_alloc ?_ _));refine blk_far ?_ NB379_378.out _;(with_reducible repeat (first | refine blk_drewN ?_ _ | refine blk_drew ?_ | refine blk_alloc ?_ _));exact BK379.out) hb);have n5_ := Aside0.mk (below_step (by repeat (first | (with_reducible first | exact HB.out | apply below_alloc | apply pw_below_drewN | apply below_drew1 | refine below_set ?_ GE359.out | refine below_set ?_ GE360.out | refine below_set ?_ GE378.out | refine below_set ?_ GE379.out) | exact HB.out)) hb);clear HO_4;clear BK359;clear BK360;clear BK378;clear BK379;clear HB;have HO_4 := n0_;have BK359 := n1_;have BK360 := n2_;have BK378 := n3_;have BK379 := n4_;have HB := n5_;clear n0_ n1_ n2_ n3_ n4_ n5_;(try clear hb);(try clear hb2);(try clear hk);(try clear hi);have hcz75_0 : w74.cell? ⟨gb360,0,none⟩ = some (.int .i64 0) := (blk_cell BK360.out 0).trans rfl;have hcz75_1 : w74.cell? ⟨gb360,1,none⟩ = some (.int .i64 0) := (blk_cell BK360.out 1).trans rfl;have hcz75_2 : w74.cell? ⟨gb360,2,none⟩ = some (.string (⟨#[]⟩ : ByteArray)) := (blk_cell BK360.out 2).trans rfl;have hcz75_3 : w74.cell? ⟨gb360,3,none⟩ = some (.int .i64 0) := (blk_cell BK360.out 3).trans rfl;have hcz75_4 : w74.cell? ⟨gb360,4,none⟩ = some (.string (⟨#[]⟩ : ByteArray)) := (blk_cell BK360.out 4).trans rfl;have hcz75_5 : w74.cell? ⟨gb360,5,none⟩ = some (.bool false) := (blk_cell BK360.out 5).trans rfl;have hfz75_0 := blk_frozen BK360.out 0;have hfz75_1 := blk_frozen BK360.out 1;have hfz75_2 := blk_frozen BK360.out 2;have hfz75_3 := blk_frozen BK360.out 3;have hfz75_4 := blk_frozen BK360.out 4;have hfz75_5 := blk_frozen BK360.out 5))
         refine bodyPost_ret (results_ct rfl _ _ gb360 30 #[.int .i64 t380,.int .i64 t381,.string t382,.int .i64 t383,.string t384,.bool t385] (0,0) _ rfl (by (with_reducible repeat (first | refine blk_drewN ?_ _ | refine blk_drew ?_ | refine blk_alloc ?_ _));refine blk_put (cs := #[.int .i64 t380,.int .i64 t381,.string t382,.int .i64 t383,.string t384,.bool false]) ?_ 5 _ rfl;(with_reducible repeat (first | refine blk_drewN ?_ _ | refine blk_drew ?_ | refine blk_alloc ?_ _));refine blk_put (cs := #[.int .i64 t380,.int .i64 t381,.string t382,.int .i64 t383,.string (⟨#[]⟩ : ByteArray),.bool false]) ?_ 4 _ rfl;(with_reducible repeat (first | refine blk_drewN ?_ _ | refine blk_drew ?_ | refine blk_alloc ?_ _));refine blk_put (cs := #[.int .i64 t380,.int .i64 t381,.string t382,.int .i64 0,.string (⟨#[]⟩ : ByteArray),.bool false]) ?_ 3 _ rfl;(with_reducible repeat (first | refine blk_drewN ?_ _ | refine blk_drew ?_ | refine blk_alloc ?_ _));refine blk_put (cs := #[.int .i64 t380,.int .i64 t381,.string (⟨#[]⟩ : ByteArray),.int .i64 0,.string (⟨#[]⟩ : ByteArray),.bool false]) ?_ 2 _ rfl;(with_reducible repeat (first | refine blk_drewN ?_ _ | refine blk_drew ?_ | refine blk_alloc ?_ _));refine blk_put (cs := #[.int .i64 t380,.int .i64 0,.string (⟨#[]⟩ : ByteArray),.int .i64 0,.string (⟨#[]⟩ : ByteArray),.bool false]) ?_ 1 _ rfl;(with_reducible repeat (first | refine blk_drewN ?_ _ | refine blk_drew ?_ | refine blk_alloc ?_ _));refine blk_put (cs := #[.int .i64 0,.int .i64 0,.string (⟨#[]⟩ : ByteArray),.int .i64 0,.string (⟨#[]⟩ : ByteArray),.bool false]) ?_ 0 _ rfl;(with_reducible repeat (first | refine blk_drewN ?_ _ | refine blk_drew ?_ | refine blk_alloc ?_ _));exact BK360.out) Tryd.underlying30 rfl (by kernel_rfl)) rfl ?_
         exact ⟨by first | rfl | (simp [errW_none,errW_some] <;> rfl) | (simp only [← hji49,← hji50];first | rfl | (simp [errW_none,errW_some] <;> rfl)) | (simp [*,errW_none,errW_some] <;> rfl),by repeat (first | (with_reducible first | exact HB.out | apply below_alloc | apply pw_below_drewN | apply below_drew1 | refine below_set ?_ GE359.out | refine below_set ?_ GE360.out | refine below_set ?_ GE378.out | refine below_set ?_ GE379.out) | exact HB.out)⟩
        ·rw [if_neg c54] at H
         exact absurd H (by simp)
       ·rw [if_neg c53] at H
        exact absurd H (by simp)
      ·rw [if_neg c52] at H
       exact absurd H (by simp)
     ·rw [if_neg c51] at H
      exact absurd H (by simp)
end Go.Proofs.YtfmnmjoofnbnfaaDoor.U
end
