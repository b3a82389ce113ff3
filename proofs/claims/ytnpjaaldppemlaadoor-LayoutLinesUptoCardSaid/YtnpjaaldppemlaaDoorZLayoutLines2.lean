/- What the law LayoutLines reaches of this seat's own texts, merged; what nothing uses is left out. -/
import Derived.Test.YtnpjaaldppemlaaDoorZLayoutLines0
import Derived.Test.YtnpjaaldppemlaaDoorZLayoutLines1
section
namespace Go.Proofs.YtnpjaaldppemlaaDoor.U
open Go.RowKit Go.Proofs.YtnpjaaldppemlaaDoorW.PrintWords Go.Proofs.YtnpjaaldppemlaaDoorW.PrintLast Go.Proofs.YtnpjaaldppemlaaDoorW.PrintMore
attribute [local go_sem] max2_int min2_int max_two min_two max_three min_three max_four min_four   -- for this text's walks alone
set_option linter.unusedVariables false
set_option linter.unusedSimpArgs false
attribute [local go_sem high] eqA27 eqA35
mutual
def layout_Same.j0 : Nat → Bool → Int → List (List (S35)) → Int → Int → Int → List (List (S35)) → Int → Int → Option (Bool)
 | 0,_,_,_,_,_,_,_,_,_ => none
 | k + 1,x27,x205000,x205001,x205002,x205003,x206000,x206001,x206002,x206003 => if x27 = true then (some false) else (layout_Same.l0 k (x205001.length : Int) 0 x205000 x205001 x205002 x205003 x206000 x206001 x206002 x206003)
def layout_Same.l0 : Nat → Int → Int → Int → List (List (S35)) → Int → Int → Int → List (List (S35)) → Int → Int → Option (Bool)
 | 0,_,_,_,_,_,_,_,_,_,_ => none
 | k + 1,x30,x31,x205000,x205001,x205002,x205003,x206000,x206001,x206002,x206003 => if x31 < x30 then (if 0 ≤ x31 then (if x31 < (x205001.length : Int) then (if x31 < (x206001.length : Int) then (if ((rd_L3 x205001 x31).length : Int) = ((rd_L3 x206001 x31).length : Int) then (layout_Same.l1 k x31 x30 x31 ((rd_L3 x205001 x31).length : Int) 0 x205000 x205001 x205002 x205003 x206000 x206001 x206002 x206003) else (some false)) else (none)) else (none)) else (none)) else (some true)
def layout_Same.l1 : Nat → Int → Int → Int → Int → Int → Int → List (List (S35)) → Int → Int → Int → List (List (S35)) → Int → Int → Option (Bool)
 | 0,_,_,_,_,_,_,_,_,_,_,_,_,_ => none
 | k + 1,x5,x30,x31,x52,x53,x205000,x205001,x205002,x205003,x206000,x206001,x206002,x206003 => if x53 < x52 then (if 0 ≤ x5 then (if x5 < (x205001.length : Int) then (if 0 ≤ x53 then (if x53 < ((rd_L3 x205001 x5).length : Int) then (if x5 < (x206001.length : Int) then (if x53 < ((rd_L3 x206001 x5).length : Int) then (if (!((((rd_T35 (rd_L3 x205001 x5) x53).f0).toList) == (((rd_T35 (rd_L3 x206001 x5) x53).f0).toList)) || (!(((rd_T35 (rd_L3 x205001 x5) x53).f1) == ((rd_T35 (rd_L3 x206001 x5) x53).f1)))) = true then (some false) else (layout_Same.l1 k x5 x30 x31 x52 (wrap64 (x53 + 1)) x205000 x205001 x205002 x205003 x206000 x206001 x206002 x206003)) else (none)) else (none)) else (none)) else (none)) else (none)) else (none)) else (layout_Same.l0 k x30 (wrap64 (x31 + 1)) x205000 x205001 x205002 x205003 x206000 x206001 x206002 x206003)
end
def layout_Same.f (k : Nat) (a0_0 : Int) (l0_1 : List (List (S35))) (a0_2 : Int) (a0_3 : Int) (a1_0 : Int) (l1_1 : List (List (S35))) (a1_2 : Int) (a1_3 : Int) : Option (Bool) := if a0_0 = a1_0 then (if (!(a0_2 == a1_2) || (!(a0_3 == a1_3))) = true then (layout_Same.j0 k true a0_0 l0_1 a0_2 a0_3 a1_0 l1_1 a1_2 a1_3) else (layout_Same.j0 k ((l0_1.length : Int) != (l1_1.length : Int)) a0_0 l0_1 a0_2 a0_3 a1_0 l1_1 a1_2 a1_3)) else (layout_Same.j0 k true a0_0 l0_1 a0_2 a0_3 a1_0 l1_1 a1_2 a1_3)
set_option maxHeartbeats 8000000 in
set_option maxRecDepth 100000 in
theorem layout_Same.calls (k : Nat) (a0_0 : Int) (A0_1 : Option Addr) (c0_1 : Nat) (l0_1 : List (List (S35))) (a0_2 : Int) (a0_3 : Int) (a1_0 : Int) (A1_1 : Option Addr) (c1_1 : Nat) (l1_1 : List (List (S35))) (a1_2 : Int) (a1_3 : Int) (r : Bool) (w : World) (hr0_1 : Kd.C (Kd.slice 35 k35) w A0_1 l0_1.length l0_1) (hc0_1 : l0_1.length ≤ c0_1) (hr1_1 : Kd.C (Kd.slice 35 k35) w A1_1 l1_1.length l1_1) (hc1_1 : l1_1.length ≤ c1_1) (h : layout_Same.f k a0_0 l0_1 a0_2 a0_3 a1_0 l1_1 a1_2 a1_3 = some r) :
  Calls Tryd.prog 30 #[.agg #[.int .i64 a0_0,.slice A0_1 l0_1.length c0_1,.int .i64 a0_2,.int .i64 a0_3],.agg #[.int .i64 a1_0,.slice A1_1 l1_1.length c1_1,.int .i64 a1_2,.int .i64 a1_3]] w fun e w' => e = .returned (.bool r) ∧ Below w.heap.size w w' := by
 have hu29 := Tryd.underlying29
 have hu27 := Tryd.underlying27
 have hu35 := Tryd.underlying35
 have HR0_1 := Aside0.mk hr0_1
 have HC0_1 := Aside0.mk hc0_1
 clear hr0_1 hc0_1
 have HR1_1 := Aside0.mk hr1_1
 have HC1_1 := Aside0.mk hc1_1
 clear hr1_1 hc1_1
 have HB := Aside0.mk (Below.refl w.heap.size w)
 have H : (if a0_0 = a1_0 then (if (!(a0_2 == a1_2) || (!(a0_3 == a1_3))) = true then (layout_Same.j0 k true a0_0 l0_1 a0_2 a0_3 a1_0 l1_1 a1_2 a1_3) else (layout_Same.j0 k ((l0_1.length : Int) != (l1_1.length : Int)) a0_0 l0_1 a0_2 a0_3 a1_0 l1_1 a1_2 a1_3)) else (layout_Same.j0 k true a0_0 l0_1 a0_2 a0_3 a1_0 l1_1 a1_2 a1_3)) = some r := h
 clear h
 have HC3 := Aside0.mk H
 clear H
 go_enter Tryd.func30,Tryd.ntmps30
 go_upto_region 1 with (first | ((with_reducible refine gate_dst (N := 2) rfl ?_);(try (refine gate_guard (by rfl) ?_;dsimp only));refine box_event ?hg (N := 2) ?hd (cs := #[.int .i64 a0_0,.slice A0_1 l0_1.length c0_1,.int .i64 a0_2,.int .i64 a0_3]) (t := 29) ?hr ?_;(case hd => rfl);(case hg => rfl);(case hr => first | (go_simp;done) | (go_simp;rfl));intro gb204 hg w4 hbox hb;have n0_ := Aside0.mk (below_step au0 hb);have n1_ := Aside0.mk (hbox);have n2_ := Aside0.mk ((by rw [hg];exact (below_size au0) : w.heap.size ≤ gb204));have n3_ := Aside0.mk ((by rw [hg];exact (below_size au0) : w.heap.size ≤ gb204));clear HB;have HB := n0_;have BK204 := n1_;have GW204 := n2_;have GE204 := n3_;clear n0_ n1_ n2_ n3_;clear hb hbox hg) | ((with_reducible refine gate_dst (N := 3) rfl ?_);(try (refine gate_guard (by rfl) ?_;dsimp only));refine box_event ?hg (N := 3) ?hd (cs := #[.int .i64 a1_0,.slice A1_1 l1_1.length c1_1,.int .i64 a1_2,.int .i64 a1_3]) (t := 29) ?hr ?_;(case hd => rfl);(case hg => rfl);(case hr => first | (go_simp;done) | (go_simp;rfl));intro gb205 hg w5 hbox hb;have n0_ := Aside0.mk (blk_below (g := gb204) (o := .cells #[.int .i64 a0_0,.slice A0_1 l0_1.length c0_1,.int .i64 a0_2,.int .i64 a0_3] 29 (0,0)) au15 hb);have n1_ := Aside0.mk (below_step au8 hb);have n2_ := Aside0.mk (hbox);have n3_ := Aside0.mk ((by rw [hg];exact (below_size au8) : w.heap.size ≤ gb205));have n4_ := Aside0.mk ((by rw [hg];exact (below_size au8) : w.heap.size ≤ gb205));have n5_ := Aside0.mk ((by rw [hg];exact Nat.ne_of_lt (blk_lt (g := gb204) (o := .cells #[.int .i64 a0_0,.slice A0_1 l0_1.length c0_1,.int .i64 a0_2,.int .i64 a0_3] 29 (0,0)) au15) : gb204 ≠ gb205));have n6_ := Aside0.mk ((by rw [hg];exact Nat.ne_of_gt (blk_lt (g := gb204) (o := .cells #[.int .i64 a0_0,.slice A0_1 l0_1.length c0_1,.int .i64 a0_2,.int .i64 a0_3] 29 (0,0)) au15) : gb205 ≠ gb204));clear BK204;clear HB;have BK204 := n0_;have HB := n1_;have BK205 := n2_;have GW205 := n3_;have GE205 := n4_;have NB204_205 := n5_;have NB205_204 := n6_;clear n0_ n1_ n2_ n3_ n4_ n5_ n6_;clear hb hbox hg))
 repeat (go_quiet (first | ((with_reducible refine gate_dst (N := 2) rfl ?_);(try (refine gate_guard (by rfl) ?_;dsimp only));refine box_event ?hg (N := 2) ?hd (cs := #[.int .i64 a0_0,.slice A0_1 l0_1.length c0_1,.int .i64 a0_2,.int .i64 a0_3]) (t := 29) ?hr ?_;(case hd => rfl);(case hg => rfl);(case hr => first | (go_simp;done) | (go_simp;rfl));intro gb204 hg w4 hbox hb;have n0_ := Aside0.mk (below_step au0 hb);have n1_ := Aside0.mk (hbox);have n2_ := Aside0.mk ((by rw [hg];exact (below_size au0) : w.heap.size ≤ gb204));have n3_ := Aside0.mk ((by rw [hg];exact (below_size au0) : w.heap.size ≤ gb204));clear HB;have HB := n0_;have BK204 := n1_;have GW204 := n2_;have GE204 := n3_;clear n0_ n1_ n2_ n3_;clear hb hbox hg) | ((with_reducible refine gate_dst (N := 3) rfl ?_);(try (refine gate_guard (by rfl) ?_;dsimp only));refine box_event ?hg (N := 3) ?hd (cs := #[.int .i64 a1_0,.slice A1_1 l1_1.length c1_1,.int .i64 a1_2,.int .i64 a1_3]) (t := 29) ?hr ?_;(case hd => rfl);(case hg => rfl);(case hr => first | (go_simp;done) | (go_simp;rfl));intro gb205 hg w5 hbox hb;have n0_ := Aside0.mk (blk_below (g := gb204) (o := .cells #[.int .i64 a0_0,.slice A0_1 l0_1.length c0_1,.int .i64 a0_2,.int .i64 a0_3] 29 (0,0)) au15 hb);have n1_ := Aside0.mk (below_step au8 hb);have n2_ := Aside0.mk (hbox);have n3_ := Aside0.mk ((by rw [hg];exact (below_size au8) : w.heap.size ≤ gb205));have n4_ := Aside0.mk ((by rw [hg];exact (below_size au8) : w.heap.size ≤ gb205));have n5_ := Aside0.mk ((by rw [hg];exact Nat.ne_of_lt (blk_lt (g := gb204) (o := .cells #[.int .i64 a0_0,.slice A0_1 l0_1.length c0_1,.int .i64 a0_2,.int .i64 a0_3] 29 (0,0)) au15) : gb204 ≠ gb205));have n6_ := Aside0.mk ((by rw [hg];exact Nat.ne_of_gt (blk_lt (g := gb204) (o := .cells #[.int .i64 a0_0,.slice A0_1 l0_1.length c0_1,.int .i64 a0_2,.int .i64 a0_3] 29 (0,0)) au15) : gb205 ≠ gb204));clear BK204;clear HB;have BK204 := n0_;have HB := n1_;have BK205 := n2_;have GW205 := n3_;have GE205 := n4_;have NB204_205 := n5_;have NB205_204 := n6_;clear n0_ n1_ n2_ n3_ n4_ n5_ n6_;clear hb hbox hg));go_upto_region 1 with (first | ((with_reducible refine gate_dst (N := 2) rfl ?_);(try (refine gate_guard (by rfl) ?_;dsimp only));refine box_event ?hg (N := 2) ?hd (cs := #[.int .i64 a0_0,.slice A0_1 l0_1.length c0_1,.int .i64 a0_2,.int .i64 a0_3]) (t := 29) ?hr ?_;(case hd => rfl);(case hg => rfl);(case hr => first | (go_simp;done) | (go_simp;rfl));intro gb204 hg w4 hbox hb;have n0_ := Aside0.mk (below_step au0 hb);have n1_ := Aside0.mk (hbox);have n2_ := Aside0.mk ((by rw [hg];exact (below_size au0) : w.heap.size ≤ gb204));have n3_ := Aside0.mk ((by rw [hg];exact (below_size au0) : w.heap.size ≤ gb204));clear HB;have HB := n0_;have BK204 := n1_;have GW204 := n2_;have GE204 := n3_;clear n0_ n1_ n2_ n3_;clear hb hbox hg) | ((with_reducible refine gate_dst (N := 3) rfl ?_);(try (refine gate_guard (by rfl) ?_;dsimp only));refine box_event ?hg (N := 3) ?hd (cs := #[.int .i64 a1_0,.slice A1_1 l1_1.length c1_1,.int .i64 a1_2,.int .i64 a1_3]) (t := 29) ?hr ?_;(case hd => rfl);(case hg => rfl);(case hr => first | (go_simp;done) | (go_simp;rfl));intro gb205 hg w5 hbox hb;have n0_ := Aside0.mk (blk_below (g := gb204) (o := .cells #[.int .i64 a0_0,.slice A0_1 l0_1.length c0_1,.int .i64 a0_2,.int .i64 a0_3] 29 (0,0)) au15 hb);have n1_ := Aside0.mk (below_step au8 hb);have n2_ := Aside0.mk (hbox);have n3_ := Aside0.mk ((by rw [hg];exact (below_size au8) : w.heap.size ≤ gb205));have n4_ := Aside0.mk ((by rw [hg];exact (below_size au8) : w.heap.size ≤ gb205));have n5_ := Aside0.mk ((by rw [hg];exact Nat.ne_of_lt (blk_lt (g := gb204) (o := .cells #[.int .i64 a0_0,.slice A0_1 l0_1.length c0_1,.int .i64 a0_2,.int .i64 a0_3] 29 (0,0)) au15) : gb204 ≠ gb205));have n6_ := Aside0.mk ((by rw [hg];exact Nat.ne_of_gt (blk_lt (g := gb204) (o := .cells #[.int .i64 a0_0,.slice A0_1 l0_1.length c0_1,.int .i64 a0_2,.int .i64 a0_3] 29 (0,0)) au15) : gb205 ≠ gb204));clear BK204;clear HB;have BK204 := n0_;have HB := n1_;have BK205 := n2_;have GW205 := n3_;have GE205 := n4_;have NB204_205 := n5_;have NB205_204 := n6_;clear n0_ n1_ n2_ n3_ n4_ n5_ n6_;clear hb hbox hg)))
 (try simp only [Act.put,List.setIfInBounds_toArray,List.set_cons_zero,List.set_cons_succ])
 go_cut [27] (fun v27 wc => ∃ (kq : Nat) (x27_2 : Bool),v27 = .bool x27_2 ∧ Aside0 (layout_Same.j0 kq x27_2 a0_0 l0_1 a0_2 a0_3 a1_0 l1_1 a1_2 a1_3 = some r) ∧ Aside0 (kq ≤ k) ∧ Aside0 (wc.heap[gb204]? = some (.cells #[.int .i64 a0_0,(.slice A0_1 l0_1.length c0_1),.int .i64 a0_2,.int .i64 a0_3] 29 (0,0))) ∧ Aside0 (wc.heap[gb205]? = some (.cells #[.int .i64 a1_0,(.slice A1_1 l1_1.length c1_1),.int .i64 a1_2,.int .i64 a1_3] 29 (0,0))) ∧ Aside0 (Below w.heap.size w wc))
 case first =>
  have H := HC3.out
  clear HC3
  by_cases c6 : a0_0 = a1_0
  ·rw [if_pos c6] at H
   have c6b0 : (a0_0 == a1_0) = true := beq_iff_eq.mpr c6
   have c6b1 : (a0_0 != a1_0) = false := bne_eq_false_iff_eq.mpr c6
   clear c6
   (first | rw [c6b0] | (simp only [i64_w,i32_w];rw [c6b0]) | skip)
   by_cases c7 : (!(a0_2 == a1_2) || (!(a0_3 == a1_3))) = true
   ·rw [if_pos c7] at H
    have c7b0 : (!(a0_2 == a1_2) || (!(a0_3 == a1_3))) = true := c7
    clear c7
    have H' := Aside0.mk H
    clear H
    have hnb8 := NB204_205.out
    have hnc8 := NB205_204.out
    have hcz9_0 : w5.cell? ⟨gb204,0,none⟩ = some (.int .i64 a0_0) := (blk_cell BK204.out 0).trans rfl
    have hcz9_1 : w5.cell? ⟨gb204,1,none⟩ = some (.slice A0_1 l0_1.length c0_1) := (blk_cell BK204.out 1).trans rfl
    have hcz9_2 : w5.cell? ⟨gb204,2,none⟩ = some (.int .i64 a0_2) := (blk_cell BK204.out 2).trans rfl
    have hcz9_3 : w5.cell? ⟨gb204,3,none⟩ = some (.int .i64 a0_3) := (blk_cell BK204.out 3).trans rfl
    have hfz9_0 := blk_frozen BK204.out 0
    have hfz9_1 := blk_frozen BK204.out 1
    have hfz9_2 := blk_frozen BK204.out 2
    have hfz9_3 := blk_frozen BK204.out 3
    have hcz10_0 : w5.cell? ⟨gb205,0,none⟩ = some (.int .i64 a1_0) := (blk_cell BK205.out 0).trans rfl
    have hcz10_1 : w5.cell? ⟨gb205,1,none⟩ = some (.slice A1_1 l1_1.length c1_1) := (blk_cell BK205.out 1).trans rfl
    have hcz10_2 : w5.cell? ⟨gb205,2,none⟩ = some (.int .i64 a1_2) := (blk_cell BK205.out 2).trans rfl
    have hcz10_3 : w5.cell? ⟨gb205,3,none⟩ = some (.int .i64 a1_3) := (blk_cell BK205.out 3).trans rfl
    have hfz10_0 := blk_frozen BK205.out 0
    have hfz10_1 := blk_frozen BK205.out 1
    have hfz10_2 := blk_frozen BK205.out 2
    have hfz10_3 := blk_frozen BK205.out 3
    go_wp2
    repeat (go_quiet (fail);try go_wp2)
    go_meet
    case rel => exact ⟨_,(true),au18,H',⟨by first | omega | exact Nat.le_refl _⟩,⟨by (with_reducible repeat (first | refine blk_drewN ?_ _ | refine blk_drew ?_ | refine blk_alloc ?_ _));exact BK204.out⟩,⟨by (with_reducible repeat (first | refine blk_drewN ?_ _ | refine blk_drew ?_ | refine blk_alloc ?_ _));exact BK205.out⟩,⟨by repeat (first | (with_reducible first | exact HB.out | apply below_alloc | apply pw_below_drewN | apply below_drew1 | refine below_set ?_ GE204.out | refine below_set ?_ GE205.out) | exact HB.out)⟩⟩
   ·rw [if_neg c7] at H
    have c7b0 : (!(a0_2 == a1_2) || (!(a0_3 == a1_3))) = false := by simpa using c7
    clear c7
    have H' := Aside0.mk H
    clear H
    have hnb11 := NB204_205.out
    have hnc11 := NB205_204.out
    have hcz12_0 : w5.cell? ⟨gb204,0,none⟩ = some (.int .i64 a0_0) := (blk_cell BK204.out 0).trans rfl
    have hcz12_1 : w5.cell? ⟨gb204,1,none⟩ = some (.slice A0_1 l0_1.length c0_1) := (blk_cell BK204.out 1).trans rfl
    have hcz12_2 : w5.cell? ⟨gb204,2,none⟩ = some (.int .i64 a0_2) := (blk_cell BK204.out 2).trans rfl
    have hcz12_3 : w5.cell? ⟨gb204,3,none⟩ = some (.int .i64 a0_3) := (blk_cell BK204.out 3).trans rfl
    have hfz12_0 := blk_frozen BK204.out 0
    have hfz12_1 := blk_frozen BK204.out 1
    have hfz12_2 := blk_frozen BK204.out 2
    have hfz12_3 := blk_frozen BK204.out 3
    have hcz13_0 : w5.cell? ⟨gb205,0,none⟩ = some (.int .i64 a1_0) := (blk_cell BK205.out 0).trans rfl
    have hcz13_1 : w5.cell? ⟨gb205,1,none⟩ = some (.slice A1_1 l1_1.length c1_1) := (blk_cell BK205.out 1).trans rfl
    have hcz13_2 : w5.cell? ⟨gb205,2,none⟩ = some (.int .i64 a1_2) := (blk_cell BK205.out 2).trans rfl
    have hcz13_3 : w5.cell? ⟨gb205,3,none⟩ = some (.int .i64 a1_3) := (blk_cell BK205.out 3).trans rfl
    have hfz13_0 := blk_frozen BK205.out 0
    have hfz13_1 := blk_frozen BK205.out 1
    have hfz13_2 := blk_frozen BK205.out 2
    have hfz13_3 := blk_frozen BK205.out 3
    go_wp2
    repeat (go_quiet (fail);try go_wp2)
    go_meet
    case rel => exact ⟨_,(((l0_1.length : Int) != (l1_1.length : Int))),au18,H',⟨by first | omega | exact Nat.le_refl _⟩,⟨by (with_reducible repeat (first | refine blk_drewN ?_ _ | refine blk_drew ?_ | refine blk_alloc ?_ _));exact BK204.out⟩,⟨by (with_reducible repeat (first | refine blk_drewN ?_ _ | refine blk_drew ?_ | refine blk_alloc ?_ _));exact BK205.out⟩,⟨by repeat (first | (with_reducible first | exact HB.out | apply below_alloc | apply pw_below_drewN | apply below_drew1 | refine below_set ?_ GE204.out | refine below_set ?_ GE205.out) | exact HB.out)⟩⟩
  ·rw [if_neg c6] at H
   have c6b0 : (a0_0 == a1_0) = false := beq_eq_false_iff_ne.mpr c6
   have c6b1 : (a0_0 != a1_0) = true := bne_iff_ne.mpr c6
   (first | rw [c6b0] | (simp only [i64_w,i32_w];rw [c6b0]) | skip)
   have H' := Aside0.mk H
   clear H
   have hnb14 := NB204_205.out
   have hnc14 := NB205_204.out
   have hcz15_0 : w5.cell? ⟨gb204,0,none⟩ = some (.int .i64 a0_0) := (blk_cell BK204.out 0).trans rfl
   have hcz15_1 : w5.cell? ⟨gb204,1,none⟩ = some (.slice A0_1 l0_1.length c0_1) := (blk_cell BK204.out 1).trans rfl
   have hcz15_2 : w5.cell? ⟨gb204,2,none⟩ = some (.int .i64 a0_2) := (blk_cell BK204.out 2).trans rfl
   have hcz15_3 : w5.cell? ⟨gb204,3,none⟩ = some (.int .i64 a0_3) := (blk_cell BK204.out 3).trans rfl
   have hfz15_0 := blk_frozen BK204.out 0
   have hfz15_1 := blk_frozen BK204.out 1
   have hfz15_2 := blk_frozen BK204.out 2
   have hfz15_3 := blk_frozen BK204.out 3
   have hcz16_0 : w5.cell? ⟨gb205,0,none⟩ = some (.int .i64 a1_0) := (blk_cell BK205.out 0).trans rfl
   have hcz16_1 : w5.cell? ⟨gb205,1,none⟩ = some (.slice A1_1 l1_1.length c1_1) := (blk_cell BK205.out 1).trans rfl
   have hcz16_2 : w5.cell? ⟨gb205,2,none⟩ = some (.int .i64 a1_2) := (blk_cell BK205.out 2).trans rfl
   have hcz16_3 : w5.cell? ⟨gb205,3,none⟩ = some (.int .i64 a1_3) := (blk_cell BK205.out 3).trans rfl
   have hfz16_0 := blk_frozen BK205.out 0
   have hfz16_1 := blk_frozen BK205.out 1
   have hfz16_2 := blk_frozen BK205.out 2
   have hfz16_3 := blk_frozen BK205.out 3
   go_wp2
   repeat (go_quiet (fail);try go_wp2)
   go_meet
   case rel => exact ⟨_,(true),au18,H',⟨by first | omega | exact Nat.le_refl _⟩,⟨by (with_reducible repeat (first | refine blk_drewN ?_ _ | refine blk_drew ?_ | refine blk_alloc ?_ _));exact BK204.out⟩,⟨by (with_reducible repeat (first | refine blk_drewN ?_ _ | refine blk_drew ?_ | refine blk_alloc ?_ _));exact BK205.out⟩,⟨by repeat (first | (with_reducible first | exact HB.out | apply below_alloc | apply pw_below_drewN | apply below_drew1 | refine below_set ?_ GE204.out | refine below_set ?_ GE205.out) | exact HB.out)⟩⟩
 case rest =>
  clear HC3
  try clear c1
  try clear p2
  try clear c3
  try clear c6
  try clear c6b0
  try clear c6b1
  try clear c7
  try clear c7b0
  try clear c8
  try clear c11
  try clear c14
  try clear hcz10_0
  try clear hcz10_1
  try clear hcz10_2
  try clear hcz10_3
  try clear hcz12_0
  try clear hcz12_1
  try clear hcz12_2
  try clear hcz12_3
  try clear hcz13_0
  try clear hcz13_1
  try clear hcz13_2
  try clear hcz13_3
  try clear hcz15_0
  try clear hcz15_1
  try clear hcz15_2
  try clear hcz15_3
  try clear hcz16_0
  try clear hcz16_1
  try clear hcz16_2
  try clear hcz16_3
  try clear hcz9_0
  try clear hcz9_1
  try clear hcz9_2
  try clear hcz9_3
  try clear hfz10_0
  try clear hfz10_1
  try clear hfz10_2
  try clear hfz10_3
  try clear hfz12_0
  try clear hfz12_1
  try clear hfz12_2
  try clear hfz12_3
  try clear hfz13_0
  try clear hfz13_1
  try clear hfz13_2
  try clear hfz13_3
  try clear hfz15_0
  try clear hfz15_1
  try clear hfz15_2
  try clear hfz15_3
  try clear hfz16_0
  try clear hfz16_1
  try clear hfz16_2
  try clear hfz16_3
  try clear hfz9_0
  try clear hfz9_1
  try clear hfz9_2
  try clear hfz9_3
  obtain ⟨kq,x27_2,rfl,HA,HJ2,BK204,BK205,HB⟩ := hcut
  cases kq with
  | zero => exact absurd HA.out (by simp [layout_Same.j0])
  | succ kj2 =>
   have H := HA.out
   clear HA
   simp only [layout_Same.j0] at H
   by_cases c17 : x27_2 = true
   ·subst c17
    have H1 : (some false) = some r := by rw [if_pos rfl] at H;exact H
    clear H
    have H := H1
    clear H1
    obtain rfl := Option.some.inj H
    go_wp2
    repeat (go_quiet (fail);try go_wp2)
    go_ret
    exact ⟨au2,by repeat (first | (with_reducible first | exact HB.out | apply below_alloc | apply pw_below_drewN | apply below_drew1 | refine below_set ?_ GE204.out | refine below_set ?_ GE205.out) | exact HB.out)⟩
   ·replace c17 := Bool.eq_false_iff.mpr c17
    subst c17
    have H1 : (layout_Same.l0 kj2 (l0_1.length : Int) 0 a0_0 l0_1 a0_2 a0_3 a1_0 l1_1 a1_2 a1_3) = some r := by rw [if_neg (show ¬ (false = true) by decide)] at H;exact H
    clear H
    have H := H1
    clear H1
    have H' := Aside0.mk H
    clear H
    have hnb18 := NB204_205.out
    have hnc18 := NB205_204.out
    have hcz19_0 : wc.cell? ⟨gb204,0,none⟩ = some (.int .i64 a0_0) := (blk_cell BK204.out 0).trans rfl
    have hcz19_1 : wc.cell? ⟨gb204,1,none⟩ = some (.slice A0_1 l0_1.length c0_1) := (blk_cell BK204.out 1).trans rfl
    have hcz19_2 : wc.cell? ⟨gb204,2,none⟩ = some (.int .i64 a0_2) := (blk_cell BK204.out 2).trans rfl
    have hcz19_3 : wc.cell? ⟨gb204,3,none⟩ = some (.int .i64 a0_3) := (blk_cell BK204.out 3).trans rfl
    have hfz19_0 := blk_frozen BK204.out 0
    have hfz19_1 := blk_frozen BK204.out 1
    have hfz19_2 := blk_frozen BK204.out 2
    have hfz19_3 := blk_frozen BK204.out 3
    go_wp2
    repeat (go_quiet (fail);try go_wp2)
    go_loopg [31] kj2 (fun kq v31 w' => ∃ (x31_2 : Int),v31 = .int .i64 x31_2 ∧ Aside0 (layout_Same.l0 kq (l0_1.length : Int) x31_2 a0_0 l0_1 a0_2 a0_3 a1_0 l1_1 a1_2 a1_3 = some r) ∧ Aside0 (kq ≤ kj2) ∧ Aside0 (w'.heap[gb204]? = some (.cells #[.int .i64 a0_0,(.slice A0_1 l0_1.length c0_1),.int .i64 a0_2,.int .i64 a0_3] 29 (0,0))) ∧ Aside0 (w'.heap[gb205]? = some (.cells #[.int .i64 a1_0,(.slice A1_1 l1_1.length c1_1),.int .i64 a1_2,.int .i64 a1_3] 29 (0,0))) ∧ Aside0 (Below w.heap.size w w'))
    case atStart => exact ⟨(0),au18,H',⟨Nat.le_refl _⟩,⟨by (with_reducible repeat (first | refine blk_drewN ?_ _ | refine blk_drew ?_ | refine blk_alloc ?_ _));exact BK204.out⟩,⟨by (with_reducible repeat (first | refine blk_drewN ?_ _ | refine blk_drew ?_ | refine blk_alloc ?_ _));exact BK205.out⟩,⟨by repeat (first | (with_reducible first | exact HB.out | apply below_alloc | apply pw_below_drewN | apply below_drew1 | refine below_set ?_ GE204.out | refine below_set ?_ GE205.out) | exact HB.out)⟩⟩
    case round =>
     clear H'
     try clear c1
     try clear p2
     try clear c3
     try clear c6
     try clear c6b0
     try clear c6b1
     try clear c7
     try clear c7b0
     try clear c8
     try clear c11
     try clear c14
     try clear c17
     try clear c18
     try clear hcz10_0
     try clear hcz10_1
     try clear hcz10_2
     try clear hcz10_3
     try clear hcz12_0
     try clear hcz12_1
     try clear hcz12_2
     try clear hcz12_3
     try clear hcz13_0
     try clear hcz13_1
     try clear hcz13_2
     try clear hcz13_3
     try clear hcz15_0
     try clear hcz15_1
     try clear hcz15_2
     try clear hcz15_3
     try clear hcz16_0
     try clear hcz16_1
     try clear hcz16_2
     try clear hcz16_3
     try clear hcz19_0
     try clear hcz19_1
     try clear hcz19_2
     try clear hcz19_3
     try clear hcz9_0
     try clear hcz9_1
     try clear hcz9_2
     try clear hcz9_3
     try clear hfz10_0
     try clear hfz10_1
     try clear hfz10_2
     try clear hfz10_3
     try clear hfz12_0
     try clear hfz12_1
     try clear hfz12_2
     try clear hfz12_3
     try clear hfz13_0
     try clear hfz13_1
     try clear hfz13_2
     try clear hfz13_3
     try clear hfz15_0
     try clear hfz15_1
     try clear hfz15_2
     try clear hfz15_3
     try clear hfz16_0
     try clear hfz16_1
     try clear hfz16_2
     try clear hfz16_3
     try clear hfz19_0
     try clear hfz19_1
     try clear hfz19_2
     try clear hfz19_3
     try clear hfz9_0
     try clear hfz9_1
     try clear hfz9_2
     try clear hfz9_3
     try clear p2
     obtain ⟨x31_2,rfl,HA,HK2,BK204,BK205,HB⟩ := hrel
     cases gk with
     | zero => exact absurd HA.out (by simp [layout_Same.l0])
     | succ k2 =>
      have H := HA.out
      clear HA
      simp only [layout_Same.l0] at H
      by_cases c20 : x31_2 < (l0_1.length : Int)
      ·rw [if_pos c20] at H
       have c20b0 : decide (x31_2 < (l0_1.length : Int)) = true := decide_eq_true c20
       clear c20
       by_cases c21 : 0 ≤ x31_2
       ·rw [if_pos c21] at H
        have c21b0 : decide (0 ≤ x31_2) = true := decide_eq_true c21
        clear c21
        by_cases c22 : x31_2 < (l0_1.length : Int)
        ·rw [if_pos c22] at H
         have c22b0 : decide (x31_2 < (l0_1.length : Int)) = true := decide_eq_true c22
         clear c22
         by_cases c23 : x31_2 < (l1_1.length : Int)
         ·rw [if_pos c23] at H
          have c23b0 : decide (x31_2 < (l1_1.length : Int)) = true := decide_eq_true c23
          clear c23
          by_cases c24 : ((rd_L3 l0_1 x31_2).length : Int) = ((rd_L3 l1_1 x31_2).length : Int)
          ·rw [if_pos c24] at H
           have c24b0 : (((rd_L3 l0_1 x31_2).length : Int) == ((rd_L3 l1_1 x31_2).length : Int)) = true := beq_iff_eq.mpr c24
           have c24b1 : (((rd_L3 l0_1 x31_2).length : Int) != ((rd_L3 l1_1 x31_2).length : Int)) = false := bne_eq_false_iff_eq.mpr c24
           have c24b2 : ((rd_L3 l0_1 x31_2).length == (rd_L3 l1_1 x31_2).length) = true := by first | simpa using c24 | (simp at c24 ⊢;omega)
           clear c24
           have H' := Aside0.mk H
           clear H
           have hnb25 := NB204_205.out
           have hnc25 := NB205_204.out
           have hcz26_0 : wr.cell? ⟨gb204,0,none⟩ = some (.int .i64 a0_0) := (blk_cell BK204.out 0).trans rfl
           have hcz26_1 : wr.cell? ⟨gb204,1,none⟩ = some (.slice A0_1 l0_1.length c0_1) := (blk_cell BK204.out 1).trans rfl
           have hcz26_2 : wr.cell? ⟨gb204,2,none⟩ = some (.int .i64 a0_2) := (blk_cell BK204.out 2).trans rfl
           have hcz26_3 : wr.cell? ⟨gb204,3,none⟩ = some (.int .i64 a0_3) := (blk_cell BK204.out 3).trans rfl
           have hfz26_0 := blk_frozen BK204.out 0
           have hfz26_1 := blk_frozen BK204.out 1
           have hfz26_2 := blk_frozen BK204.out 2
           have hfz26_3 := blk_frozen BK204.out 3
           have p206 : 0 ≤ (x31_2 : Int) := of_decide_eq_true au5
           have q206 : x31_2 < (l0_1.length : Int) := of_decide_eq_true au5
           obtain ⟨ad206,A206_0,c206_0,e206,hx206_0,hl206_0,hi206_0⟩ := at_L3 HR0_1.out x31_2 p206 q206
           cases e206
           replace hx206_0 := (HB.out.cell (World.block_lt_of_cell? w _ hx206_0)).trans hx206_0
           have HR206_0 := Aside0.mk hi206_0
           have HC206_0 := Aside0.mk hl206_0
           clear hi206_0 hl206_0
           replace p206 := eq_true p206
           replace q206 := eq_true q206
           have hcz27_0 : wr.cell? ⟨gb205,0,none⟩ = some (.int .i64 a1_0) := (blk_cell BK205.out 0).trans rfl
           have hcz27_1 : wr.cell? ⟨gb205,1,none⟩ = some (.slice A1_1 l1_1.length c1_1) := (blk_cell BK205.out 1).trans rfl
           have hcz27_2 : wr.cell? ⟨gb205,2,none⟩ = some (.int .i64 a1_2) := (blk_cell BK205.out 2).trans rfl
           have hcz27_3 : wr.cell? ⟨gb205,3,none⟩ = some (.int .i64 a1_3) := (blk_cell BK205.out 3).trans rfl
           have hfz27_0 := blk_frozen BK205.out 0
           have hfz27_1 := blk_frozen BK205.out 1
           have hfz27_2 := blk_frozen BK205.out 2
           have hfz27_3 := blk_frozen BK205.out 3
           have p207 : 0 ≤ (x31_2 : Int) := of_decide_eq_true au5
           have q207 : x31_2 < (l1_1.length : Int) := of_decide_eq_true au5
           obtain ⟨ad207,A207_0,c207_0,e207,hx207_0,hl207_0,hi207_0⟩ := at_L3 HR1_1.out x31_2 p207 q207
           cases e207
           replace hx207_0 := (HB.out.cell (World.block_lt_of_cell? w _ hx207_0)).trans hx207_0
           have HR207_0 := Aside0.mk hi207_0
           have HC207_0 := Aside0.mk hl207_0
           clear hi207_0 hl207_0
           replace p207 := eq_true p207
           replace q207 := eq_true q207
           have p208 : 0 ≤ (x31_2 : Int) := of_decide_eq_true au5
           have q208 : x31_2 < (l0_1.length : Int) := of_decide_eq_true au5
           obtain ⟨ad208,A208_0,c208_0,e208,hx208_0,hl208_0,hi208_0⟩ := at_L3 HR0_1.out x31_2 p208 q208
           obtain rfl : ad206 = ad208 := (by injection e208)
           replace hx208_0 := (HB.out.cell (World.block_lt_of_cell? w _ hx208_0)).trans hx208_0
           have HR208_0 := Aside0.mk hi208_0
           have HC208_0 := Aside0.mk hl208_0
           clear hi208_0 hl208_0
           replace p208 := eq_true p208
           replace q208 := eq_true q208
           have ea_ := Option.some.inj (hx206_0.symm.trans hx208_0)
           injection ea_ with ea_ en_ ec_
           subst ea_
           subst ec_
           clear en_
           go_wp2
           repeat (go_quiet (fail);try go_wp2)
           go_loopg [53] k2 (fun kq v53 w' => ∃ (x53_3 : Int),v53 = .int .i64 x53_3 ∧ Aside0 (layout_Same.l1 kq x31_2 (l0_1.length : Int) x31_2 ((rd_L3 l0_1 x31_2).length : Int) x53_3 a0_0 l0_1 a0_2 a0_3 a1_0 l1_1 a1_2 a1_3 = some r) ∧ Aside0 (kq ≤ k2) ∧ Aside0 (w'.heap[gb204]? = some (.cells #[.int .i64 a0_0,(.slice (some ad206) l0_1.length c0_1),.int .i64 a0_2,.int .i64 a0_3] 29 (0,0))) ∧ Aside0 (w'.heap[gb205]? = some (.cells #[.int .i64 a1_0,(.slice (some ad207) l1_1.length c1_1),.int .i64 a1_2,.int .i64 a1_3] 29 (0,0))) ∧ Aside0 (Below w.heap.size w w'))
           case atStart => exact ⟨(0),au18,H',⟨Nat.le_refl _⟩,⟨by (with_reducible repeat (first | refine blk_drewN ?_ _ | refine blk_drew ?_ | refine blk_alloc ?_ _));exact BK204.out⟩,⟨by (with_reducible repeat (first | refine blk_drewN ?_ _ | refine blk_drew ?_ | refine blk_alloc ?_ _));exact BK205.out⟩,⟨by repeat (first | (with_reducible first | exact HB.out | apply below_alloc | apply pw_below_drewN | apply below_drew1 | refine below_set ?_ GE204.out | refine below_set ?_ GE205.out) | exact HB.out)⟩⟩
           case round =>
            clear H'
            try clear c1
            try clear c2
            try clear p2
            try clear q2
            try clear hx2
            try clear c3
            try clear c6
            try clear c6b0
            try clear c6b1
            try clear c7
            try clear c7b0
            try clear c8
            try clear c11
            try clear c14
            try clear c17
            try clear c18
            try clear c20
            try clear c20b0
            try clear p20
            try clear q20
            try clear hx20
            try clear c21
            try clear c21b0
            try clear c22
            try clear c22b0
            try clear c23
            try clear c23b0
            try clear c24
            try clear c24b0
            try clear c24b1
            try clear c24b2
            try clear c25
            try clear hcz10_0
            try clear hcz10_1
            try clear hcz10_2
            try clear hcz10_3
            try clear hcz12_0
            try clear hcz12_1
            try clear hcz12_2
            try clear hcz12_3
            try clear hcz13_0
            try clear hcz13_1
            try clear hcz13_2
            try clear hcz13_3
            try clear hcz15_0
            try clear hcz15_1
            try clear hcz15_2
            try clear hcz15_3
            try clear hcz16_0
            try clear hcz16_1
            try clear hcz16_2
            try clear hcz16_3
            try clear hcz19_0
            try clear hcz19_1
            try clear hcz19_2
            try clear hcz19_3
            try clear hcz26_0
            try clear hcz26_1
            try clear hcz26_2
            try clear hcz26_3
            try clear hcz27_0
            try clear hcz27_1
            try clear hcz27_2
            try clear hcz27_3
            try clear hcz9_0
            try clear hcz9_1
            try clear hcz9_2
            try clear hcz9_3
            try clear hfz10_0
            try clear hfz10_1
            try clear hfz10_2
            try clear hfz10_3
            try clear hfz12_0
            try clear hfz12_1
            try clear hfz12_2
            try clear hfz12_3
            try clear hfz13_0
            try clear hfz13_1
            try clear hfz13_2
            try clear hfz13_3
            try clear hfz15_0
            try clear hfz15_1
            try clear hfz15_2
            try clear hfz15_3
            try clear hfz16_0
            try clear hfz16_1
            try clear hfz16_2
            try clear hfz16_3
            try clear hfz19_0
            try clear hfz19_1
            try clear hfz19_2
            try clear hfz19_3
            try clear hfz26_0
            try clear hfz26_1
            try clear hfz26_2
            try clear hfz26_3
            try clear hfz27_0
            try clear hfz27_1
            try clear hfz27_2
            try clear hfz27_3
            try clear hfz9_0
            try clear hfz9_1
            try clear hfz9_2
            try clear hfz9_3
            try clear hx206_0
            try clear hx207_0
            try clear hx208_0
            try clear p2
            try clear p206
            try clear p207
            try clear p208
            try clear q206
            try clear q207
            try clear q208
            obtain ⟨x53_3,rfl,HA,HK3,BK204,BK205,HB⟩ := hrel
            cases gk with
            | zero => exact absurd HA.out (by simp [layout_Same.l1])
            | succ k3 =>
             have H := HA.out
             clear HA
             simp only [layout_Same.l1] at H
             by_cases c28 : x53_3 < ((rd_L3 l0_1 x31_2).length : Int)
             ·rw [if_pos c28] at H
              have c28b0 : decide (x53_3 < ((rd_L3 l0_1 x31_2).length : Int)) = true := decide_eq_true c28
              clear c28
              by_cases c29 : 0 ≤ x31_2
              ·rw [if_pos c29] at H
               have c29b0 : decide (0 ≤ x31_2) = true := decide_eq_true c29
               clear c29
               by_cases c30 : x31_2 < (l0_1.length : Int)
               ·rw [if_pos c30] at H
                have c30b0 : decide (x31_2 < (l0_1.length : Int)) = true := decide_eq_true c30
                clear c30
                by_cases c31 : 0 ≤ x53_3
                ·rw [if_pos c31] at H
                 have c31b0 : decide (0 ≤ x53_3) = true := decide_eq_true c31
                 clear c31
                 by_cases c32 : x53_3 < ((rd_L3 l0_1 x31_2).length : Int)
                 ·rw [if_pos c32] at H
                  have c32b0 : decide (x53_3 < ((rd_L3 l0_1 x31_2).length : Int)) = true := decide_eq_true c32
                  clear c32
                  by_cases c33 : x31_2 < (l1_1.length : Int)
                  ·rw [if_pos c33] at H
                   have c33b0 : decide (x31_2 < (l1_1.length : Int)) = true := decide_eq_true c33
                   clear c33
                   by_cases c34 : x53_3 < ((rd_L3 l1_1 x31_2).length : Int)
                   ·rw [if_pos c34] at H
                    have c34b0 : decide (x53_3 < ((rd_L3 l1_1 x31_2).length : Int)) = true := decide_eq_true c34
                    clear c34
                    by_cases c35 : (!((((rd_T35 (rd_L3 l0_1 x31_2) x53_3).f0).toList) == (((rd_T35 (rd_L3 l1_1 x31_2) x53_3).f0).toList)) || (!(((rd_T35 (rd_L3 l0_1 x31_2) x53_3).f1) == ((rd_T35 (rd_L3 l1_1 x31_2) x53_3).f1)))) = true
                    ·rw [if_pos c35] at H
                     have c35b0 : (!((((rd_T35 (rd_L3 l0_1 x31_2) x53_3).f0).toList) == (((rd_T35 (rd_L3 l1_1 x31_2) x53_3).f0).toList)) || (!(((rd_T35 (rd_L3 l0_1 x31_2) x53_3).f1) == ((rd_T35 (rd_L3 l1_1 x31_2) x53_3).f1)))) = true := c35
                     clear c35
                     obtain rfl := Option.some.inj H
                     have hnb36 := NB204_205.out
                     have hnc36 := NB205_204.out
                     have hcz37_0 : wr.cell? ⟨gb204,0,none⟩ = some (.int .i64 a0_0) := (blk_cell BK204.out 0).trans rfl
                     have hcz37_1 : wr.cell? ⟨gb204,1,none⟩ = some (.slice (some ad206) l0_1.length c0_1) := (blk_cell BK204.out 1).trans rfl
                     have hcz37_2 : wr.cell? ⟨gb204,2,none⟩ = some (.int .i64 a0_2) := (blk_cell BK204.out 2).trans rfl
                     have hcz37_3 : wr.cell? ⟨gb204,3,none⟩ = some (.int .i64 a0_3) := (blk_cell BK204.out 3).trans rfl
                     have hfz37_0 := blk_frozen BK204.out 0
                     have hfz37_1 := blk_frozen BK204.out 1
                     have hfz37_2 := blk_frozen BK204.out 2
                     have hfz37_3 := blk_frozen BK204.out 3
                     have p209 : 0 ≤ (x31_2 : Int) := of_decide_eq_true au5
                     have q209 : x31_2 < (l0_1.length : Int) := of_decide_eq_true au5
                     obtain ⟨ad209,A209_0,c209_0,e209,hx209_0,hl209_0,hi209_0⟩ := at_L3 HR0_1.out x31_2 p209 q209
                     obtain rfl : ad206 = ad209 := (by injection e209)
                     replace hx209_0 := (HB.out.cell (World.block_lt_of_cell? w _ hx209_0)).trans hx209_0
                     have HR209_0 := Aside0.mk hi209_0
                     have HC209_0 := Aside0.mk hl209_0
                     clear hi209_0 hl209_0
                     replace p209 := eq_true p209
                     replace q209 := eq_true q209
                     have p210 : 0 ≤ (x53_3 : Int) := of_decide_eq_true au5
                     have q210 : x53_3 < ((rd_L3 l0_1 x31_2).length : Int) := of_decide_eq_true au5
                     obtain ⟨ad210,e210,hx210_0,hx210_1⟩ := at_T35 HR209_0.out x53_3 p210 q210
                     cases e210
                     replace hx210_0 := (HB.out.cell (World.block_lt_of_cell? w _ hx210_0)).trans hx210_0
                     replace hx210_1 := (HB.out.cell (World.block_lt_of_cell? w _ hx210_1)).trans hx210_1
                     replace p210 := eq_true p210
                     replace q210 := eq_true q210
                     have hcz38_0 : wr.cell? ⟨gb205,0,none⟩ = some (.int .i64 a1_0) := (blk_cell BK205.out 0).trans rfl
                     have hcz38_1 : wr.cell? ⟨gb205,1,none⟩ = some (.slice (some ad207) l1_1.length c1_1) := (blk_cell BK205.out 1).trans rfl
                     have hcz38_2 : wr.cell? ⟨gb205,2,none⟩ = some (.int .i64 a1_2) := (blk_cell BK205.out 2).trans rfl
                     have hcz38_3 : wr.cell? ⟨gb205,3,none⟩ = some (.int .i64 a1_3) := (blk_cell BK205.out 3).trans rfl
                     have hfz38_0 := blk_frozen BK205.out 0
                     have hfz38_1 := blk_frozen BK205.out 1
                     have hfz38_2 := blk_frozen BK205.out 2
                     have hfz38_3 := blk_frozen BK205.out 3
                     have p211 : 0 ≤ (x31_2 : Int) := of_decide_eq_true au5
                     have q211 : x31_2 < (l1_1.length : Int) := of_decide_eq_true au5
                     obtain ⟨ad211,A211_0,c211_0,e211,hx211_0,hl211_0,hi211_0⟩ := at_L3 HR1_1.out x31_2 p211 q211
                     obtain rfl : ad207 = ad211 := (by injection e211)
                     replace hx211_0 := (HB.out.cell (World.block_lt_of_cell? w _ hx211_0)).trans hx211_0
                     have HR211_0 := Aside0.mk hi211_0
                     have HC211_0 := Aside0.mk hl211_0
                     clear hi211_0 hl211_0
                     replace p211 := eq_true p211
                     replace q211 := eq_true q211
                     have p212 : 0 ≤ (x53_3 : Int) := of_decide_eq_true au5
                     have q212 : x53_3 < ((rd_L3 l1_1 x31_2).length : Int) := of_decide_eq_true au5
                     obtain ⟨ad212,e212,hx212_0,hx212_1⟩ := at_T35 HR211_0.out x53_3 p212 q212
                     cases e212
                     replace hx212_0 := (HB.out.cell (World.block_lt_of_cell? w _ hx212_0)).trans hx212_0
                     replace hx212_1 := (HB.out.cell (World.block_lt_of_cell? w _ hx212_1)).trans hx212_1
                     replace p212 := eq_true p212
                     replace q212 := eq_true q212
                     go_wp2
                     repeat (go_quiet (fail);try go_wp2)
                     go_ret
                     exact ⟨au2,by repeat (first | (with_reducible first | exact HB.out | apply below_alloc | apply pw_below_drewN | apply below_drew1 | refine below_set ?_ GE204.out | refine below_set ?_ GE205.out) | exact HB.out)⟩
                    ·rw [if_neg c35] at H
                     have c35b0 : (!((((rd_T35 (rd_L3 l0_1 x31_2) x53_3).f0).toList) == (((rd_T35 (rd_L3 l1_1 x31_2) x53_3).f0).toList)) || (!(((rd_T35 (rd_L3 l0_1 x31_2) x53_3).f1) == ((rd_T35 (rd_L3 l1_1 x31_2) x53_3).f1)))) = false := by simpa using c35
                     clear c35
                     have H' := Aside0.mk H
                     clear H
                     have hnb39 := NB204_205.out
                     have hnc39 := NB205_204.out
                     have hcz40_0 : wr.cell? ⟨gb204,0,none⟩ = some (.int .i64 a0_0) := (blk_cell BK204.out 0).trans rfl
                     have hcz40_1 : wr.cell? ⟨gb204,1,none⟩ = some (.slice (some ad206) l0_1.length c0_1) := (blk_cell BK204.out 1).trans rfl
                     have hcz40_2 : wr.cell? ⟨gb204,2,none⟩ = some (.int .i64 a0_2) := (blk_cell BK204.out 2).trans rfl
                     have hcz40_3 : wr.cell? ⟨gb204,3,none⟩ = some (.int .i64 a0_3) := (blk_cell BK204.out 3).trans rfl
                     have hfz40_0 := blk_frozen BK204.out 0
                     have hfz40_1 := blk_frozen BK204.out 1
                     have hfz40_2 := blk_frozen BK204.out 2
                     have hfz40_3 := blk_frozen BK204.out 3
                     have p209 : 0 ≤ (x31_2 : Int) := of_decide_eq_true au5
                     have q209 : x31_2 < (l0_1.length : Int) := of_decide_eq_true au5
                     obtain ⟨ad209,A209_0,c209_0,e209,hx209_0,hl209_0,hi209_0⟩ := at_L3 HR0_1.out x31_2 p209 q209
                     obtain rfl : ad206 = ad209 := (by injection e209)
                     replace hx209_0 := (HB.out.cell (World.block_lt_of_cell? w _ hx209_0)).trans hx209_0
                     have HR209_0 := Aside0.mk hi209_0
                     have HC209_0 := Aside0.mk hl209_0
                     clear hi209_0 hl209_0
                     replace p209 := eq_true p209
                     replace q209 := eq_true q209
                     have p210 : 0 ≤ (x53_3 : Int) := of_decide_eq_true au5
                     have q210 : x53_3 < ((rd_L3 l0_1 x31_2).length : Int) := of_decide_eq_true au5
                     obtain ⟨ad210,e210,hx210_0,hx210_1⟩ := at_T35 HR209_0.out x53_3 p210 q210
                     cases e210
                     replace hx210_0 := (HB.out.cell (World.block_lt_of_cell? w _ hx210_0)).trans hx210_0
                     replace hx210_1 := (HB.out.cell (World.block_lt_of_cell? w _ hx210_1)).trans hx210_1
                     replace p210 := eq_true p210
                     replace q210 := eq_true q210
                     have hcz41_0 : wr.cell? ⟨gb205,0,none⟩ = some (.int .i64 a1_0) := (blk_cell BK205.out 0).trans rfl
                     have hcz41_1 : wr.cell? ⟨gb205,1,none⟩ = some (.slice (some ad207) l1_1.length c1_1) := (blk_cell BK205.out 1).trans rfl
                     have hcz41_2 : wr.cell? ⟨gb205,2,none⟩ = some (.int .i64 a1_2) := (blk_cell BK205.out 2).trans rfl
                     have hcz41_3 : wr.cell? ⟨gb205,3,none⟩ = some (.int .i64 a1_3) := (blk_cell BK205.out 3).trans rfl
                     have hfz41_0 := blk_frozen BK205.out 0
                     have hfz41_1 := blk_frozen BK205.out 1
                     have hfz41_2 := blk_frozen BK205.out 2
                     have hfz41_3 := blk_frozen BK205.out 3
                     have p211 : 0 ≤ (x31_2 : Int) := of_decide_eq_true au5
                     have q211 : x31_2 < (l1_1.length : Int) := of_decide_eq_true au5
                     obtain ⟨ad211,A211_0,c211_0,e211,hx211_0,hl211_0,hi211_0⟩ := at_L3 HR1_1.out x31_2 p211 q211
                     obtain rfl : ad207 = ad211 := (by injection e211)
                     replace hx211_0 := (HB.out.cell (World.block_lt_of_cell? w _ hx211_0)).trans hx211_0
                     have HR211_0 := Aside0.mk hi211_0
                     have HC211_0 := Aside0.mk hl211_0
                     clear hi211_0 hl211_0
                     replace p211 := eq_true p211
                     replace q211 := eq_true q211
                     have p212 : 0 ≤ (x53_3 : Int) := of_decide_eq_true au5
                     have q212 : x53_3 < ((rd_L3 l1_1 x31_2).length : Int) := of_decide_eq_true au5
                     obtain ⟨ad212,e212,hx212_0,hx212_1⟩ := at_T35 HR211_0.out x53_3 p212 q212
                     cases e212
                     replace hx212_0 := (HB.out.cell (World.block_lt_of_cell? w _ hx212_0)).trans hx212_0
                     replace hx212_1 := (HB.out.cell (World.block_lt_of_cell? w _ hx212_1)).trans hx212_1
                     replace p212 := eq_true p212
                     replace q212 := eq_true q212
                     go_wp2
                     repeat (go_quiet (fail);try go_wp2)
                     go_roundg k3
                     case measure => have := HJ2.out;have := HK2.out;have := HK3.out;omega
                     case rel => exact ⟨(wrap64 (x53_3 + 1)),au18,H',⟨by have := HJ2.out;have := HK2.out;have := HK3.out;omega⟩,⟨by (with_reducible repeat (first | refine blk_drewN ?_ _ | refine blk_drew ?_ | refine blk_alloc ?_ _));exact BK204.out⟩,⟨by (with_reducible repeat (first | refine blk_drewN ?_ _ | refine blk_drew ?_ | refine blk_alloc ?_ _));exact BK205.out⟩,⟨by repeat (first | (with_reducible first | exact HB.out | apply below_alloc | apply pw_below_drewN | apply below_drew1 | refine below_set ?_ GE204.out | refine below_set ?_ GE205.out) | exact HB.out)⟩⟩
                   ·rw [if_neg c34] at H
                    exact absurd H (by simp)
                  ·rw [if_neg c33] at H
                   exact absurd H (by simp)
                 ·rw [if_neg c32] at H
                  exact absurd H (by simp)
                ·rw [if_neg c31] at H
                 exact absurd H (by simp)
               ·rw [if_neg c30] at H
                exact absurd H (by simp)
              ·rw [if_neg c29] at H
               exact absurd H (by simp)
             ·rw [if_neg c28] at H
              have c28b0 : decide (x53_3 < ((rd_L3 l0_1 x31_2).length : Int)) = false := decide_eq_false c28
              clear c28
              have H' := Aside0.mk H
              clear H
              go_wp2
              repeat (go_quiet (fail);try go_wp2)
              go_roundg k3
              case measure => have := HJ2.out;have := HK2.out;have := HK3.out;omega
              case rel => exact ⟨(wrap64 (x31_2 + 1)),au18,H',⟨by have := HJ2.out;have := HK2.out;have := HK3.out;omega⟩,⟨by (with_reducible repeat (first | refine blk_drewN ?_ _ | refine blk_drew ?_ | refine blk_alloc ?_ _));exact BK204.out⟩,⟨by (with_reducible repeat (first | refine blk_drewN ?_ _ | refine blk_drew ?_ | refine blk_alloc ?_ _));exact BK205.out⟩,⟨by repeat (first | (with_reducible first | exact HB.out | apply below_alloc | apply pw_below_drewN | apply below_drew1 | refine below_set ?_ GE204.out | refine below_set ?_ GE205.out) | exact HB.out)⟩⟩
          ·rw [if_neg c24] at H
           have c24b0 : (((rd_L3 l0_1 x31_2).length : Int) == ((rd_L3 l1_1 x31_2).length : Int)) = false := beq_eq_false_iff_ne.mpr c24
           have c24b1 : (((rd_L3 l0_1 x31_2).length : Int) != ((rd_L3 l1_1 x31_2).length : Int)) = true := bne_iff_ne.mpr c24
           have c24b2 : ((rd_L3 l0_1 x31_2).length == (rd_L3 l1_1 x31_2).length) = false := by first | simpa using c24 | (simp at c24 ⊢;omega)
           obtain rfl := Option.some.inj H
           have hnb42 := NB204_205.out
           have hnc42 := NB205_204.out
           have hcz43_0 : wr.cell? ⟨gb204,0,none⟩ = some (.int .i64 a0_0) := (blk_cell BK204.out 0).trans rfl
           have hcz43_1 : wr.cell? ⟨gb204,1,none⟩ = some (.slice A0_1 l0_1.length c0_1) := (blk_cell BK204.out 1).trans rfl
           have hcz43_2 : wr.cell? ⟨gb204,2,none⟩ = some (.int .i64 a0_2) := (blk_cell BK204.out 2).trans rfl
           have hcz43_3 : wr.cell? ⟨gb204,3,none⟩ = some (.int .i64 a0_3) := (blk_cell BK204.out 3).trans rfl
           have hfz43_0 := blk_frozen BK204.out 0
           have hfz43_1 := blk_frozen BK204.out 1
           have hfz43_2 := blk_frozen BK204.out 2
           have hfz43_3 := blk_frozen BK204.out 3
           have p206 : 0 ≤ (x31_2 : Int) := of_decide_eq_true au5
           have q206 : x31_2 < (l0_1.length : Int) := of_decide_eq_true au5
           obtain ⟨ad206,A206_0,c206_0,e206,hx206_0,hl206_0,hi206_0⟩ := at_L3 HR0_1.out x31_2 p206 q206
           cases e206
           replace hx206_0 := (HB.out.cell (World.block_lt_of_cell? w _ hx206_0)).trans hx206_0
           have HR206_0 := Aside0.mk hi206_0
           have HC206_0 := Aside0.mk hl206_0
           clear hi206_0 hl206_0
           replace p206 := eq_true p206
           replace q206 := eq_true q206
           have hcz44_0 : wr.cell? ⟨gb205,0,none⟩ = some (.int .i64 a1_0) := (blk_cell BK205.out 0).trans rfl
           have hcz44_1 : wr.cell? ⟨gb205,1,none⟩ = some (.slice A1_1 l1_1.length c1_1) := (blk_cell BK205.out 1).trans rfl
           have hcz44_2 : wr.cell? ⟨gb205,2,none⟩ = some (.int .i64 a1_2) := (blk_cell BK205.out 2).trans rfl
           have hcz44_3 : wr.cell? ⟨gb205,3,none⟩ = some (.int .i64 a1_3) := (blk_cell BK205.out 3).trans rfl
           have hfz44_0 := blk_frozen BK205.out 0
           have hfz44_1 := blk_frozen BK205.out 1
           have hfz44_2 := blk_frozen BK205.out 2
           have hfz44_3 := blk_frozen BK205.out 3
           have p207 : 0 ≤ (x31_2 : Int) := of_decide_eq_true au5
           have q207 : x31_2 < (l1_1.length : Int) := of_decide_eq_true au5
           obtain ⟨ad207,A207_0,c207_0,e207,hx207_0,hl207_0,hi207_0⟩ := at_L3 HR1_1.out x31_2 p207 q207
           cases e207
           replace hx207_0 := (HB.out.cell (World.block_lt_of_cell? w _ hx207_0)).trans hx207_0
           have HR207_0 := Aside0.mk hi207_0
           have HC207_0 := Aside0.mk hl207_0
           clear hi207_0 hl207_0
           replace p207 := eq_true p207
           replace q207 := eq_true q207
           go_wp2
           repeat (go_quiet (fail);try go_wp2)
           go_ret
           exact ⟨au2,by repeat (first | (with_reducible first | exact HB.out | apply below_alloc | apply pw_below_drewN | apply below_drew1 | refine below_set ?_ GE204.out | refine below_set ?_ GE205.out) | exact HB.out)⟩
         ·rw [if_neg c23] at H
          exact absurd H (by simp)
        ·rw [if_neg c22] at H
         exact absurd H (by simp)
       ·rw [if_neg c21] at H
        exact absurd H (by simp)
      ·rw [if_neg c20] at H
       have c20b0 : decide (x31_2 < (l0_1.length : Int)) = false := decide_eq_false c20
       clear c20
       obtain rfl := Option.some.inj H
       go_wp2
       repeat (go_quiet (fail);try go_wp2)
       go_ret
       exact ⟨au2,by repeat (first | (with_reducible first | exact HB.out | apply below_alloc | apply pw_below_drewN | apply below_drew1 | refine below_set ?_ GE204.out | refine below_set ?_ GE205.out) | exact HB.out)⟩
end Go.Proofs.YtnpjaaldppemlaaDoor.U
end
section
namespace Go.Proofs.YtnpjaaldppemlaaDoor.U
open Go.RowKit Go.Proofs.YtnpjaaldppemlaaDoorW.PrintWords Go.Proofs.YtnpjaaldppemlaaDoorW.PrintLast Go.Proofs.YtnpjaaldppemlaaDoorW.PrintMore
attribute [local go_sem] max2_int min2_int max_two min_two max_three min_three max_four min_four   -- for this text's walks alone
set_option linter.unusedVariables false
set_option linter.unusedSimpArgs false
attribute [local go_sem high] eqA35
def width_marks.f  : Option (List Int) := some (([768,879,1155,1161,1425,1469,1471,1471,1473,1474,1552,1562,1611,1631,1648,1648,1750,1756,2304,2306,2364,2364,2381,2381,3633,3633,3636,3642,3655,3662,4957,4959,6832,6911,7616,7679,8204,8205,8400,8447,12330,12335,12441,12442,65024,65039,65056,65071,127995,127999,917760,917999] : List Int))
set_option maxHeartbeats 8000000 in
set_option maxRecDepth 100000 in
theorem width_marks.calls  (r : List Int) (w : World) (h : width_marks.f  = some r) :
  Calls Tryd.prog 85 #[] w fun e w' => ∃ v0_ : Value,e = .returned (v0_) ∧ Kd.R (Kd.int .i32) 21 w' w.heap.size (fun _ => True) v0_ r ∧ Below w.heap.size w w' := by
 have HB := Aside0.mk (Below.refl w.heap.size w)
 have H : (some (([768,879,1155,1161,1425,1469,1471,1471,1473,1474,1552,1562,1611,1631,1648,1648,1750,1756,2304,2306,2364,2364,2381,2381,3633,3633,3636,3642,3655,3662,4957,4959,6832,6911,7616,7679,8204,8205,8400,8447,12330,12335,12441,12442,65024,65039,65056,65071,127995,127999,917760,917999] : List Int))) = some r := h
 clear h
 obtain ⟨y120,hy120⟩ : ∃ y_ : List Int,y_ = (([768,879,1155,1161,1425,1469,1471,1471,1473,1474,1552,1562,1611,1631,1648,1648,1750,1756,2304,2306,2364,2364,2381,2381,3633,3633,3636,3642,3655,3662,4957,4959,6832,6911,7616,7679,8204,8205,8400,8447,12330,12335,12441,12442,65024,65039,65056,65071,127995,127999,917760,917999] : List Int)) := ⟨_,rfl⟩
 replace H : (some y120) = some r := by first | (rw [hy120];with_reducible exact H) | (have H2_ := (Option.bind_some _ _).symm.trans H;rw [hy120];with_reducible exact H2_) | (have H2_ := (Option.bind_some _ _).symm.trans H;with_reducible exact H2_) | with_reducible exact H | (rw [hy120];exact H) | exact H
 have Ny120 := Aside0.mk hy120
 clear hy120
 obtain rfl := Option.some.inj H
 go_enter Tryd.func85,Tryd.ntmps85
 go_wp2_with (first | ((with_reducible refine gate_dst (N := 1) rfl ?_);refine Kd.R_lit (Kd.int .i32) _ 21 ?hg (N := 1) ?hd (xs := ([768,879,1155,1161,1425,1469,1471,1471,1473,1474,1552,1562,1611,1631,1648,1648,1750,1756,2304,2306,2364,2364,2381,2381,3633,3633,3636,3642,3655,3662,4957,4959,6832,6911,7616,7679,8204,8205,8400,8447,12330,12335,12441,12442,65024,65039,65056,65071,127995,127999,917760,917999] : List Int)) (inner := [.int .i32 768,.int .i32 879,.int .i32 1155,.int .i32 1161,.int .i32 1425,.int .i32 1469,.int .i32 1471,.int .i32 1471,.int .i32 1473,.int .i32 1474,.int .i32 1552,.int .i32 1562,.int .i32 1611,.int .i32 1631,.int .i32 1648,.int .i32 1648,.int .i32 1750,.int .i32 1756,.int .i32 2304,.int .i32 2306,.int .i32 2364,.int .i32 2364,.int .i32 2381,.int .i32 2381,.int .i32 3633,.int .i32 3633,.int .i32 3636,.int .i32 3642,.int .i32 3655,.int .i32 3662,.int .i32 4957,.int .i32 4959,.int .i32 6832,.int .i32 6911,.int .i32 7616,.int .i32 7679,.int .i32 8204,.int .i32 8205,.int .i32 8400,.int .i32 8447,.int .i32 12330,.int .i32 12335,.int .i32 12441,.int .i32 12442,.int .i32 65024,.int .i32 65039,.int .i32 65056,.int .i32 65071,.int .i32 127995,.int .i32 127999,.int .i32 917760,.int .i32 917999]) (ok := fun _ => True) (okp := fun _ => True) ?hr ?hp (fun _ hk => hk) trivial (Below.refl _ _) (Nat.le_refl _) (by simp) ?_;(case hd => rfl);(case hg => rfl);(case hr => first | (go_simp;done) | (go_simp;rfl));(case hp => exact (Reps.one (show Kd.M (Kd.int .i32) _ _ _ 768 [.int .i32 768] from rfl) (Reps.one (show Kd.M (Kd.int .i32) _ _ _ 879 [.int .i32 879] from rfl) (Reps.one (show Kd.M (Kd.int .i32) _ _ _ 1155 [.int .i32 1155] from rfl) (Reps.one (show Kd.M (Kd.int .i32) _ _ _ 1161 [.int .i32 1161] from rfl) (Reps.one (show Kd.M (Kd.int .i32) _ _ _ 1425 [.int .i32 1425] from rfl) (Reps.one (show Kd.M (Kd.int .i32) _ _ _ 1469 [.int .i32 1469] from rfl) (Reps.one (show Kd.M (Kd.int .i32) _ _ _ 1471 [.int .i32 1471] from rfl) (Reps.one (show Kd.M (Kd.int .i32) _ _ _ 1471 [.int .i32 1471] from rfl) (Reps.one (show Kd.M (Kd.int .i32) _ _ _ 1473 [.int .i32 1473] from rfl) (Reps.one (show Kd.M (Kd.int .i32) _ _ _ 1474 [.int .i32 1474] from rfl) (Reps.one (show Kd.M (Kd.int .i32) _ _ _ 1552 [.int .i32 1552] from rfl) (Reps.one (show Kd.M (Kd.int .i32) _ _ _ 1562 [.int .i32 1562] from rfl) (Reps.one (show Kd.M (Kd.int .i32) _ _ _ 1611 [.int .i32 1611] from rfl) (Reps.one (show Kd.M (Kd.int .i32) _ _ _ 1631 [.int .i32 1631] from rfl) (Reps.one (show Kd.M (Kd.int .i32) _ _ _ 1648 [.int .i32 1648] from rfl) (Reps.one (show Kd.M (Kd.int .i32) _ _ _ 1648 [.int .i32 1648] from rfl) (Reps.one (show Kd.M (Kd.int .i32) _ _ _ 1750 [.int .i32 1750] from rfl) (Reps.one (show Kd.M (Kd.int .i32) _ _ _ 1756 [.int .i32 1756] from rfl) (Reps.one (show Kd.M (Kd.int .i32) _ _ _ 2304 [.int .i32 2304] from rfl) (Reps.one (show Kd.M (Kd.int .i32) _ _ _ 2306 [.int .i32 2306] from rfl) (Reps.one (show Kd.M (Kd.int .i32) _ _ _ 2364 [.int .i32 2364] from rfl) (Reps.one (show Kd.M (Kd.int .i32) _ _ _ 2364 [.int .i32 2364] from rfl) (Reps.one (show Kd.M (Kd.int .i32) _ _ _ 2381 [.int .i32 2381] from rfl) (Reps.one (show Kd.M (Kd.int .i32) _ _ _ 2381 [.int .i32 2381] from rfl) (Reps.one (show Kd.M (Kd.int .i32) _ _ _ 3633 [.int .i32 3633] from rfl) (Reps.one (show Kd.M (Kd.int .i32) _ _ _ 3633 [.int .i32 3633] from rfl) (Reps.one (show Kd.M (Kd.int .i32) _ _ _ 3636 [.int .i32 3636] from rfl) (Reps.one (show Kd.M (Kd.int .i32) _ _ _ 3642 [.int .i32 3642] from rfl) (Reps.one (show Kd.M (Kd.int .i32) _ _ _ 3655 [.int .i32 3655] from rfl) (Reps.one (show Kd.M (Kd.int .i32) _ _ _ 3662 [.int .i32 3662] from rfl) (Reps.one (show Kd.M (Kd.int .i32) _ _ _ 4957 [.int .i32 4957] from rfl) (Reps.one (show Kd.M (Kd.int .i32) _ _ _ 4959 [.int .i32 4959] from rfl) (Reps.one (show Kd.M (Kd.int .i32) _ _ _ 6832 [.int .i32 6832] from rfl) (Reps.one (show Kd.M (Kd.int .i32) _ _ _ 6911 [.int .i32 6911] from rfl) (Reps.one (show Kd.M (Kd.int .i32) _ _ _ 7616 [.int .i32 7616] from rfl) (Reps.one (show Kd.M (Kd.int .i32) _ _ _ 7679 [.int .i32 7679] from rfl) (Reps.one (show Kd.M (Kd.int .i32) _ _ _ 8204 [.int .i32 8204] from rfl) (Reps.one (show Kd.M (Kd.int .i32) _ _ _ 8205 [.int .i32 8205] from rfl) (Reps.one (show Kd.M (Kd.int .i32) _ _ _ 8400 [.int .i32 8400] from rfl) (Reps.one (show Kd.M (Kd.int .i32) _ _ _ 8447 [.int .i32 8447] from rfl) (Reps.one (show Kd.M (Kd.int .i32) _ _ _ 12330 [.int .i32 12330] from rfl) (Reps.one (show Kd.M (Kd.int .i32) _ _ _ 12335 [.int .i32 12335] from rfl) (Reps.one (show Kd.M (Kd.int .i32) _ _ _ 12441 [.int .i32 12441] from rfl) (Reps.one (show Kd.M (Kd.int .i32) _ _ _ 12442 [.int .i32 12442] from rfl) (Reps.one (show Kd.M (Kd.int .i32) _ _ _ 65024 [.int .i32 65024] from rfl) (Reps.one (show Kd.M (Kd.int .i32) _ _ _ 65039 [.int .i32 65039] from rfl) (Reps.one (show Kd.M (Kd.int .i32) _ _ _ 65056 [.int .i32 65056] from rfl) (Reps.one (show Kd.M (Kd.int .i32) _ _ _ 65071 [.int .i32 65071] from rfl) (Reps.one (show Kd.M (Kd.int .i32) _ _ _ 127995 [.int .i32 127995] from rfl) (Reps.one (show Kd.M (Kd.int .i32) _ _ _ 127999 [.int .i32 127999] from rfl) (Reps.one (show Kd.M (Kd.int .i32) _ _ _ 917760 [.int .i32 917760] from rfl) (Reps.one (show Kd.M (Kd.int .i32) _ _ _ 917999 [.int .i32 917999] from rfl) (Reps.none _ _))))))))))))))))))))))))))))))))))))))))))))))))))))));intro v121 w1 ho2 hb hg_ hnew_;clear hg_ hnew_;(first | rw [← Ny120.out] at ho2 | (simp only [Int.reduceToNat] at ho2;rw [← Ny120.out] at ho2));have n0_ := Aside0.mk (Kd.R_lower ho2 (below_size au0));have n1_ := Aside0.mk (below_step au0 hb);clear HB;have HO122 := n0_;have HB := n1_;clear n0_ n1_;clear hb ho2))
 go_ret
 exact ⟨_,by first | rfl | (simp [errW_none,errW_some] <;> rfl) | (simp [*,errW_none,errW_some] <;> rfl),by (with_reducible repeat (first | apply Kd.R_alloc | apply Kd.R_drewN | apply Kd.R_drew));exact HO122.out,au0⟩
def width_wides.f  : Option (List Int) := some (([4352,4447,8986,8987,9001,9002,9193,9196,9725,9726,9748,9749,9800,9811,9898,9899,11904,12329,12336,12350,12353,12440,12443,19903,19968,42191,43360,43391,44032,55203,63744,64255,65072,65135,65281,65376,65504,65510,94176,101119,110592,111359,127744,127994,128000,128591,128640,128767,129280,129535,131072,196605,196608,262141] : List Int))
set_option maxHeartbeats 8000000 in
set_option maxRecDepth 100000 in
theorem width_wides.calls  (r : List Int) (w : World) (h : width_wides.f  = some r) :
  Calls Tryd.prog 86 #[] w fun e w' => ∃ v0_ : Value,e = .returned (v0_) ∧ Kd.R (Kd.int .i32) 21 w' w.heap.size (fun _ => True) v0_ r ∧ Below w.heap.size w w' := by
 have HB := Aside0.mk (Below.refl w.heap.size w)
 have H : (some (([4352,4447,8986,8987,9001,9002,9193,9196,9725,9726,9748,9749,9800,9811,9898,9899,11904,12329,12336,12350,12353,12440,12443,19903,19968,42191,43360,43391,44032,55203,63744,64255,65072,65135,65281,65376,65504,65510,94176,101119,110592,111359,127744,127994,128000,128591,128640,128767,129280,129535,131072,196605,196608,262141] : List Int))) = some r := h
 clear h
 obtain ⟨y123,hy123⟩ : ∃ y_ : List Int,y_ = (([4352,4447,8986,8987,9001,9002,9193,9196,9725,9726,9748,9749,9800,9811,9898,9899,11904,12329,12336,12350,12353,12440,12443,19903,19968,42191,43360,43391,44032,55203,63744,64255,65072,65135,65281,65376,65504,65510,94176,101119,110592,111359,127744,127994,128000,128591,128640,128767,129280,129535,131072,196605,196608,262141] : List Int)) := ⟨_,rfl⟩
 replace H : (some y123) = some r := by first | (rw [hy123];with_reducible exact H) | (have H2_ := (Option.bind_some _ _).symm.trans H;rw [hy123];with_reducible exact H2_) | (have H2_ := (Option.bind_some _ _).symm.trans H;with_reducible exact H2_) | with_reducible exact H | (rw [hy123];exact H) | exact H
 have Ny123 := Aside0.mk hy123
 clear hy123
 obtain rfl := Option.some.inj H
 go_enter Tryd.func86,Tryd.ntmps86
 go_wp2_with (first | ((with_reducible refine gate_dst (N := 1) rfl ?_);refine Kd.R_lit (Kd.int .i32) _ 21 ?hg (N := 1) ?hd (xs := ([4352,4447,8986,8987,9001,9002,9193,9196,9725,9726,9748,9749,9800,9811,9898,9899,11904,12329,12336,12350,12353,12440,12443,19903,19968,42191,43360,43391,44032,55203,63744,64255,65072,65135,65281,65376,65504,65510,94176,101119,110592,111359,127744,127994,128000,128591,128640,128767,129280,129535,131072,196605,196608,262141] : List Int)) (inner := [.int .i32 4352,.int .i32 4447,.int .i32 8986,.int .i32 8987,.int .i32 9001,.int .i32 9002,.int .i32 9193,.int .i32 9196,.int .i32 9725,.int .i32 9726,.int .i32 9748,.int .i32 9749,.int .i32 9800,.int .i32 9811,.int .i32 9898,.int .i32 9899,.int .i32 11904,.int .i32 12329,.int .i32 12336,.int .i32 12350,.int .i32 12353,.int .i32 12440,.int .i32 12443,.int .i32 19903,.int .i32 19968,.int .i32 42191,.int .i32 43360,.int .i32 43391,.int .i32 44032,.int .i32 55203,.int .i32 63744,.int .i32 64255,.int .i32 65072,.int .i32 65135,.int .i32 65281,.int .i32 65376,.int .i32 65504,.int .i32 65510,.int .i32 94176,.int .i32 101119,.int .i32 110592,.int .i32 111359,.int .i32 127744,.int .i32 127994,.int .i32 128000,.int .i32 128591,.int .i32 128640,.int .i32 128767,.int .i32 129280,.int .i32 129535,.int .i32 131072,.int .i32 196605,.int .i32 196608,.int .i32 262141]) (ok := fun _ => True) (okp := fun _ => True) ?hr ?hp (fun _ hk => hk) trivial (Below.refl _ _) (Nat.le_refl _) (by simp) ?_;(case hd => rfl);(case hg => rfl);(case hr => first | (go_simp;done) | (go_simp;rfl));(case hp => exact (Reps.one (show Kd.M (Kd.int .i32) _ _ _ 4352 [.int .i32 4352] from rfl) (Reps.one (show Kd.M (Kd.int .i32) _ _ _ 4447 [.int .i32 4447] from rfl) (Reps.one (show Kd.M (Kd.int .i32) _ _ _ 8986 [.int .i32 8986] from rfl) (Reps.one (show Kd.M (Kd.int .i32) _ _ _ 8987 [.int .i32 8987] from rfl) (Reps.one (show Kd.M (Kd.int .i32) _ _ _ 9001 [.int .i32 9001] from rfl) (Reps.one (show Kd.M (Kd.int .i32) _ _ _ 9002 [.int .i32 9002] from rfl) (Reps.one (show Kd.M (Kd.int .i32) _ _ _ 9193 [.int .i32 9193] from rfl) (Reps.one (show Kd.M (Kd.int .i32) _ _ _ 9196 [.int .i32 9196] from rfl) (Reps.one (show Kd.M (Kd.int .i32) _ _ _ 9725 [.int .i32 9725] from rfl) (Reps.one (show Kd.M (Kd.int .i32) _ _ _ 9726 [.int .i32 9726] from rfl) (Reps.one (show Kd.M (Kd.int .i32) _ _ _ 9748 [.int .i32 9748] from rfl) (Reps.one (show Kd.M (Kd.int .i32) _ _ _ 9749 [.int .i32 9749] from rfl) (Reps.one (show Kd.M (Kd.int .i32) _ _ _ 9800 [.int .i32 9800] from rfl) (Reps.one (show Kd.M (Kd.int .i32) _ _ _ 9811 [.int .i32 9811] from rfl) (Reps.one (show Kd.M (Kd.int .i32) _ _ _ 9898 [.int .i32 9898] from rfl) (Reps.one (show Kd.M (Kd.int .i32) _ _ _ 9899 [.int .i32 9899] from rfl) (Reps.one (show Kd.M (Kd.int .i32) _ _ _ 11904 [.int .i32 11904] from rfl) (Reps.one (show Kd.M (Kd.int .i32) _ _ _ 12329 [.int .i32 12329] from rfl) (Reps.one (show Kd.M (Kd.int .i32) _ _ _ 12336 [.int .i32 12336] from rfl) (Reps.one (show Kd.M (Kd.int .i32) _ _ _ 12350 [.int .i32 12350] from rfl) (Reps.one (show Kd.M (Kd.int .i32) _ _ _ 12353 [.int .i32 12353] from rfl) (Reps.one (show Kd.M (Kd.int .i32) _ _ _ 12440 [.int .i32 12440] from rfl) (Reps.one (show Kd.M (Kd.int .i32) _ _ _ 12443 [.int .i32 12443] from rfl) (Reps.one (show Kd.M (Kd.int .i32) _ _ _ 19903 [.int .i32 19903] from rfl) (Reps.one (show Kd.M (Kd.int .i32) _ _ _ 19968 [.int .i32 19968] from rfl) (Reps.one (show Kd.M (Kd.int .i32) _ _ _ 42191 [.int .i32 42191] from rfl) (Reps.one (show Kd.M (Kd.int .i32) _ _ _ 43360 [.int .i32 43360] from rfl) (Reps.one (show Kd.M (Kd.int .i32) _ _ _ 43391 [.int .i32 43391] from rfl) (Reps.one (show Kd.M (Kd.int .i32) _ _ _ 44032 [.int .i32 44032] from rfl) (Reps.one (show Kd.M (Kd.int .i32) _ _ _ 55203 [.int .i32 55203] from rfl) (Reps.one (show Kd.M (Kd.int .i32) _ _ _ 63744 [.int .i32 63744] from rfl) (Reps.one (show Kd.M (Kd.int .i32) _ _ _ 64255 [.int .i32 64255] from rfl) (Reps.one (show Kd.M (Kd.int .i32) _ _ _ 65072 [.int .i32 65072] from rfl) (Reps.one (show Kd.M (Kd.int .i32) _ _ _ 65135 [.int .i32 65135] from rfl) (Reps.one (show Kd.M (Kd.int .i32) _ _ _ 65281 [.int .i32 65281] from rfl) (Reps.one (show Kd.M (Kd.int .i32) _ _ _ 65376 [.int .i32 65376] from rfl) (Reps.one (show Kd.M (Kd.int .i32) _ _ _ 65504 [.int .i32 65504] from rfl) (Reps.one (show Kd.M (Kd.int .i32) _ _ _ 65510 [.int .i32 65510] from rfl) (Reps.one (show Kd.M (Kd.int .i32) _ _ _ 94176 [.int .i32 94176] from rfl) (Reps.one (show Kd.M (Kd.int .i32) _ _ _ 101119 [.int .i32 101119] from rfl) (Reps.one (show Kd.M (Kd.int .i32) _ _ _ 110592 [.int .i32 110592] from rfl) (Reps.one (show Kd.M (Kd.int .i32) _ _ _ 111359 [.int .i32 111359] from rfl) (Reps.one (show Kd.M (Kd.int .i32) _ _ _ 127744 [.int .i32 127744] from rfl) (Reps.one (show Kd.M (Kd.int .i32) _ _ _ 127994 [.int .i32 127994] from rfl) (Reps.one (show Kd.M (Kd.int .i32) _ _ _ 128000 [.int .i32 128000] from rfl) (Reps.one (show Kd.M (Kd.int .i32) _ _ _ 128591 [.int .i32 128591] from rfl) (Reps.one (show Kd.M (Kd.int .i32) _ _ _ 128640 [.int .i32 128640] from rfl) (Reps.one (show Kd.M (Kd.int .i32) _ _ _ 128767 [.int .i32 128767] from rfl) (Reps.one (show Kd.M (Kd.int .i32) _ _ _ 129280 [.int .i32 129280] from rfl) (Reps.one (show Kd.M (Kd.int .i32) _ _ _ 129535 [.int .i32 129535] from rfl) (Reps.one (show Kd.M (Kd.int .i32) _ _ _ 131072 [.int .i32 131072] from rfl) (Reps.one (show Kd.M (Kd.int .i32) _ _ _ 196605 [.int .i32 196605] from rfl) (Reps.one (show Kd.M (Kd.int .i32) _ _ _ 196608 [.int .i32 196608] from rfl) (Reps.one (show Kd.M (Kd.int .i32) _ _ _ 262141 [.int .i32 262141] from rfl) (Reps.none _ _))))))))))))))))))))))))))))))))))))))))))))))))))))))));intro v124 w1 ho2 hb hg_ hnew_;clear hg_ hnew_;(first | rw [← Ny123.out] at ho2 | (simp only [Int.reduceToNat] at ho2;rw [← Ny123.out] at ho2));have n0_ := Aside0.mk (Kd.R_lower ho2 (below_size au0));have n1_ := Aside0.mk (below_step au0 hb);clear HB;have HO125 := n0_;have HB := n1_;clear n0_ n1_;clear hb ho2))
 go_ret
 exact ⟨_,by first | rfl | (simp [errW_none,errW_some] <;> rfl) | (simp [*,errW_none,errW_some] <;> rfl),by (with_reducible repeat (first | apply Kd.R_alloc | apply Kd.R_drewN | apply Kd.R_drew));exact HO125.out,au0⟩
def stringslite_HasPrefix.f (a0 : ByteArray) (a1 : ByteArray) : Option (Bool) := if (a0.size : Int) ≥ (a1.size : Int) then (if 0 ≤ (a1.size : Int) then (if (a1.size : Int) ≤ (a0.size : Int) then (some ((a0.extract 0 ((a1.size : Int) : Int).toNat).toList == a1.toList)) else (none)) else (none)) else (some false)
set_option maxHeartbeats 8000000 in
set_option maxRecDepth 100000 in
theorem stringslite_HasPrefix.calls (a0 : ByteArray) (a1 : ByteArray) (r : Bool) (w : World) (h : stringslite_HasPrefix.f a0 a1 = some r) :
  Calls Tryd.prog 87 #[.string a0,.string a1] w fun e w' => e = .returned (.bool r) ∧ Drawn0 w w' := by
 have H : (if (a0.size : Int) ≥ (a1.size : Int) then (if 0 ≤ (a1.size : Int) then (if (a1.size : Int) ≤ (a0.size : Int) then (some ((a0.extract 0 ((a1.size : Int) : Int).toNat).toList == a1.toList)) else (none)) else (none)) else (some false)) = some r := h
 clear h
 by_cases c3 : (a0.size : Int) ≥ (a1.size : Int)
 ·rw [if_pos c3] at H
  have c3b0 : decide ((a1.size : Int) ≤ (a0.size : Int)) = true := decide_eq_true c3
  have c3b1 : decide (a1.size ≤ a0.size) = true := decide_eq_true (Int.ofNat_le.mp c3)
  clear c3
  by_cases c4 : 0 ≤ (a1.size : Int)
  ·rw [if_pos c4] at H
   have c4b0 := eq_true c4
   have c4b1 : decide (0 ≤ (a1.size : Int)) = true := decide_eq_true c4
   clear c4
   by_cases c5 : (a1.size : Int) ≤ (a0.size : Int)
   ·rw [if_pos c5] at H
    have c5b0 := eq_true c5
    have c5b1 : decide ((a1.size : Int) ≤ (a0.size : Int)) = true := decide_eq_true c5
    clear c5
    obtain rfl := Option.some.inj H
    go_enter Tryd.func87,Tryd.ntmps87
    go_wp2
    go_ret
    exact ⟨by first | rfl | (simp;done) | (simp [*];done),by repeat (first | exact Drawn0.refl _ | apply Drawn0.step)⟩
   ·rw [if_neg c5] at H
    exact absurd H (by simp)
  ·rw [if_neg c4] at H
   exact absurd H (by simp)
 ·rw [if_neg c3] at H
  have c3b0 : decide ((a1.size : Int) ≤ (a0.size : Int)) = false := decide_eq_false c3
  have c3b1 : decide (a1.size ≤ a0.size) = false := decide_eq_false (fun h => c3 (Int.ofNat_le.mpr h))
  clear c3
  obtain rfl := Option.some.inj H
  go_enter Tryd.func87,Tryd.ntmps87
  go_wp2
  go_ret
  exact ⟨by first | rfl | (simp;done) | (simp [*];done),by repeat (first | exact Drawn0.refl _ | apply Drawn0.step)⟩
def strings_HasPrefix.f (a0 : ByteArray) (a1 : ByteArray) : Option (Bool) := (stringslite_HasPrefix.f a0 a1).bind fun t416 => (some t416)
set_option maxHeartbeats 8000000 in
set_option maxRecDepth 100000 in
theorem strings_HasPrefix.calls (a0 : ByteArray) (a1 : ByteArray) (r : Bool) (w : World) (h : strings_HasPrefix.f a0 a1 = some r) :
  Calls Tryd.prog 73 #[.string a0,.string a1] w fun e w' => e = .returned (.bool r) ∧ Drawn0 w w' := by
 have H : ((stringslite_HasPrefix.f a0 a1).bind fun t416 => (some t416)) = some r := h
 clear h
 replace H := Option.bind_eq_some_iff.mp H
 obtain ⟨t416,A30,H⟩ := H
 replace H : (some t416) = some r := H
 have A3 := Aside0.mk A30
 clear A30
 obtain rfl := Option.some.inj H
 go_enter Tryd.func73,Tryd.ntmps73
 go_wp2_with (first | ((with_reducible refine gate_callee (f := 87) rfl ?_);refine goesL_ (some 7) rfl rfl Tryd.func87 (by kernel_rfl) rfl #[.string a0,.string a1] rfl au1 ?_;(with_reducible refine (stringslite_HasPrefix.calls a0 a1 t416 _ A3.out).mono ?_);rintro e w' ⟨rfl,⟨nd,rfl⟩⟩;refine ⟨_,rfl,?_⟩))
 go_ret
 exact ⟨by first | rfl | (simp;done) | (simp [*];done),by repeat (first | exact Drawn0.refl _ | apply Drawn0.step)⟩
end Go.Proofs.YtnpjaaldppemlaaDoor.U
end
section
namespace Go.Proofs
open Go.Shelf
def Tryd.lays169_ren : Go.Shelf.Ren := ⟨fun | 169 => 42 | n => n,fun | 70 => 73 | 9 => 9 | 0 => 0 | 72 => 76 | 37 => 74 | 127 => 102 | 3 => 3 | 5 => 5 | n => n,fun | n => n⟩
theorem Tryd.lays169 : Go.Proofs.Lays.n169 Tryd.prog Tryd.lays169_ren := {
 mixed := by kernel_rfl
 f169 := Tryd.func42.trans (congrArg some (by kernel_rfl))
 t0 := Tryd.underlying0
 a0 := Tryd.isAgg0
 z0 := Tryd.sizeOf0
 v0 := Tryd.zeroValue0
 t3 := Tryd.underlying3
 a3 := Tryd.isAgg3
 z3 := Tryd.sizeOf3
 v3 := Tryd.zeroValue3
 t9 := Tryd.underlying9
 a9 := Tryd.isAgg9
 z9 := Tryd.sizeOf9
 v9 := Tryd.zeroValue9
 t37 := Tryd.underlying74
 a37 := Tryd.isAgg74
 z37 := Tryd.sizeOf74
 v37 := Tryd.zeroValue74
 t70 := Tryd.underlying73
 a70 := Tryd.isAgg73
 z70 := Tryd.sizeOf73
 v70 := Tryd.zeroValue73
 t72 := Tryd.underlying76
 a72 := Tryd.isAgg76
 z72 := Tryd.sizeOf76
 v72 := Tryd.zeroValue76
 t127 := Tryd.underlying102
 a127 := Tryd.isAgg102
 z127 := Tryd.sizeOf102
 v127 := Tryd.zeroValue102 }
theorem Tryd.Builder_Extra_169 : Builder.Extra Tryd.prog Tryd.lays169_ren := {
 sizeBuilder := by kernel_rfl
 liesBuilder := by kernel_rfl
 t5 := Tryd.underlying5
 a5 := Tryd.isAgg5
 z5 := Tryd.sizeOf5
 v5 := Tryd.zeroValue5
 infoByte := by kernel_rfl
 cellsByte := by kernel_rfl
 sizeByte := by kernel_rfl
 neB5 := by decide }
open Go.RowKit in
theorem Tryd.Builder_String_any_k (B b : Nat) (l : List UInt8) (w : World) (h : Lib.IsBuilderF 76 5 B b (Lib.byteCells l) w) (hBw : B ≤ w.heap.size) :
  Calls Tryd.prog 42 #[.pointer (some ⟨b,0,none⟩)] w fun e w' => e = .returned (.string ⟨l.toArray⟩) ∧ (Lib.IsBuilderF 76 5 B b (Lib.byteCells l) w' ∧ Below B w w' ∧ Lib.OthersKept 5 (some b) w w') := Any.Builder_String_any_k Tryd.lays169 Tryd.Builder_Extra_169 B b l w h hBw
def Tryd.lays206_ren : Go.Shelf.Ren := ⟨fun | 206 => 87 | n => n,fun | 9 => 9 | 4 => 4 | 3 => 3 | n => n,fun | n => n⟩
theorem Tryd.lays206 : Go.Proofs.Lays.n206 Tryd.prog Tryd.lays206_ren := {
 mixed := by kernel_rfl
 f206 := Tryd.func87.trans (congrArg some (by kernel_rfl))
 t3 := Tryd.underlying3
 a3 := Tryd.isAgg3
 z3 := Tryd.sizeOf3
 v3 := Tryd.zeroValue3
 t4 := Tryd.underlying4
 a4 := Tryd.isAgg4
 z4 := Tryd.sizeOf4
 v4 := Tryd.zeroValue4
 t9 := Tryd.underlying9
 a9 := Tryd.isAgg9
 z9 := Tryd.sizeOf9
 v9 := Tryd.zeroValue9 }
open Go.RowKit Go.Lib in
theorem Tryd.stringslite_HasPrefix (s p : ByteArray) (w : World) :
  Calls Tryd.prog 87 #[.string s,.string p] w fun e w' => e = .returned (.bool (Lib.hasPrefix s.data.toList p.data.toList)) ∧ w' = w := Any.stringslite_HasPrefix Tryd.lays206 s p w
def Tryd.lays99_ren : Go.Shelf.Ren := ⟨fun | 99 => 73 | 206 => 87 | n => n,fun | 9 => 9 | 4 => 4 | 3 => 3 | n => n,fun | n => n⟩
theorem Tryd.lays99 : Go.Proofs.Lays.n99 Tryd.prog Tryd.lays99_ren := {
 mixed := by kernel_rfl
 f99 := Tryd.func73.trans (congrArg some (by kernel_rfl))
 f206 := Tryd.func87.trans (congrArg some (by kernel_rfl))
 t3 := Tryd.underlying3
 a3 := Tryd.isAgg3
 z3 := Tryd.sizeOf3
 v3 := Tryd.zeroValue3
 t4 := Tryd.underlying4
 a4 := Tryd.isAgg4
 z4 := Tryd.sizeOf4
 v4 := Tryd.zeroValue4
 t9 := Tryd.underlying9
 a9 := Tryd.isAgg9
 z9 := Tryd.sizeOf9
 v9 := Tryd.zeroValue9 }
open Go.RowKit Go.Lib in
theorem Tryd.strings_HasPrefix (s p : ByteArray) (w : World) :
  Calls Tryd.prog 73 #[.string s,.string p] w fun e w' => e = .returned (.bool (Lib.hasPrefix s.data.toList p.data.toList)) ∧ w' = w := Any.strings_HasPrefix Tryd.lays99 s p w
def Tryd.lays197_ren : Go.Shelf.Ren := ⟨fun | 197 => 56 | 260 => 74 | n => n,fun | 9 => 9 | 21 => 21 | 3 => 3 | 4 => 4 | 5 => 5 | 105 => 95 | 119 => 121 | 0 => 0 | 46 => 122 | 139 => 125 | 138 => 124 | n => n,fun | 3 => 0 | 4 => 1 | n => n⟩
theorem Tryd.lays197 : Go.Proofs.Lays.n197 Tryd.prog Tryd.lays197_ren := {
 mixed := by kernel_rfl
 f197 := Tryd.func56.trans (congrArg some (by kernel_rfl))
 f260 := Tryd.func74.trans (congrArg some (by kernel_rfl))
 t0 := Tryd.underlying0
 a0 := Tryd.isAgg0
 z0 := Tryd.sizeOf0
 v0 := Tryd.zeroValue0
 t3 := Tryd.underlying3
 a3 := Tryd.isAgg3
 z3 := Tryd.sizeOf3
 v3 := Tryd.zeroValue3
 t4 := Tryd.underlying4
 a4 := Tryd.isAgg4
 z4 := Tryd.sizeOf4
 v4 := Tryd.zeroValue4
 t5 := Tryd.underlying5
 a5 := Tryd.isAgg5
 z5 := Tryd.sizeOf5
 v5 := Tryd.zeroValue5
 t9 := Tryd.underlying9
 a9 := Tryd.isAgg9
 z9 := Tryd.sizeOf9
 v9 := Tryd.zeroValue9
 t21 := Tryd.underlying21
 a21 := Tryd.isAgg21
 z21 := Tryd.sizeOf21
 v21 := Tryd.zeroValue21
 t46 := Tryd.underlying122
 a46 := Tryd.isAgg122
 z46 := Tryd.sizeOf122
 v46 := Tryd.zeroValue122
 t105 := Tryd.underlying95
 a105 := Tryd.isAgg95
 z105 := Tryd.sizeOf95
 v105 := Tryd.zeroValue95
 t119 := Tryd.underlying121
 a119 := Tryd.isAgg121
 z119 := Tryd.sizeOf121
 t138 := Tryd.underlying124
 a138 := Tryd.isAgg124
 z138 := Tryd.sizeOf124
 v138 := Tryd.zeroValue124
 t139 := Tryd.underlying125
 a139 := Tryd.isAgg125
 z139 := Tryd.sizeOf125
 v139 := Tryd.zeroValue125
 g3 := by kernel_rfl
 g4 := by kernel_rfl }
def Tryd.lays260_ren : Go.Shelf.Ren := ⟨fun | 260 => 74 | n => n,fun | 9 => 9 | 21 => 21 | 3 => 3 | 4 => 4 | 5 => 5 | 119 => 121 | 0 => 0 | 46 => 122 | 139 => 125 | 138 => 124 | n => n,fun | 3 => 0 | 4 => 1 | n => n⟩
theorem Tryd.lays260 : Go.Proofs.Lays.n260 Tryd.prog Tryd.lays260_ren := {
 mixed := by kernel_rfl
 f260 := Tryd.func74.trans (congrArg some (by kernel_rfl))
 t0 := Tryd.underlying0
 a0 := Tryd.isAgg0
 z0 := Tryd.sizeOf0
 v0 := Tryd.zeroValue0
 t3 := Tryd.underlying3
 a3 := Tryd.isAgg3
 z3 := Tryd.sizeOf3
 v3 := Tryd.zeroValue3
 t4 := Tryd.underlying4
 a4 := Tryd.isAgg4
 z4 := Tryd.sizeOf4
 v4 := Tryd.zeroValue4
 t5 := Tryd.underlying5
 a5 := Tryd.isAgg5
 z5 := Tryd.sizeOf5
 v5 := Tryd.zeroValue5
 t9 := Tryd.underlying9
 a9 := Tryd.isAgg9
 z9 := Tryd.sizeOf9
 v9 := Tryd.zeroValue9
 t21 := Tryd.underlying21
 a21 := Tryd.isAgg21
 z21 := Tryd.sizeOf21
 v21 := Tryd.zeroValue21
 t46 := Tryd.underlying122
 a46 := Tryd.isAgg122
 z46 := Tryd.sizeOf122
 v46 := Tryd.zeroValue122
 t119 := Tryd.underlying121
 a119 := Tryd.isAgg121
 z119 := Tryd.sizeOf121
 t138 := Tryd.underlying124
 a138 := Tryd.isAgg124
 z138 := Tryd.sizeOf124
 v138 := Tryd.zeroValue124
 t139 := Tryd.underlying125
 a139 := Tryd.isAgg125
 z139 := Tryd.sizeOf125
 v139 := Tryd.zeroValue125
 g3 := by kernel_rfl
 g4 := by kernel_rfl }
open Go.RowKit Go.Lib in
theorem Tryd.utf8_DecodeRuneInString (s : ByteArray) (w : World) (hT : Lib.Utf8Tabs 0 1 w) :
  Calls Tryd.prog 56 #[.string s] w fun e w' => e = .returned (.tuple #[.int .i32 (Lib.decodeGo s).1,.int .i64 (Lib.decodeGo s).2]) ∧ Below w.heap.size w w' := Any.utf8_DecodeRuneInString Tryd.lays197 s w hT
end Go.Proofs
end
section
namespace Go.Proofs.YtnpjaaldppemlaaDoor.U
open Go.RowKit Go.Proofs.YtnpjaaldppemlaaDoorW.PrintWords Go.Proofs.YtnpjaaldppemlaaDoorW.PrintLast Go.Proofs.YtnpjaaldppemlaaDoorW.PrintMore
set_option linter.unusedVariables false
set_option linter.unusedSimpArgs false
theorem block_of_cell {w : World} {p : Addr} {v : Value} (h : w.cell? p = some v) : p.block < w.heap.size := by
 unfold World.cell? at h
 cases hb : w.heap[p.block]? with
 | none => simp [hb] at h
 | some o => exact (Array.getElem?_eq_some_iff.1 hb).1
/-- The tables lie where nothing is turned. -/
theorem tabs_below {w0 w : World} (h : Lib.Utf8Tabs 0 1 w0) (hb : Below w0.heap.size w0 w) : Lib.Utf8Tabs 0 1 w :=
  ⟨fun c hc => (hb.cell (p := ⟨0, c, none⟩) (block_of_cell (h.1 c hc))).trans (h.1 c hc),
   fun i hi => ⟨(hb.cell (p := ⟨1, 2 * i, none⟩) (block_of_cell (h.2 i hi).1)).trans (h.2 i hi).1,
     (hb.cell (p := ⟨1, 2 * i + 1, none⟩) (block_of_cell (h.2 i hi).2)).trans (h.2 i hi).2⟩⟩
def utf8_DecodeRuneInString.f (a0 : ByteArray) : Option (Int × Int) := some (((Lib.decodeGo a0).1 : Int),((Lib.decodeGo a0).2 : Int))
theorem utf8_DecodeRuneInString.calls (a0 : ByteArray) (r1 : Int) (r2 : Int) (w : World) (hT : Lib.Utf8Tabs 0 1 w) (h : utf8_DecodeRuneInString.f a0 = some (r1,r2)) :
  Calls Tryd.prog 56 #[.string a0] w fun e w' => e = .returned (.tuple #[.int .i32 r1,.int .i64 r2]) ∧ Below w.heap.size w w' := by
 unfold utf8_DecodeRuneInString.f at h
 simp only [Option.some.injEq,Prod.mk.injEq] at h
 obtain ⟨rfl,rfl⟩ := h
 exact Tryd.utf8_DecodeRuneInString a0 w hT
end Go.Proofs.YtnpjaaldppemlaaDoor.U
end
