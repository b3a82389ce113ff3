/- What the law ScreenFresh reaches of this seat's own texts, merged; what nothing uses is left out. -/
import Derived.Test.YtgdpnmikcopkmaaDoorZScreenFresh0
import Derived.Test.YtgdpnmikcopkmaaDoorZScreenFresh1
import Derived.Test.YtgdpnmikcopkmaaDoorZScreenFresh5
section
namespace Go.Proofs.YtgdpnmikcopkmaaDoor.U
open Go.RowKit Go.Proofs.YtgdpnmikcopkmaaDoorW.PrintWords Go.Proofs.YtgdpnmikcopkmaaDoorW.PrintLast Go.Proofs.YtgdpnmikcopkmaaDoorW.PrintMore
attribute [local go_sem] max2_int min2_int max_two min_two max_three min_three max_four min_four   -- for this text's walks alone
set_option linter.unusedVariables false
set_option linter.unusedSimpArgs false
attribute [local go_sem high] eqA24
mutual
def bodkinref22_SameFrame.j0 : Nat → Bool → Int → List (List (S38)) → Int → Int → Int → List (List (S38)) → Int → Int → Option (Bool)
 | 0,_,_,_,_,_,_,_,_,_ => none
 | k + 1,x26,x275000,x275001,x275002,x275003,x276000,x276001,x276002,x276003 => if x26 = true then (some false) else (bodkinref22_SameFrame.l0 k 0 x275000 x275001 x275002 x275003 x276000 x276001 x276002 x276003)
def bodkinref22_SameFrame.l0 : Nat → Int → Int → List (List (S38)) → Int → Int → Int → List (List (S38)) → Int → Int → Option (Bool)
 | 0,_,_,_,_,_,_,_,_,_ => none
 | k + 1,x5,x275000,x275001,x275002,x275003,x276000,x276001,x276002,x276003 => if x5 < (x275001.length : Int) then (if 0 ≤ x5 then (if x5 < (x276001.length : Int) then ((bodkinref22_SameRow.f k (rd_L3 x275001 x5) (rd_L3 x276001 x5)).bind fun t278 => (if t278 = true then (bodkinref22_SameFrame.l0 k (wrap64 (x5 + 1)) x275000 x275001 x275002 x275003 x276000 x276001 x276002 x276003) else (some false))) else (none)) else (none)) else (some true)
end
def bodkinref22_SameFrame.f (k : Nat) (a0_0 : Int) (l0_1 : List (List (S38))) (a0_2 : Int) (a0_3 : Int) (a1_0 : Int) (l1_1 : List (List (S38))) (a1_2 : Int) (a1_3 : Int) : Option (Bool) := if a0_0 = a1_0 then (if (!(a0_2 == a1_2) || (!(a0_3 == a1_3))) = true then (bodkinref22_SameFrame.j0 k true a0_0 l0_1 a0_2 a0_3 a1_0 l1_1 a1_2 a1_3) else (bodkinref22_SameFrame.j0 k ((l0_1.length : Int) != (l1_1.length : Int)) a0_0 l0_1 a0_2 a0_3 a1_0 l1_1 a1_2 a1_3)) else (bodkinref22_SameFrame.j0 k true a0_0 l0_1 a0_2 a0_3 a1_0 l1_1 a1_2 a1_3)
set_option maxHeartbeats 8000000 in
set_option maxRecDepth 100000 in
theorem bodkinref22_SameFrame.calls (k : Nat) (a0_0 : Int) (A0_1 : Option Addr) (c0_1 : Nat) (l0_1 : List (List (S38))) (a0_2 : Int) (a0_3 : Int) (a1_0 : Int) (A1_1 : Option Addr) (c1_1 : Nat) (l1_1 : List (List (S38))) (a1_2 : Int) (a1_3 : Int) (r : Bool) (w : World) (hr0_1 : Kd.C (Kd.slice 38 k38) w A0_1 l0_1.length l0_1) (hc0_1 : l0_1.length ≤ c0_1) (hr1_1 : Kd.C (Kd.slice 38 k38) w A1_1 l1_1.length l1_1) (hc1_1 : l1_1.length ≤ c1_1) (h : bodkinref22_SameFrame.f k a0_0 l0_1 a0_2 a0_3 a1_0 l1_1 a1_2 a1_3 = some r) :
  Calls Tryd.prog 29 #[.agg #[.int .i64 a0_0,.slice A0_1 l0_1.length c0_1,.int .i64 a0_2,.int .i64 a0_3],.agg #[.int .i64 a1_0,.slice A1_1 l1_1.length c1_1,.int .i64 a1_2,.int .i64 a1_3]] w fun e w' => e = .returned (.bool r) ∧ Below w.heap.size w w' := by
 have hu26 := Tryd.underlying26
 have hu24 := Tryd.underlying24
 have HR0_1 := Aside0.mk hr0_1
 have HC0_1 := Aside0.mk hc0_1
 clear hr0_1 hc0_1
 have HR1_1 := Aside0.mk hr1_1
 have HC1_1 := Aside0.mk hc1_1
 clear hr1_1 hc1_1
 have HB := Aside0.mk (Below.refl w.heap.size w)
 have H : (if a0_0 = a1_0 then (if (!(a0_2 == a1_2) || (!(a0_3 == a1_3))) = true then (bodkinref22_SameFrame.j0 k true a0_0 l0_1 a0_2 a0_3 a1_0 l1_1 a1_2 a1_3) else (bodkinref22_SameFrame.j0 k ((l0_1.length : Int) != (l1_1.length : Int)) a0_0 l0_1 a0_2 a0_3 a1_0 l1_1 a1_2 a1_3)) else (bodkinref22_SameFrame.j0 k true a0_0 l0_1 a0_2 a0_3 a1_0 l1_1 a1_2 a1_3)) = some r := h
 clear h
 have HC3 := Aside0.mk H
 clear H
 go_enter Tryd.func29,Tryd.ntmps29
 go_upto_region 1 with (first | ((with_reducible refine gate_dst (N := 2) rfl ?_);(try (refine gate_guard (by rfl) ?_;dsimp only));refine box_event ?hg (N := 2) ?hd (cs := #[.int .i64 a0_0,.slice A0_1 l0_1.length c0_1,.int .i64 a0_2,.int .i64 a0_3]) (t := 26) ?hr ?_;(case hd => rfl);(case hg => rfl);(case hr => first | (go_simp;done) | (go_simp;rfl));intro gb274 hg w4 hbox hb;have n0_ := Aside0.mk (below_step au0 hb);have n1_ := Aside0.mk (hbox);have n2_ := Aside0.mk ((by rw [hg];exact (below_size au0) : w.heap.size ≤ gb274));have n3_ := Aside0.mk ((by rw [hg];exact (below_size au0) : w.heap.size ≤ gb274));clear HB;have HB := n0_;have BK274 := n1_;have GW274 := n2_;have GE274 := n3_;clear n0_ n1_ n2_ n3_;clear hb hbox hg) | ((with_reducible refine gate_dst (N := 3) rfl ?_);(try (refine gate_guard (by rfl) ?_;dsimp only));refine box_event ?hg (N := 3) ?hd (cs := #[.int .i64 a1_0,.slice A1_1 l1_1.length c1_1,.int .i64 a1_2,.int .i64 a1_3]) (t := 26) ?hr ?_;(case hd => rfl);(case hg => rfl);(case hr => first | (go_simp;done) | (go_simp;rfl));intro gb275 hg w5 hbox hb;have n0_ := Aside0.mk (blk_below (g := gb274) (o := .cells #[.int .i64 a0_0,.slice A0_1 l0_1.length c0_1,.int .i64 a0_2,.int .i64 a0_3] 26 (0,0)) au7 hb);have n1_ := Aside0.mk (below_step au3 hb);have n2_ := Aside0.mk (hbox);have n3_ := Aside0.mk ((by rw [hg];exact (below_size au3) : w.heap.size ≤ gb275));have n4_ := Aside0.mk ((by rw [hg];exact (below_size au3) : w.heap.size ≤ gb275));have n5_ := Aside0.mk ((by rw [hg];exact Nat.ne_of_lt (blk_lt (g := gb274) (o := .cells #[.int .i64 a0_0,.slice A0_1 l0_1.length c0_1,.int .i64 a0_2,.int .i64 a0_3] 26 (0,0)) au7) : gb274 ≠ gb275));have n6_ := Aside0.mk ((by rw [hg];exact Nat.ne_of_gt (blk_lt (g := gb274) (o := .cells #[.int .i64 a0_0,.slice A0_1 l0_1.length c0_1,.int .i64 a0_2,.int .i64 a0_3] 26 (0,0)) au7) : gb275 ≠ gb274));clear BK274;clear HB;have BK274 := n0_;have HB := n1_;have BK275 := n2_;have GW275 := n3_;have GE275 := n4_;have NB274_275 := n5_;have NB275_274 := n6_;clear n0_ n1_ n2_ n3_ n4_ n5_ n6_;clear hb hbox hg))
 repeat (go_quiet (first | ((with_reducible refine gate_dst (N := 2) rfl ?_);(try (refine gate_guard (by rfl) ?_;dsimp only));refine box_event ?hg (N := 2) ?hd (cs := #[.int .i64 a0_0,.slice A0_1 l0_1.length c0_1,.int .i64 a0_2,.int .i64 a0_3]) (t := 26) ?hr ?_;(case hd => rfl);(case hg => rfl);(case hr => first | (go_simp;done) | (go_simp;rfl));intro gb274 hg w4 hbox hb;have n0_ := Aside0.mk (below_step au0 hb);have n1_ := Aside0.mk (hbox);have n2_ := Aside0.mk ((by rw [hg];exact (below_size au0) : w.heap.size ≤ gb274));have n3_ := Aside0.mk ((by rw [hg];exact (below_size au0) : w.heap.size ≤ gb274));clear HB;have HB := n0_;have BK274 := n1_;have GW274 := n2_;have GE274 := n3_;clear n0_ n1_ n2_ n3_;clear hb hbox hg) | ((with_reducible refine gate_dst (N := 3) rfl ?_);(try (refine gate_guard (by rfl) ?_;dsimp only));refine box_event ?hg (N := 3) ?hd (cs := #[.int .i64 a1_0,.slice A1_1 l1_1.length c1_1,.int .i64 a1_2,.int .i64 a1_3]) (t := 26) ?hr ?_;(case hd => rfl);(case hg => rfl);(case hr => first | (go_simp;done) | (go_simp;rfl));intro gb275 hg w5 hbox hb;have n0_ := Aside0.mk (blk_below (g := gb274) (o := .cells #[.int .i64 a0_0,.slice A0_1 l0_1.length c0_1,.int .i64 a0_2,.int .i64 a0_3] 26 (0,0)) au7 hb);have n1_ := Aside0.mk (below_step au3 hb);have n2_ := Aside0.mk (hbox);have n3_ := Aside0.mk ((by rw [hg];exact (below_size au3) : w.heap.size ≤ gb275));have n4_ := Aside0.mk ((by rw [hg];exact (below_size au3) : w.heap.size ≤ gb275));have n5_ := Aside0.mk ((by rw [hg];exact Nat.ne_of_lt (blk_lt (g := gb274) (o := .cells #[.int .i64 a0_0,.slice A0_1 l0_1.length c0_1,.int .i64 a0_2,.int .i64 a0_3] 26 (0,0)) au7) : gb274 ≠ gb275));have n6_ := Aside0.mk ((by rw [hg];exact Nat.ne_of_gt (blk_lt (g := gb274) (o := .cells #[.int .i64 a0_0,.slice A0_1 l0_1.length c0_1,.int .i64 a0_2,.int .i64 a0_3] 26 (0,0)) au7) : gb275 ≠ gb274));clear BK274;clear HB;have BK274 := n0_;have HB := n1_;have BK275 := n2_;have GW275 := n3_;have GE275 := n4_;have NB274_275 := n5_;have NB275_274 := n6_;clear n0_ n1_ n2_ n3_ n4_ n5_ n6_;clear hb hbox hg));go_upto_region 1 with (first | ((with_reducible refine gate_dst (N := 2) rfl ?_);(try (refine gate_guard (by rfl) ?_;dsimp only));refine box_event ?hg (N := 2) ?hd (cs := #[.int .i64 a0_0,.slice A0_1 l0_1.length c0_1,.int .i64 a0_2,.int .i64 a0_3]) (t := 26) ?hr ?_;(case hd => rfl);(case hg => rfl);(case hr => first | (go_simp;done) | (go_simp;rfl));intro gb274 hg w4 hbox hb;have n0_ := Aside0.mk (below_step au0 hb);have n1_ := Aside0.mk (hbox);have n2_ := Aside0.mk ((by rw [hg];exact (below_size au0) : w.heap.size ≤ gb274));have n3_ := Aside0.mk ((by rw [hg];exact (below_size au0) : w.heap.size ≤ gb274));clear HB;have HB := n0_;have BK274 := n1_;have GW274 := n2_;have GE274 := n3_;clear n0_ n1_ n2_ n3_;clear hb hbox hg) | ((with_reducible refine gate_dst (N := 3) rfl ?_);(try (refine gate_guard (by rfl) ?_;dsimp only));refine box_event ?hg (N := 3) ?hd (cs := #[.int .i64 a1_0,.slice A1_1 l1_1.length c1_1,.int .i64 a1_2,.int .i64 a1_3]) (t := 26) ?hr ?_;(case hd => rfl);(case hg => rfl);(case hr => first | (go_simp;done) | (go_simp;rfl));intro gb275 hg w5 hbox hb;have n0_ := Aside0.mk (blk_below (g := gb274) (o := .cells #[.int .i64 a0_0,.slice A0_1 l0_1.length c0_1,.int .i64 a0_2,.int .i64 a0_3] 26 (0,0)) au7 hb);have n1_ := Aside0.mk (below_step au3 hb);have n2_ := Aside0.mk (hbox);have n3_ := Aside0.mk ((by rw [hg];exact (below_size au3) : w.heap.size ≤ gb275));have n4_ := Aside0.mk ((by rw [hg];exact (below_size au3) : w.heap.size ≤ gb275));have n5_ := Aside0.mk ((by rw [hg];exact Nat.ne_of_lt (blk_lt (g := gb274) (o := .cells #[.int .i64 a0_0,.slice A0_1 l0_1.length c0_1,.int .i64 a0_2,.int .i64 a0_3] 26 (0,0)) au7) : gb274 ≠ gb275));have n6_ := Aside0.mk ((by rw [hg];exact Nat.ne_of_gt (blk_lt (g := gb274) (o := .cells #[.int .i64 a0_0,.slice A0_1 l0_1.length c0_1,.int .i64 a0_2,.int .i64 a0_3] 26 (0,0)) au7) : gb275 ≠ gb274));clear BK274;clear HB;have BK274 := n0_;have HB := n1_;have BK275 := n2_;have GW275 := n3_;have GE275 := n4_;have NB274_275 := n5_;have NB275_274 := n6_;clear n0_ n1_ n2_ n3_ n4_ n5_ n6_;clear hb hbox hg)))
 (try simp only [Act.put,List.setIfInBounds_toArray,List.set_cons_zero,List.set_cons_succ])
 go_cut [26] (fun v26 wc => ∃ (kq : Nat) (x26_2 : Bool),v26 = .bool x26_2 ∧ Aside0 (bodkinref22_SameFrame.j0 kq x26_2 a0_0 l0_1 a0_2 a0_3 a1_0 l1_1 a1_2 a1_3 = some r) ∧ Aside0 (kq ≤ k) ∧ Aside0 (wc.heap[gb274]? = some (.cells #[.int .i64 a0_0,(.slice A0_1 l0_1.length c0_1),.int .i64 a0_2,.int .i64 a0_3] 26 (0,0))) ∧ Aside0 (wc.heap[gb275]? = some (.cells #[.int .i64 a1_0,(.slice A1_1 l1_1.length c1_1),.int .i64 a1_2,.int .i64 a1_3] 26 (0,0))) ∧ Aside0 (Below w.heap.size w wc))
 case first =>
  have H := HC3.out
  clear HC3
  by_cases c6 : a0_0 = a1_0
  ·rw [if_pos c6] at H
   have c6b0 : (a0_0 == a1_0) = true := beq_iff_eq.mpr c6
   have c6b1 : (a0_0 != a1_0) = false := bne_eq_false_iff_eq.mpr c6
   clear c6
   (first | rw [c6b0] | (simp only [i64_w,i32_w];rw [c6b0]) | skip)
   by_cases c7 : (!(a0_2 == a1_2) || (!(a0_3 == a1_3))) = true
   ·rw [if_pos c7] at H
    have c7b0 : (!(a0_2 == a1_2) || (!(a0_3 == a1_3))) = true := c7
    clear c7
    have H' := Aside0.mk H
    clear H
    have hnb8 := NB274_275.out
    have hnc8 := NB275_274.out
    have hcz9_0 : w5.cell? ⟨gb274,0,none⟩ = some (.int .i64 a0_0) := (blk_cell BK274.out 0).trans rfl
    have hcz9_1 : w5.cell? ⟨gb274,1,none⟩ = some (.slice A0_1 l0_1.length c0_1) := (blk_cell BK274.out 1).trans rfl
    have hcz9_2 : w5.cell? ⟨gb274,2,none⟩ = some (.int .i64 a0_2) := (blk_cell BK274.out 2).trans rfl
    have hcz9_3 : w5.cell? ⟨gb274,3,none⟩ = some (.int .i64 a0_3) := (blk_cell BK274.out 3).trans rfl
    have hfz9_0 := blk_frozen BK274.out 0
    have hfz9_1 := blk_frozen BK274.out 1
    have hfz9_2 := blk_frozen BK274.out 2
    have hfz9_3 := blk_frozen BK274.out 3
    have hcz10_0 : w5.cell? ⟨gb275,0,none⟩ = some (.int .i64 a1_0) := (blk_cell BK275.out 0).trans rfl
    have hcz10_1 : w5.cell? ⟨gb275,1,none⟩ = some (.slice A1_1 l1_1.length c1_1) := (blk_cell BK275.out 1).trans rfl
    have hcz10_2 : w5.cell? ⟨gb275,2,none⟩ = some (.int .i64 a1_2) := (blk_cell BK275.out 2).trans rfl
    have hcz10_3 : w5.cell? ⟨gb275,3,none⟩ = some (.int .i64 a1_3) := (blk_cell BK275.out 3).trans rfl
    have hfz10_0 := blk_frozen BK275.out 0
    have hfz10_1 := blk_frozen BK275.out 1
    have hfz10_2 := blk_frozen BK275.out 2
    have hfz10_3 := blk_frozen BK275.out 3
    go_wp2
    repeat (go_quiet (fail);try go_wp2)
    go_meet
    case rel => exact ⟨_,(true),au4,H',⟨by first | omega | exact Nat.le_refl _⟩,⟨by (with_reducible repeat (first | refine blk_drewN ?_ _ | refine blk_drew ?_ | refine blk_alloc ?_ _));exact BK274.out⟩,⟨by (with_reducible repeat (first | refine blk_drewN ?_ _ | refine blk_drew ?_ | refine blk_alloc ?_ _));exact BK275.out⟩,⟨by repeat (first | (with_reducible first | exact HB.out | apply below_alloc | apply pw_below_drewN | apply below_drew1 | refine below_set ?_ GE274.out | refine below_set ?_ GE275.out) | exact HB.out)⟩⟩
   ·rw [if_neg c7] at H
    have c7b0 : (!(a0_2 == a1_2) || (!(a0_3 == a1_3))) = false := by simpa using c7
    clear c7
    have H' := Aside0.mk H
    clear H
    have hnb11 := NB274_275.out
    have hnc11 := NB275_274.out
    have hcz12_0 : w5.cell? ⟨gb274,0,none⟩ = some (.int .i64 a0_0) := (blk_cell BK274.out 0).trans rfl
    have hcz12_1 : w5.cell? ⟨gb274,1,none⟩ = some (.slice A0_1 l0_1.length c0_1) := (blk_cell BK274.out 1).trans rfl
    have hcz12_2 : w5.cell? ⟨gb274,2,none⟩ = some (.int .i64 a0_2) := (blk_cell BK274.out 2).trans rfl
    have hcz12_3 : w5.cell? ⟨gb274,3,none⟩ = some (.int .i64 a0_3) := (blk_cell BK274.out 3).trans rfl
    have hfz12_0 := blk_frozen BK274.out 0
    have hfz12_1 := blk_frozen BK274.out 1
    have hfz12_2 := blk_frozen BK274.out 2
    have hfz12_3 := blk_frozen BK274.out 3
    have hcz13_0 : w5.cell? ⟨gb275,0,none⟩ = some (.int .i64 a1_0) := (blk_cell BK275.out 0).trans rfl
    have hcz13_1 : w5.cell? ⟨gb275,1,none⟩ = some (.slice A1_1 l1_1.length c1_1) := (blk_cell BK275.out 1).trans rfl
    have hcz13_2 : w5.cell? ⟨gb275,2,none⟩ = some (.int .i64 a1_2) := (blk_cell BK275.out 2).trans rfl
    have hcz13_3 : w5.cell? ⟨gb275,3,none⟩ = some (.int .i64 a1_3) := (blk_cell BK275.out 3).trans rfl
    have hfz13_0 := blk_frozen BK275.out 0
    have hfz13_1 := blk_frozen BK275.out 1
    have hfz13_2 := blk_frozen BK275.out 2
    have hfz13_3 := blk_frozen BK275.out 3
    go_wp2
    repeat (go_quiet (fail);try go_wp2)
    go_meet
    case rel => exact ⟨_,(((l0_1.length : Int) != (l1_1.length : Int))),au4,H',⟨by first | omega | exact Nat.le_refl _⟩,⟨by (with_reducible repeat (first | refine blk_drewN ?_ _ | refine blk_drew ?_ | refine blk_alloc ?_ _));exact BK274.out⟩,⟨by (with_reducible repeat (first | refine blk_drewN ?_ _ | refine blk_drew ?_ | refine blk_alloc ?_ _));exact BK275.out⟩,⟨by repeat (first | (with_reducible first | exact HB.out | apply below_alloc | apply pw_below_drewN | apply below_drew1 | refine below_set ?_ GE274.out | refine below_set ?_ GE275.out) | exact HB.out)⟩⟩
  ·rw [if_neg c6] at H
   have c6b0 : (a0_0 == a1_0) = false := beq_eq_false_iff_ne.mpr c6
   have c6b1 : (a0_0 != a1_0) = true := bne_iff_ne.mpr c6
   (first | rw [c6b0] | (simp only [i64_w,i32_w];rw [c6b0]) | skip)
   have H' := Aside0.mk H
   clear H
   have hnb14 := NB274_275.out
   have hnc14 := NB275_274.out
   have hcz15_0 : w5.cell? ⟨gb274,0,none⟩ = some (.int .i64 a0_0) := (blk_cell BK274.out 0).trans rfl
   have hcz15_1 : w5.cell? ⟨gb274,1,none⟩ = some (.slice A0_1 l0_1.length c0_1) := (blk_cell BK274.out 1).trans rfl
   have hcz15_2 : w5.cell? ⟨gb274,2,none⟩ = some (.int .i64 a0_2) := (blk_cell BK274.out 2).trans rfl
   have hcz15_3 : w5.cell? ⟨gb274,3,none⟩ = some (.int .i64 a0_3) := (blk_cell BK274.out 3).trans rfl
   have hfz15_0 := blk_frozen BK274.out 0
   have hfz15_1 := blk_frozen BK274.out 1
   have hfz15_2 := blk_frozen BK274.out 2
   have hfz15_3 := blk_frozen BK274.out 3
   have hcz16_0 : w5.cell? ⟨gb275,0,none⟩ = some (.int .i64 a1_0) := (blk_cell BK275.out 0).trans rfl
   have hcz16_1 : w5.cell? ⟨gb275,1,none⟩ = some (.slice A1_1 l1_1.length c1_1) := (blk_cell BK275.out 1).trans rfl
   have hcz16_2 : w5.cell? ⟨gb275,2,none⟩ = some (.int .i64 a1_2) := (blk_cell BK275.out 2).trans rfl
   have hcz16_3 : w5.cell? ⟨gb275,3,none⟩ = some (.int .i64 a1_3) := (blk_cell BK275.out 3).trans rfl
   have hfz16_0 := blk_frozen BK275.out 0
   have hfz16_1 := blk_frozen BK275.out 1
   have hfz16_2 := blk_frozen BK275.out 2
   have hfz16_3 := blk_frozen BK275.out 3
   go_wp2
   repeat (go_quiet (fail);try go_wp2)
   go_meet
   case rel => exact ⟨_,(true),au4,H',⟨by first | omega | exact Nat.le_refl _⟩,⟨by (with_reducible repeat (first | refine blk_drewN ?_ _ | refine blk_drew ?_ | refine blk_alloc ?_ _));exact BK274.out⟩,⟨by (with_reducible repeat (first | refine blk_drewN ?_ _ | refine blk_drew ?_ | refine blk_alloc ?_ _));exact BK275.out⟩,⟨by repeat (first | (with_reducible first | exact HB.out | apply below_alloc | apply pw_below_drewN | apply below_drew1 | refine below_set ?_ GE274.out | refine below_set ?_ GE275.out) | exact HB.out)⟩⟩
 case rest =>
  clear HC3
  try clear c1
  try clear c2
  try clear p2
  try clear c6
  try clear c6b0
  try clear c6b1
  try clear c7
  try clear c7b0
  try clear c8
  try clear c11
  try clear c14
  try clear hcz10_0
  try clear hcz10_1
  try clear hcz10_2
  try clear hcz10_3
  try clear hcz12_0
  try clear hcz12_1
  try clear hcz12_2
  try clear hcz12_3
  try clear hcz13_0
  try clear hcz13_1
  try clear hcz13_2
  try clear hcz13_3
  try clear hcz15_0
  try clear hcz15_1
  try clear hcz15_2
  try clear hcz15_3
  try clear hcz16_0
  try clear hcz16_1
  try clear hcz16_2
  try clear hcz16_3
  try clear hcz9_0
  try clear hcz9_1
  try clear hcz9_2
  try clear hcz9_3
  try clear hfz10_0
  try clear hfz10_1
  try clear hfz10_2
  try clear hfz10_3
  try clear hfz12_0
  try clear hfz12_1
  try clear hfz12_2
  try clear hfz12_3
  try clear hfz13_0
  try clear hfz13_1
  try clear hfz13_2
  try clear hfz13_3
  try clear hfz15_0
  try clear hfz15_1
  try clear hfz15_2
  try clear hfz15_3
  try clear hfz16_0
  try clear hfz16_1
  try clear hfz16_2
  try clear hfz16_3
  try clear hfz9_0
  try clear hfz9_1
  try clear hfz9_2
  try clear hfz9_3
  obtain ⟨kq,x26_2,rfl,HA,HJ2,BK274,BK275,HB⟩ := hcut
  cases kq with
  | zero => exact absurd HA.out (by simp [bodkinref22_SameFrame.j0])
  | succ kj2 =>
   have H := HA.out
   clear HA
   simp only [bodkinref22_SameFrame.j0] at H
   by_cases c17 : x26_2 = true
   ·subst c17
    have H1 : (some false) = some r := by rw [if_pos rfl] at H;exact H
    clear H
    have H := H1
    clear H1
    obtain rfl := Option.some.inj H
    go_wp2
    repeat (go_quiet (fail);try go_wp2)
    go_ret
    exact ⟨au2,by repeat (first | (with_reducible first | exact HB.out | apply below_alloc | apply pw_below_drewN | apply below_drew1 | refine below_set ?_ GE274.out | refine below_set ?_ GE275.out) | exact HB.out)⟩
   ·replace c17 := Bool.eq_false_iff.mpr c17
    subst c17
    have H1 : (bodkinref22_SameFrame.l0 kj2 0 a0_0 l0_1 a0_2 a0_3 a1_0 l1_1 a1_2 a1_3) = some r := by rw [if_neg (show ¬ (false = true) by decide)] at H;exact H
    clear H
    have H := H1
    clear H1
    have H' := Aside0.mk H
    clear H
    go_wp2
    repeat (go_quiet (fail);try go_wp2)
    go_loopg [5] kj2 (fun kq v5 w' => ∃ (x5_2 : Int),v5 = .int .i64 x5_2 ∧ Aside0 (bodkinref22_SameFrame.l0 kq x5_2 a0_0 l0_1 a0_2 a0_3 a1_0 l1_1 a1_2 a1_3 = some r) ∧ Aside0 (kq ≤ kj2) ∧ Aside0 (w'.heap[gb274]? = some (.cells #[.int .i64 a0_0,(.slice A0_1 l0_1.length c0_1),.int .i64 a0_2,.int .i64 a0_3] 26 (0,0))) ∧ Aside0 (w'.heap[gb275]? = some (.cells #[.int .i64 a1_0,(.slice A1_1 l1_1.length c1_1),.int .i64 a1_2,.int .i64 a1_3] 26 (0,0))) ∧ Aside0 (Below w.heap.size w w'))
    case atStart => exact ⟨(0),au4,H',⟨Nat.le_refl _⟩,⟨by (with_reducible repeat (first | refine blk_drewN ?_ _ | refine blk_drew ?_ | refine blk_alloc ?_ _));exact BK274.out⟩,⟨by (with_reducible repeat (first | refine blk_drewN ?_ _ | refine blk_drew ?_ | refine blk_alloc ?_ _));exact BK275.out⟩,⟨by repeat (first | (with_reducible first | exact HB.out | apply below_alloc | apply pw_below_drewN | apply below_drew1 | refine below_set ?_ GE274.out | refine below_set ?_ GE275.out) | exact HB.out)⟩⟩
    case round =>
     clear H'
     try clear c1
     try clear c2
     try clear p2
     try clear c6
     try clear c6b0
     try clear c6b1
     try clear c7
     try clear c7b0
     try clear c8
     try clear c11
     try clear c14
     try clear c17
     try clear hcz10_0
     try clear hcz10_1
     try clear hcz10_2
     try clear hcz10_3
     try clear hcz12_0
     try clear hcz12_1
     try clear hcz12_2
     try clear hcz12_3
     try clear hcz13_0
     try clear hcz13_1
     try clear hcz13_2
     try clear hcz13_3
     try clear hcz15_0
     try clear hcz15_1
     try clear hcz15_2
     try clear hcz15_3
     try clear hcz16_0
     try clear hcz16_1
     try clear hcz16_2
     try clear hcz16_3
     try clear hcz9_0
     try clear hcz9_1
     try clear hcz9_2
     try clear hcz9_3
     try clear hfz10_0
     try clear hfz10_1
     try clear hfz10_2
     try clear hfz10_3
     try clear hfz12_0
     try clear hfz12_1
     try clear hfz12_2
     try clear hfz12_3
     try clear hfz13_0
     try clear hfz13_1
     try clear hfz13_2
     try clear hfz13_3
     try clear hfz15_0
     try clear hfz15_1
     try clear hfz15_2
     try clear hfz15_3
     try clear hfz16_0
     try clear hfz16_1
     try clear hfz16_2
     try clear hfz16_3
     try clear hfz9_0
     try clear hfz9_1
     try clear hfz9_2
     try clear hfz9_3
     try clear p2
     obtain ⟨x5_2,rfl,HA,HK2,BK274,BK275,HB⟩ := hrel
     cases gk with
     | zero => exact absurd HA.out (by simp [bodkinref22_SameFrame.l0])
     | succ k2 =>
      have H := HA.out
      clear HA
      simp only [bodkinref22_SameFrame.l0] at H
      by_cases c18 : x5_2 < (l0_1.length : Int)
      ·rw [if_pos c18] at H
       have c18b0 : decide (x5_2 < (l0_1.length : Int)) = true := decide_eq_true c18
       clear c18
       by_cases c19 : 0 ≤ x5_2
       ·rw [if_pos c19] at H
        have c19b0 : decide (0 ≤ x5_2) = true := decide_eq_true c19
        clear c19
        by_cases c20 : x5_2 < (l1_1.length : Int)
        ·rw [if_pos c20] at H
         have c20b0 : decide (x5_2 < (l1_1.length : Int)) = true := decide_eq_true c20
         clear c20
         replace H := Option.bind_eq_some_iff.mp H
         obtain ⟨t278,A210,H⟩ := H
         replace H : (if t278 = true then (bodkinref22_SameFrame.l0 k2 (wrap64 (x5_2 + 1)) a0_0 l0_1 a0_2 a0_3 a1_0 l1_1 a1_2 a1_3) else (some false)) = some r := H
         have A21 := Aside0.mk A210
         clear A210
         by_cases c22 : t278 = true
         ·subst c22
          have H1 : (bodkinref22_SameFrame.l0 k2 (wrap64 (x5_2 + 1)) a0_0 l0_1 a0_2 a0_3 a1_0 l1_1 a1_2 a1_3) = some r := by rw [if_pos rfl] at H;exact H
          clear H
          have H := H1
          clear H1
          have H' := Aside0.mk H
          clear H
          have hnb23 := NB274_275.out
          have hnc23 := NB275_274.out
          have hcz24_0 : wr.cell? ⟨gb274,0,none⟩ = some (.int .i64 a0_0) := (blk_cell BK274.out 0).trans rfl
          have hcz24_1 : wr.cell? ⟨gb274,1,none⟩ = some (.slice A0_1 l0_1.length c0_1) := (blk_cell BK274.out 1).trans rfl
          have hcz24_2 : wr.cell? ⟨gb274,2,none⟩ = some (.int .i64 a0_2) := (blk_cell BK274.out 2).trans rfl
          have hcz24_3 : wr.cell? ⟨gb274,3,none⟩ = some (.int .i64 a0_3) := (blk_cell BK274.out 3).trans rfl
          have hfz24_0 := blk_frozen BK274.out 0
          have hfz24_1 := blk_frozen BK274.out 1
          have hfz24_2 := blk_frozen BK274.out 2
          have hfz24_3 := blk_frozen BK274.out 3
          have p276 : 0 ≤ (x5_2 : Int) := of_decide_eq_true au5
          have q276 : x5_2 < (l0_1.length : Int) := of_decide_eq_true au5
          obtain ⟨ad276,A276_0,c276_0,e276,hx276_0,hl276_0,hi276_0⟩ := at_L3 HR0_1.out x5_2 p276 q276
          cases e276
          replace hx276_0 := (HB.out.cell (World.block_lt_of_cell? w _ hx276_0)).trans hx276_0
          have HR276_0 := Aside0.mk hi276_0
          have HC276_0 := Aside0.mk hl276_0
          clear hi276_0 hl276_0
          replace p276 := eq_true p276
          replace q276 := eq_true q276
          have hcz25_0 : wr.cell? ⟨gb275,0,none⟩ = some (.int .i64 a1_0) := (blk_cell BK275.out 0).trans rfl
          have hcz25_1 : wr.cell? ⟨gb275,1,none⟩ = some (.slice A1_1 l1_1.length c1_1) := (blk_cell BK275.out 1).trans rfl
          have hcz25_2 : wr.cell? ⟨gb275,2,none⟩ = some (.int .i64 a1_2) := (blk_cell BK275.out 2).trans rfl
          have hcz25_3 : wr.cell? ⟨gb275,3,none⟩ = some (.int .i64 a1_3) := (blk_cell BK275.out 3).trans rfl
          have hfz25_0 := blk_frozen BK275.out 0
          have hfz25_1 := blk_frozen BK275.out 1
          have hfz25_2 := blk_frozen BK275.out 2
          have hfz25_3 := blk_frozen BK275.out 3
          have p277 : 0 ≤ (x5_2 : Int) := of_decide_eq_true au5
          have q277 : x5_2 < (l1_1.length : Int) := of_decide_eq_true au5
          obtain ⟨ad277,A277_0,c277_0,e277,hx277_0,hl277_0,hi277_0⟩ := at_L3 HR1_1.out x5_2 p277 q277
          cases e277
          replace hx277_0 := (HB.out.cell (World.block_lt_of_cell? w _ hx277_0)).trans hx277_0
          have HR277_0 := Aside0.mk hi277_0
          have HC277_0 := Aside0.mk hl277_0
          clear hi277_0 hl277_0
          replace p277 := eq_true p277
          replace q277 := eq_true q277
          go_wp2_with (first | (go_at_call 36;(with_reducible refine (bodkinref22_SameRow.calls k2 _ _ (rd_L3 l0_1 x5_2) _ _ (rd_L3 l1_1 x5_2) true _ ?side1 ?side2 ?side3 ?side4 A21.out).mono ?_);(case side1 => repeat (first | exact (Kd.C_below HR276_0.out HB.out) | (with_reducible refine Kd.C_alloc ?_ _) | (with_reducible refine Kd.C_drewN ?_ _) | (with_reducible refine Kd.C_drew ?_)));(case side2 => exact HC276_0.out);(case side3 => repeat (first | exact (Kd.C_below HR277_0.out HB.out) | (with_reducible refine Kd.C_alloc ?_ _) | (with_reducible refine Kd.C_drewN ?_ _) | (with_reducible refine Kd.C_drew ?_)));(case side4 => exact HC277_0.out);rintro e w' ⟨rfl,⟨nd,rfl⟩⟩;(try first | exact ⟨rfl,_,World.drewN_drewN _ _ _⟩ | exact ⟨rfl,_,Eq.trans (World.drewN_drewN _ _ _) (congrArg (World.drewN _) (Nat.add_assoc _ _ _))⟩)))
          repeat (go_quiet (first | (go_at_call 36;(with_reducible refine (bodkinref22_SameRow.calls k2 _ _ (rd_L3 l0_1 x5_2) _ _ (rd_L3 l1_1 x5_2) true _ ?side1 ?side2 ?side3 ?side4 A21.out).mono ?_);(case side1 => repeat (first | exact (Kd.C_below HR276_0.out HB.out) | (with_reducible refine Kd.C_alloc ?_ _) | (with_reducible refine Kd.C_drewN ?_ _) | (with_reducible refine Kd.C_drew ?_)));(case side2 => exact HC276_0.out);(case side3 => repeat (first | exact (Kd.C_below HR277_0.out HB.out) | (with_reducible refine Kd.C_alloc ?_ _) | (with_reducible refine Kd.C_drewN ?_ _) | (with_reducible refine Kd.C_drew ?_)));(case side4 => exact HC277_0.out);rintro e w' ⟨rfl,⟨nd,rfl⟩⟩;(try first | exact ⟨rfl,_,World.drewN_drewN _ _ _⟩ | exact ⟨rfl,_,Eq.trans (World.drewN_drewN _ _ _) (congrArg (World.drewN _) (Nat.add_assoc _ _ _))⟩)));try go_wp2_with (first | (go_at_call 36;(with_reducible refine (bodkinref22_SameRow.calls k2 _ _ (rd_L3 l0_1 x5_2) _ _ (rd_L3 l1_1 x5_2) true _ ?side1 ?side2 ?side3 ?side4 A21.out).mono ?_);(case side1 => repeat (first | exact (Kd.C_below HR276_0.out HB.out) | (with_reducible refine Kd.C_alloc ?_ _) | (with_reducible refine Kd.C_drewN ?_ _) | (with_reducible refine Kd.C_drew ?_)));(case side2 => exact HC276_0.out);(case side3 => repeat (first | exact (Kd.C_below HR277_0.out HB.out) | (with_reducible refine Kd.C_alloc ?_ _) | (with_reducible refine Kd.C_drewN ?_ _) | (with_reducible refine Kd.C_drew ?_)));(case side4 => exact HC277_0.out);rintro e w' ⟨rfl,⟨nd,rfl⟩⟩;(try first | exact ⟨rfl,_,World.drewN_drewN _ _ _⟩ | exact ⟨rfl,_,Eq.trans (World.drewN_drewN _ _ _) (congrArg (World.drewN _) (Nat.add_assoc _ _ _))⟩))))
          go_roundg k2
          case measure => have := HJ2.out;have := HK2.out;omega
          case rel => exact ⟨(wrap64 (x5_2 + 1)),au4,H',⟨by have := HJ2.out;have := HK2.out;omega⟩,⟨by (with_reducible repeat (first | refine blk_drewN ?_ _ | refine blk_drew ?_ | refine blk_alloc ?_ _));exact BK274.out⟩,⟨by (with_reducible repeat (first | refine blk_drewN ?_ _ | refine blk_drew ?_ | refine blk_alloc ?_ _));exact BK275.out⟩,⟨by repeat (first | (with_reducible first | exact HB.out | apply below_alloc | apply pw_below_drewN | apply below_drew1 | refine below_set ?_ GE274.out | refine below_set ?_ GE275.out) | exact HB.out)⟩⟩
         ·replace c22 := Bool.eq_false_iff.mpr c22
          subst c22
          have H1 : (some false) = some r := by rw [if_neg (show ¬ (false = true) by decide)] at H;exact H
          clear H
          have H := H1
          clear H1
          obtain rfl := Option.some.inj H
          have hnb26 := NB274_275.out
          have hnc26 := NB275_274.out
          have hcz27_0 : wr.cell? ⟨gb274,0,none⟩ = some (.int .i64 a0_0) := (blk_cell BK274.out 0).trans rfl
          have hcz27_1 : wr.cell? ⟨gb274,1,none⟩ = some (.slice A0_1 l0_1.length c0_1) := (blk_cell BK274.out 1).trans rfl
          have hcz27_2 : wr.cell? ⟨gb274,2,none⟩ = some (.int .i64 a0_2) := (blk_cell BK274.out 2).trans rfl
          have hcz27_3 : wr.cell? ⟨gb274,3,none⟩ = some (.int .i64 a0_3) := (blk_cell BK274.out 3).trans rfl
          have hfz27_0 := blk_frozen BK274.out 0
          have hfz27_1 := blk_frozen BK274.out 1
          have hfz27_2 := blk_frozen BK274.out 2
          have hfz27_3 := blk_frozen BK274.out 3
          have p276 : 0 ≤ (x5_2 : Int) := of_decide_eq_true au5
          have q276 : x5_2 < (l0_1.length : Int) := of_decide_eq_true au5
          obtain ⟨ad276,A276_0,c276_0,e276,hx276_0,hl276_0,hi276_0⟩ := at_L3 HR0_1.out x5_2 p276 q276
          cases e276
          replace hx276_0 := (HB.out.cell (World.block_lt_of_cell? w _ hx276_0)).trans hx276_0
          have HR276_0 := Aside0.mk hi276_0
          have HC276_0 := Aside0.mk hl276_0
          clear hi276_0 hl276_0
          replace p276 := eq_true p276
          replace q276 := eq_true q276
          have hcz28_0 : wr.cell? ⟨gb275,0,none⟩ = some (.int .i64 a1_0) := (blk_cell BK275.out 0).trans rfl
          have hcz28_1 : wr.cell? ⟨gb275,1,none⟩ = some (.slice A1_1 l1_1.length c1_1) := (blk_cell BK275.out 1).trans rfl
          have hcz28_2 : wr.cell? ⟨gb275,2,none⟩ = some (.int .i64 a1_2) := (blk_cell BK275.out 2).trans rfl
          have hcz28_3 : wr.cell? ⟨gb275,3,none⟩ = some (.int .i64 a1_3) := (blk_cell BK275.out 3).trans rfl
          have hfz28_0 := blk_frozen BK275.out 0
          have hfz28_1 := blk_frozen BK275.out 1
          have hfz28_2 := blk_frozen BK275.out 2
          have hfz28_3 := blk_frozen BK275.out 3
          have p277 : 0 ≤ (x5_2 : Int) := of_decide_eq_true au5
          have q277 : x5_2 < (l1_1.length : Int) := of_decide_eq_true au5
          obtain ⟨ad277,A277_0,c277_0,e277,hx277_0,hl277_0,hi277_0⟩ := at_L3 HR1_1.out x5_2 p277 q277
          cases e277
          replace hx277_0 := (HB.out.cell (World.block_lt_of_cell? w _ hx277_0)).trans hx277_0
          have HR277_0 := Aside0.mk hi277_0
          have HC277_0 := Aside0.mk hl277_0
          clear hi277_0 hl277_0
          replace p277 := eq_true p277
          replace q277 := eq_true q277
          go_wp2_with (first | (go_at_call 36;(with_reducible refine (bodkinref22_SameRow.calls k2 _ _ (rd_L3 l0_1 x5_2) _ _ (rd_L3 l1_1 x5_2) false _ ?side1 ?side2 ?side3 ?side4 A21.out).mono ?_);(case side1 => repeat (first | exact (Kd.C_below HR276_0.out HB.out) | (with_reducible refine Kd.C_alloc ?_ _) | (with_reducible refine Kd.C_drewN ?_ _) | (with_reducible refine Kd.C_drew ?_)));(case side2 => exact HC276_0.out);(case side3 => repeat (first | exact (Kd.C_below HR277_0.out HB.out) | (with_reducible refine Kd.C_alloc ?_ _) | (with_reducible refine Kd.C_drewN ?_ _) | (with_reducible refine Kd.C_drew ?_)));(case side4 => exact HC277_0.out);rintro e w' ⟨rfl,⟨nd,rfl⟩⟩;(try first | exact ⟨rfl,_,World.drewN_drewN _ _ _⟩ | exact ⟨rfl,_,Eq.trans (World.drewN_drewN _ _ _) (congrArg (World.drewN _) (Nat.add_assoc _ _ _))⟩)))
          repeat (go_quiet (first | (go_at_call 36;(with_reducible refine (bodkinref22_SameRow.calls k2 _ _ (rd_L3 l0_1 x5_2) _ _ (rd_L3 l1_1 x5_2) false _ ?side1 ?side2 ?side3 ?side4 A21.out).mono ?_);(case side1 => repeat (first | exact (Kd.C_below HR276_0.out HB.out) | (with_reducible refine Kd.C_alloc ?_ _) | (with_reducible refine Kd.C_drewN ?_ _) | (with_reducible refine Kd.C_drew ?_)));(case side2 => exact HC276_0.out);(case side3 => repeat (first | exact (Kd.C_below HR277_0.out HB.out) | (with_reducible refine Kd.C_alloc ?_ _) | (with_reducible refine Kd.C_drewN ?_ _) | (with_reducible refine Kd.C_drew ?_)));(case side4 => exact HC277_0.out);rintro e w' ⟨rfl,⟨nd,rfl⟩⟩;(try first | exact ⟨rfl,_,World.drewN_drewN _ _ _⟩ | exact ⟨rfl,_,Eq.trans (World.drewN_drewN _ _ _) (congrArg (World.drewN _) (Nat.add_assoc _ _ _))⟩)));try go_wp2_with (first | (go_at_call 36;(with_reducible refine (bodkinref22_SameRow.calls k2 _ _ (rd_L3 l0_1 x5_2) _ _ (rd_L3 l1_1 x5_2) false _ ?side1 ?side2 ?side3 ?side4 A21.out).mono ?_);(case side1 => repeat (first | exact (Kd.C_below HR276_0.out HB.out) | (with_reducible refine Kd.C_alloc ?_ _) | (with_reducible refine Kd.C_drewN ?_ _) | (with_reducible refine Kd.C_drew ?_)));(case side2 => exact HC276_0.out);(case side3 => repeat (first | exact (Kd.C_below HR277_0.out HB.out) | (with_reducible refine Kd.C_alloc ?_ _) | (with_reducible refine Kd.C_drewN ?_ _) | (with_reducible refine Kd.C_drew ?_)));(case side4 => exact HC277_0.out);rintro e w' ⟨rfl,⟨nd,rfl⟩⟩;(try first | exact ⟨rfl,_,World.drewN_drewN _ _ _⟩ | exact ⟨rfl,_,Eq.trans (World.drewN_drewN _ _ _) (congrArg (World.drewN _) (Nat.add_assoc _ _ _))⟩))))
          go_ret
          exact ⟨au2,by repeat (first | (with_reducible first | exact HB.out | apply below_alloc | apply pw_below_drewN | apply below_drew1 | refine below_set ?_ GE274.out | refine below_set ?_ GE275.out) | exact HB.out)⟩
        ·rw [if_neg c20] at H
         exact absurd H (by simp)
       ·rw [if_neg c19] at H
        exact absurd H (by simp)
      ·rw [if_neg c18] at H
       have c18b0 : decide (x5_2 < (l0_1.length : Int)) = false := decide_eq_false c18
       clear c18
       obtain rfl := Option.some.inj H
       have hnb29 := NB274_275.out
       have hnc29 := NB275_274.out
       have hcz30_0 : wr.cell? ⟨gb274,0,none⟩ = some (.int .i64 a0_0) := (blk_cell BK274.out 0).trans rfl
       have hcz30_1 : wr.cell? ⟨gb274,1,none⟩ = some (.slice A0_1 l0_1.length c0_1) := (blk_cell BK274.out 1).trans rfl
       have hcz30_2 : wr.cell? ⟨gb274,2,none⟩ = some (.int .i64 a0_2) := (blk_cell BK274.out 2).trans rfl
       have hcz30_3 : wr.cell? ⟨gb274,3,none⟩ = some (.int .i64 a0_3) := (blk_cell BK274.out 3).trans rfl
       have hfz30_0 := blk_frozen BK274.out 0
       have hfz30_1 := blk_frozen BK274.out 1
       have hfz30_2 := blk_frozen BK274.out 2
       have hfz30_3 := blk_frozen BK274.out 3
       go_wp2
       repeat (go_quiet (fail);try go_wp2)
       go_ret
       exact ⟨au2,by repeat (first | (with_reducible first | exact HB.out | apply below_alloc | apply pw_below_drewN | apply below_drew1 | refine below_set ?_ GE274.out | refine below_set ?_ GE275.out) | exact HB.out)⟩
end Go.Proofs.YtgdpnmikcopkmaaDoor.U
end
section
namespace Go.Proofs.YtgdpnmikcopkmaaDoor.U
open Go.RowKit Go.Proofs.YtgdpnmikcopkmaaDoorW.PrintWords Go.Proofs.YtgdpnmikcopkmaaDoorW.PrintLast Go.Proofs.YtgdpnmikcopkmaaDoorW.PrintMore
attribute [local go_sem] max2_int min2_int max_two min_two max_three min_three max_four min_four   -- for this text's walks alone
set_option linter.unusedVariables false
set_option linter.unusedSimpArgs false
def bodkinlaw22_row.l0 : Nat → ByteArray → List (S38) → Int → Int → Option ((List (S38)))
 | 0,_,_,_,_ => none
 | k + 1,x0,x3,x6,x7 => if x7 < x6 then (if 0 ≤ x7 then (if x7 ≤ (wrap64 (x7 + 1)) then (if (wrap64 (x7 + 1)) ≤ (x0.size : Int) then (if x3.length < 5864062014805 then (bodkinlaw22_row.l0 k x0 (x3 ++ [(⟨x0.extract (x7 : Int).toNat ((wrap64 (x7 + 1)) : Int).toNat,1⟩ : S38)]) x6 (wrap64 (x7 + 1))) else (none)) else (none)) else (none)) else (none)) else (some x3)
def bodkinlaw22_row.f (k : Nat) (a0 : ByteArray) : Option ((List (S38))) := bodkinlaw22_row.l0 k a0 ([] : List (S38)) (a0.size : Int) 0
set_option maxHeartbeats 8000000 in
set_option maxRecDepth 100000 in
theorem bodkinlaw22_row.calls (k : Nat) (a0 : ByteArray) (r : List (S38)) (w : World) (h : bodkinlaw22_row.f k a0 = some r) :
  Calls Tryd.prog 27 #[.string a0] w fun e w' => ∃ v0_ : Value,e = .returned (v0_) ∧ Kd.R k38 38 w' w.heap.size (fun _ => True) v0_ r ∧ Below w.heap.size w w' := by
 have hu38 := Tryd.underlying38
 have HB := Aside0.mk (Below.refl w.heap.size w)
 have H : (bodkinlaw22_row.l0 k a0 ([] : List (S38)) (a0.size : Int) 0) = some r := h
 clear h
 have H' := Aside0.mk H
 clear H
 go_enter Tryd.func27,Tryd.ntmps27
 go_wp2
 go_loopg [3,7] k (fun kq v3 v7 w' => ∃ (x3_1 : List (S38)) (x7_1 : Int),v7 = .int .i64 x7_1 ∧ Aside0 (bodkinlaw22_row.l0 kq a0 x3_1 (a0.size : Int) x7_1 = some r) ∧ Aside0 (kq ≤ k) ∧ Aside0 (Kd.R k38 38 w' w.heap.size (fun _ => True) v3 x3_1) ∧ Aside0 (Below w.heap.size w w'))
 case atStart => exact ⟨(([] : List (S38))),(0),au4,H',⟨Nat.le_refl _⟩,⟨by first | exact Kd.R_nil _ _ _ _ _ | exact Kd.N_nil _ _ _ _ _ | exact Kd.V_nil _ _ _ _ _ | exact Kd.Q_nil _ _ _ _ _ | exact Kd.S_nil _ _ _ _ _⟩,⟨au0⟩⟩
 case round =>
  clear H'
  obtain ⟨x3_1,x7_1,rfl,HA,HK1,HO_3,HB⟩ := hrel
  cases gk with
  | zero => exact absurd HA.out (by simp [bodkinlaw22_row.l0])
  | succ k1 =>
   have H := HA.out
   clear HA
   simp only [bodkinlaw22_row.l0] at H
   by_cases c2 : x7_1 < (a0.size : Int)
   ·rw [if_pos c2] at H
    have c2b0 : decide (x7_1 < (a0.size : Int)) = true := decide_eq_true c2
    clear c2
    by_cases c3 : 0 ≤ x7_1
    ·rw [if_pos c3] at H
     have c3b0 := eq_true c3
     have c3b1 : decide (0 ≤ x7_1) = true := decide_eq_true c3
     clear c3
     by_cases c4 : x7_1 ≤ (wrap64 (x7_1 + 1))
     ·rw [if_pos c4] at H
      have c4b0 := eq_true c4
      have c4b1 : decide (x7_1 ≤ (wrap64 (x7_1 + 1))) = true := decide_eq_true c4
      by_cases c5 : (wrap64 (x7_1 + 1)) ≤ (a0.size : Int)
      ·rw [if_pos c5] at H
       have c5b0 := eq_true c5
       have c5b1 : decide ((wrap64 (x7_1 + 1)) ≤ (a0.size : Int)) = true := decide_eq_true c5
       by_cases c6 : x3_1.length < 5864062014805
       ·rw [if_pos c6] at H
        have LMc6 := Aside0.mk c6
        clear c6
        obtain ⟨y169,hy169⟩ : ∃ y_ : List (S38),y_ = (x3_1 ++ [(⟨a0.extract (x7_1 : Int).toNat ((wrap64 (x7_1 + 1)) : Int).toNat,1⟩ : S38)]) := ⟨_,rfl⟩
        replace H : (bodkinlaw22_row.l0 k1 a0 y169 (a0.size : Int) (wrap64 (x7_1 + 1))) = some r := by first | (rw [hy169];with_reducible exact H) | (have H2_ := (Option.bind_some _ _).symm.trans H;rw [hy169];with_reducible exact H2_) | (have H2_ := (Option.bind_some _ _).symm.trans H;with_reducible exact H2_) | with_reducible exact H | (rw [hy169];exact H) | exact H
        have Ny169 := Aside0.mk hy169
        clear hy169
        have H' := Aside0.mk H
        clear H
        go_wp2_with (first | ((with_reducible refine gate_builtin (b := .append) (xs := #[.tmp 10,.tmp 17]) rfl ?_);at_builtin;refine Kd.R_append k38 (w0 := w) w.heap.size rfl (.tmp 10) (.tmp 17) 36 38 (.agg #[(.string ⟨#[]⟩),(.int .i64 0)]) 24 rfl Tryd.underlying36 info38 rfl (by decide) (by omega) u3 x3_1 (⟨a0.extract (x7_1 : Int).toNat ((wrap64 (x7_1 + 1)) : Int).toNat,1⟩ : S38) [.string (a0.extract (x7_1 : Int).toNat ((wrap64 (x7_1 + 1)) : Int).toNat),.int .i64 1] (fun _ => True) (fun _ => False) rfl rfl ?aP (fun _ hk => hk.elim) ?aF ?aO ?aB ?aS ?aL ?_;(case aP => exact k38_mkM _ _ _ (⟨a0.extract (x7_1 : Int).toNat ((wrap64 (x7_1 + 1)) : Int).toNat,1⟩ : S38));(case aB => exact au0);(case aF => exact (fun _ _ => trivial));(case aO => exact (by (with_reducible repeat (first | apply Kd.R_alloc | apply Kd.R_drewN | apply Kd.R_drew));exact HO_3.out));(case aS => exact (below_size au0));(case aL => have := LMc6.out;omega);intro v170 w7 ho hb hg hat;rw [← Ny169.out] at ho;have n0_ := Aside0.mk (hb);have n1_ := Aside0.mk (ho);clear HB;clear HO_3;have HB := n0_;have HO171 := n1_;clear n0_ n1_;clear ho hb hg hat))
        go_roundg k1
        case measure => have := HK1.out;omega
        case rel => exact ⟨(y169),(wrap64 (x7_1 + 1)),au4,H',⟨by have := HK1.out;omega⟩,⟨by (with_reducible repeat (first | apply Kd.R_alloc | apply Kd.R_drewN | apply Kd.R_drew));exact HO171.out⟩,⟨au0⟩⟩
       ·rw [if_neg c6] at H
        exact absurd H (by simp)
      ·rw [if_neg c5] at H
       exact absurd H (by simp)
     ·rw [if_neg c4] at H
      exact absurd H (by simp)
    ·rw [if_neg c3] at H
     exact absurd H (by simp)
   ·rw [if_neg c2] at H
    have c2b0 : decide (x7_1 < (a0.size : Int)) = false := decide_eq_false c2
    clear c2
    obtain rfl := Option.some.inj H
    go_wp2
    go_ret
    exact ⟨_,by first | rfl | (simp [errW_none,errW_some] <;> rfl) | (simp [*,errW_none,errW_some] <;> rfl),by (with_reducible repeat (first | apply Kd.R_alloc | apply Kd.R_drewN | apply Kd.R_drew));exact HO_3.out,au0⟩
end Go.Proofs.YtgdpnmikcopkmaaDoor.U
end
section
namespace Go.Proofs.YtgdpnmikcopkmaaDoor.U
open Go.RowKit Go.Proofs.YtgdpnmikcopkmaaDoorW.PrintWords Go.Proofs.YtgdpnmikcopkmaaDoorW.PrintLast Go.Proofs.YtgdpnmikcopkmaaDoorW.PrintMore
attribute [local go_sem] max2_int min2_int max_two min_two max_three min_three max_four min_four   -- for this text's walks alone
set_option linter.unusedVariables false
set_option linter.unusedSimpArgs false
def cluster_glued.j0 : Nat → Int → Int → Bool → Option (Bool)
 | 0,_,_,_ => none
 | k + 1,x0,x1,x11 => if x11 = true then (some true) else ((width_Class.f k x0).bind fun t177 => ((width_Class.f k x1).bind fun t178 => (if t178 = 3 then (if t177 = 1 then (some false) else (some (t177 != 2))) else (some false))))
def cluster_glued.f (k : Nat) (a0 : Int) (a1 : Int) : Option (Bool) := if a0 = 13 then (cluster_glued.j0 k a0 a1 (a1 == 10)) else (cluster_glued.j0 k a0 a1 false)
set_option maxHeartbeats 8000000 in
set_option maxRecDepth 100000 in
theorem cluster_glued.calls (k : Nat) (a0 : Int) (a1 : Int) (r : Bool) (w : World) (h : cluster_glued.f k a0 a1 = some r) :
  Calls Tryd.prog 60 #[.int .i32 a0,.int .i32 a1] w fun e w' => e = .returned (.bool r) ∧ Below w.heap.size w w' := by
 have HB := Aside0.mk (Below.refl w.heap.size w)
 have H : (if a0 = 13 then (cluster_glued.j0 k a0 a1 (a1 == 10)) else (cluster_glued.j0 k a0 a1 false)) = some r := h
 clear h
 have HC3 := Aside0.mk H
 clear H
 go_enter Tryd.func60,Tryd.ntmps60
 go_upto_region 1 with (fail)
 go_cut [11] (fun v11 wc => ∃ (kq : Nat) (x11_2 : Bool),v11 = .bool x11_2 ∧ Aside0 (cluster_glued.j0 kq a0 a1 x11_2 = some r) ∧ Aside0 (kq ≤ k) ∧ Aside0 (Below w.heap.size w wc))
 case first =>
  have H := HC3.out
  clear HC3
  by_cases c4 : a0 = 13
  ·rw [if_pos c4] at H
   have c4b0 : (a0 == 13) = true := beq_iff_eq.mpr c4
   have c4b1 : (a0 != 13) = false := bne_eq_false_iff_eq.mpr c4
   clear c4
   (first | rw [c4b0] | (simp only [i64_w,i32_w];rw [c4b0]) | skip)
   have H' := Aside0.mk H
   clear H
   go_wp2
   go_meet
   case rel => exact ⟨_,((a1 == 10)),au4,H',⟨by first | omega | exact Nat.le_refl _⟩,⟨au0⟩⟩
  ·rw [if_neg c4] at H
   have c4b0 : (a0 == 13) = false := beq_eq_false_iff_ne.mpr c4
   have c4b1 : (a0 != 13) = true := bne_iff_ne.mpr c4
   (first | rw [c4b0] | (simp only [i64_w,i32_w];rw [c4b0]) | skip)
   have H' := Aside0.mk H
   clear H
   go_wp2
   go_meet
   case rel => exact ⟨_,(false),au4,H',⟨by first | omega | exact Nat.le_refl _⟩,⟨au0⟩⟩
 case rest =>
  clear HC3
  try clear p2
  try clear c4
  try clear c4b0
  try clear c4b1
  obtain ⟨kq,x11_2,rfl,HA,HJ2,HB⟩ := hcut
  cases kq with
  | zero => exact absurd HA.out (by simp [cluster_glued.j0])
  | succ kj2 =>
   have H := HA.out
   clear HA
   simp only [cluster_glued.j0] at H
   by_cases c5 : x11_2 = true
   ·subst c5
    have H1 : (some true) = some r := by rw [if_pos rfl] at H;exact H
    clear H
    have H := H1
    clear H1
    obtain rfl := Option.some.inj H
    go_wp2
    go_ret
    exact ⟨au2,au0⟩
   ·replace c5 := Bool.eq_false_iff.mpr c5
    subst c5
    have H1 : ((width_Class.f kj2 a0).bind fun t177 => ((width_Class.f kj2 a1).bind fun t178 => (if t178 = 3 then (if t177 = 1 then (some false) else (some (t177 != 2))) else (some false)))) = some r := by rw [if_neg (show ¬ (false = true) by decide)] at H;exact H
    clear H
    have H := H1
    clear H1
    replace H := Option.bind_eq_some_iff.mp H
    obtain ⟨t177,A60,H⟩ := H
    replace H : ((width_Class.f kj2 a1).bind fun t178 => (if t178 = 3 then (if t177 = 1 then (some false) else (some (t177 != 2))) else (some false))) = some r := H
    have A6 := Aside0.mk A60
    clear A60
    replace H := Option.bind_eq_some_iff.mp H
    obtain ⟨t178,A70,H⟩ := H
    replace H : (if t178 = 3 then (if t177 = 1 then (some false) else (some (t177 != 2))) else (some false)) = some r := H
    have A7 := Aside0.mk A70
    clear A70
    by_cases c8 : t178 = 3
    ·rw [if_pos c8] at H
     have c8b0 : (t178 == 3) = true := beq_iff_eq.mpr c8
     have c8b1 : (t178 != 3) = false := bne_eq_false_iff_eq.mpr c8
     clear c8
     by_cases c9 : t177 = 1
     ·rw [if_pos c9] at H
      have c9b0 : (t177 == 1) = true := beq_iff_eq.mpr c9
      have c9b1 : (t177 != 1) = false := bne_eq_false_iff_eq.mpr c9
      clear c9
      obtain rfl := Option.some.inj H
      go_wp2_with (first | ((with_reducible refine gate_callee (f := 66) rfl ?_);refine goesL_ (some 13) rfl rfl Tryd.func66 (by kernel_rfl) rfl #[.int .i32 a0] rfl au1 ?_;(with_reducible refine (width_Class.calls kj2 a0 t177 _ A6.out).mono ?_);rintro e w10 ⟨rfl,hb⟩;refine ⟨_,rfl,?_⟩;have n0_ := Aside0.mk (below_step au0 hb);clear HB;have HB := n0_;clear n0_;(try clear hb);(try clear hb2);(try clear hk);(try clear hi)) | ((with_reducible refine gate_callee (f := 66) rfl ?_);refine goesL_ (some 15) rfl rfl Tryd.func66 (by kernel_rfl) rfl #[.int .i32 a1] rfl au1 ?_;(with_reducible refine (width_Class.calls kj2 a1 t178 _ A7.out).mono ?_);rintro e w11 ⟨rfl,hb⟩;refine ⟨_,rfl,?_⟩;have n0_ := Aside0.mk (below_step au0 hb);clear HB;have HB := n0_;clear n0_;(try clear hb);(try clear hb2);(try clear hk);(try clear hi)))
      go_ret
      exact ⟨au2,au0⟩
     ·rw [if_neg c9] at H
      have c9b0 : (t177 == 1) = false := beq_eq_false_iff_ne.mpr c9
      have c9b1 : (t177 != 1) = true := bne_iff_ne.mpr c9
      obtain rfl := Option.some.inj H
      go_wp2_with (first | ((with_reducible refine gate_callee (f := 66) rfl ?_);refine goesL_ (some 13) rfl rfl Tryd.func66 (by kernel_rfl) rfl #[.int .i32 a0] rfl au1 ?_;(with_reducible refine (width_Class.calls kj2 a0 t177 _ A6.out).mono ?_);rintro e w12 ⟨rfl,hb⟩;refine ⟨_,rfl,?_⟩;have n0_ := Aside0.mk (below_step au0 hb);clear HB;have HB := n0_;clear n0_;(try clear hb);(try clear hb2);(try clear hk);(try clear hi)) | ((with_reducible refine gate_callee (f := 66) rfl ?_);refine goesL_ (some 15) rfl rfl Tryd.func66 (by kernel_rfl) rfl #[.int .i32 a1] rfl au1 ?_;(with_reducible refine (width_Class.calls kj2 a1 t178 _ A7.out).mono ?_);rintro e w13 ⟨rfl,hb⟩;refine ⟨_,rfl,?_⟩;have n0_ := Aside0.mk (below_step au0 hb);clear HB;have HB := n0_;clear n0_;(try clear hb);(try clear hb2);(try clear hk);(try clear hi)))
      go_ret
      exact ⟨au2,au0⟩
    ·rw [if_neg c8] at H
     have c8b0 : (t178 == 3) = false := beq_eq_false_iff_ne.mpr c8
     have c8b1 : (t178 != 3) = true := bne_iff_ne.mpr c8
     obtain rfl := Option.some.inj H
     go_wp2_with (first | ((with_reducible refine gate_callee (f := 66) rfl ?_);refine goesL_ (some 13) rfl rfl Tryd.func66 (by kernel_rfl) rfl #[.int .i32 a0] rfl au1 ?_;(with_reducible refine (width_Class.calls kj2 a0 t177 _ A6.out).mono ?_);rintro e w14 ⟨rfl,hb⟩;refine ⟨_,rfl,?_⟩;have n0_ := Aside0.mk (below_step au0 hb);clear HB;have HB := n0_;clear n0_;(try clear hb);(try clear hb2);(try clear hk);(try clear hi)) | ((with_reducible refine gate_callee (f := 66) rfl ?_);refine goesL_ (some 15) rfl rfl Tryd.func66 (by kernel_rfl) rfl #[.int .i32 a1] rfl au1 ?_;(with_reducible refine (width_Class.calls kj2 a1 t178 _ A7.out).mono ?_);rintro e w15 ⟨rfl,hb⟩;refine ⟨_,rfl,?_⟩;have n0_ := Aside0.mk (below_step au0 hb);clear HB;have HB := n0_;clear n0_;(try clear hb);(try clear hb2);(try clear hk);(try clear hi)))
     go_ret
     exact ⟨au2,au0⟩
end Go.Proofs.YtgdpnmikcopkmaaDoor.U
end
section
namespace Go.Proofs.YtgdpnmikcopkmaaDoor.U
open Go.RowKit Go.Proofs.YtgdpnmikcopkmaaDoorW.PrintWords Go.Proofs.YtgdpnmikcopkmaaDoorW.PrintLast Go.Proofs.YtgdpnmikcopkmaaDoorW.PrintMore
attribute [local go_sem] max2_int min2_int max_two min_two max_three min_three max_four min_four   -- for this text's walks alone
set_option linter.unusedVariables false
set_option linter.unusedSimpArgs false
def cluster_Boundary.j0 : Nat → ByteArray → Int → Bool → Option (Bool)
 | 0,_,_,_ => none
 | k + 1,x0,x1,x16 => if x16 = true then (if x1 = 0 then (some true) else (some (x1 == (x0.size : Int)))) else ((unit_Boundary.f k x0 x1).bind fun t179 => (if t179 = true then ((unit_Prev.f k x0 x1).bind fun t180 => ((unit_At.f k x0 t180).bind fun bt181 => ((unit_At.f k x0 x1).bind fun bt185 => ((cluster_glued.f k bt181.1 bt185.1).bind fun t189 => (some (!t189)))))) else (some false)))
def cluster_Boundary.f (k : Nat) (a0 : ByteArray) (a1 : Int) : Option (Bool) := if a1 ≤ 0 then (cluster_Boundary.j0 k a0 a1 true) else (cluster_Boundary.j0 k a0 a1 (decide (a1 ≥ (a0.size : Int))))
set_option maxHeartbeats 8000000 in
set_option maxRecDepth 100000 in
theorem cluster_Boundary.calls (k : Nat) (a0 : ByteArray) (a1 : Int) (r : Bool) (w : World) (hT : Lib.Utf8Tabs 0 1 w) (h : cluster_Boundary.f k a0 a1 = some r) :
  Calls Tryd.prog 35 #[.string a0,.int .i64 a1] w fun e w' => e = .returned (.bool r) ∧ Below w.heap.size w w' := by
 have hu83 := Tryd.underlying83
 have HT := Aside0.mk hT
 clear hT
 have HB := Aside0.mk (Below.refl w.heap.size w)
 have H : (if a1 ≤ 0 then (cluster_Boundary.j0 k a0 a1 true) else (cluster_Boundary.j0 k a0 a1 (decide (a1 ≥ (a0.size : Int))))) = some r := h
 clear h
 have HC3 := Aside0.mk H
 clear H
 go_enter Tryd.func35,Tryd.ntmps35
 go_upto_region 1 with (fail)
 go_cut [16] (fun v16 wc => ∃ (kq : Nat) (x16_2 : Bool),v16 = .bool x16_2 ∧ Aside0 (cluster_Boundary.j0 kq a0 a1 x16_2 = some r) ∧ Aside0 (kq ≤ k) ∧ Aside0 (Below w.heap.size w wc))
 case first =>
  have H := HC3.out
  clear HC3
  by_cases c4 : a1 ≤ 0
  ·rw [if_pos c4] at H
   have c4b0 : decide (a1 ≤ 0) = true := decide_eq_true c4
   clear c4
   (first | rw [c4b0] | (simp only [i64_w,i32_w];rw [c4b0]) | skip)
   have H' := Aside0.mk H
   clear H
   go_wp2
   go_meet
   case rel => exact ⟨_,(true),au4,H',⟨by first | omega | exact Nat.le_refl _⟩,⟨au0⟩⟩
  ·rw [if_neg c4] at H
   have c4b0 : decide (a1 ≤ 0) = false := decide_eq_false c4
   clear c4
   (first | rw [c4b0] | (simp only [i64_w,i32_w];rw [c4b0]) | skip)
   have H' := Aside0.mk H
   clear H
   go_wp2
   go_meet
   case rel => exact ⟨_,(decide (a1 ≥ (a0.size : Int))),au4,H',⟨by first | omega | exact Nat.le_refl _⟩,⟨au0⟩⟩
 case rest =>
  clear HC3
  try clear p2
  try clear c3
  try clear c4
  try clear c4b0
  obtain ⟨kq,x16_2,rfl,HA,HJ2,HB⟩ := hcut
  cases kq with
  | zero => exact absurd HA.out (by simp [cluster_Boundary.j0])
  | succ kj2 =>
   have H := HA.out
   clear HA
   simp only [cluster_Boundary.j0] at H
   by_cases c5 : x16_2 = true
   ·subst c5
    have H1 : (if a1 = 0 then (some true) else (some (a1 == (a0.size : Int)))) = some r := by rw [if_pos rfl] at H;exact H
    clear H
    have H := H1
    clear H1
    by_cases c6 : a1 = 0
    ·rw [if_pos c6] at H
     have c6b0 : (a1 == 0) = true := beq_iff_eq.mpr c6
     have c6b1 : (a1 != 0) = false := bne_eq_false_iff_eq.mpr c6
     clear c6
     obtain rfl := Option.some.inj H
     go_wp2
     go_ret
     exact ⟨au2,au0⟩
    ·rw [if_neg c6] at H
     have c6b0 : (a1 == 0) = false := beq_eq_false_iff_ne.mpr c6
     have c6b1 : (a1 != 0) = true := bne_iff_ne.mpr c6
     obtain rfl := Option.some.inj H
     go_wp2
     go_ret
     exact ⟨au2,au0⟩
   ·replace c5 := Bool.eq_false_iff.mpr c5
    subst c5
    have H1 : ((unit_Boundary.f kj2 a0 a1).bind fun t179 => (if t179 = true then ((unit_Prev.f kj2 a0 a1).bind fun t180 => ((unit_At.f kj2 a0 t180).bind fun bt181 => ((unit_At.f kj2 a0 a1).bind fun bt185 => ((cluster_glued.f kj2 bt181.1 bt185.1).bind fun t189 => (some (!t189)))))) else (some false))) = some r := by rw [if_neg (show ¬ (false = true) by decide)] at H;exact H
    clear H
    have H := H1
    clear H1
    replace H := Option.bind_eq_some_iff.mp H
    obtain ⟨t179,A70,H⟩ := H
    replace H : (if t179 = true then ((unit_Prev.f kj2 a0 a1).bind fun t180 => ((unit_At.f kj2 a0 t180).bind fun bt181 => ((unit_At.f kj2 a0 a1).bind fun bt185 => ((cluster_glued.f kj2 bt181.1 bt185.1).bind fun t189 => (some (!t189)))))) else (some false)) = some r := H
    have A7 := Aside0.mk A70
    clear A70
    by_cases c8 : t179 = true
    ·subst c8
     have H1 : ((unit_Prev.f kj2 a0 a1).bind fun t180 => ((unit_At.f kj2 a0 t180).bind fun bt181 => ((unit_At.f kj2 a0 a1).bind fun bt185 => ((cluster_glued.f kj2 bt181.1 bt185.1).bind fun t189 => (some (!t189)))))) = some r := by rw [if_pos rfl] at H;exact H
     clear H
     have H := H1
     clear H1
     replace H := Option.bind_eq_some_iff.mp H
     obtain ⟨t180,A90,H⟩ := H
     replace H : ((unit_At.f kj2 a0 t180).bind fun bt181 => ((unit_At.f kj2 a0 a1).bind fun bt185 => ((cluster_glued.f kj2 bt181.1 bt185.1).bind fun t189 => (some (!t189))))) = some r := H
     have A9 := Aside0.mk A90
     clear A90
     replace H := Option.bind_eq_some_iff.mp H
     obtain ⟨⟨t181,t182,t183⟩,A100,H⟩ := H
     replace H : ((unit_At.f kj2 a0 a1).bind fun bt185 => ((cluster_glued.f kj2 t181 bt185.1).bind fun t189 => (some (!t189)))) = some r := H
     have A10 := Aside0.mk A100
     clear A100
     replace H := Option.bind_eq_some_iff.mp H
     obtain ⟨⟨t185,t186,t187⟩,A110,H⟩ := H
     replace H : ((cluster_glued.f kj2 t181 t185).bind fun t189 => (some (!t189))) = some r := H
     have A11 := Aside0.mk A110
     clear A110
     replace H := Option.bind_eq_some_iff.mp H
     obtain ⟨t189,A120,H⟩ := H
     replace H : (some (!t189)) = some r := H
     have A12 := Aside0.mk A120
     clear A120
     obtain rfl := Option.some.inj H
     go_wp2_with (first | ((with_reducible refine gate_callee (f := 57) rfl ?_);refine goesL_ (some 27) rfl rfl Tryd.func57 (by kernel_rfl) rfl #[.string a0,.int .i64 a1] rfl au1 ?_;(with_reducible refine (unit_Boundary.calls kj2 a0 a1 true _ ?side1 A7.out).mono ?_);(case side1 => exact tabs_below HT.out au0);rintro e w13 ⟨rfl,hb⟩;refine ⟨_,rfl,?_⟩;have n0_ := Aside0.mk (below_step au0 hb);clear HB;have HB := n0_;clear n0_;(try clear hb);(try clear hb2);(try clear hk);(try clear hi)) | ((with_reducible refine gate_callee (f := 59) rfl ?_);refine goesL_ (some 33) rfl rfl Tryd.func59 (by kernel_rfl) rfl #[.string a0,.int .i64 a1] rfl au1 ?_;(with_reducible refine (unit_Prev.calls kj2 a0 a1 t180 _ ?side1 A9.out).mono ?_);(case side1 => exact tabs_below HT.out au0);rintro e w14 ⟨rfl,hb⟩;refine ⟨_,rfl,?_⟩;have n0_ := Aside0.mk (below_step au0 hb);clear HB;have HB := n0_;clear n0_;(try clear hb);(try clear hb2);(try clear hk);(try clear hi)) | ((with_reducible refine gate_callee (f := 58) rfl ?_);refine goesL_ (some 34) rfl rfl Tryd.func58 (by kernel_rfl) rfl #[.string a0,.int .i64 t180] rfl au1 ?_;(with_reducible refine (unit_At.calls kj2 a0 t180 t181 t182 t183 _ ?side1 A10.out).mono ?_);(case side1 => exact tabs_below HT.out au0);rintro e w15 ⟨rfl,hb⟩;refine ⟨_,rfl,?_⟩;have n0_ := Aside0.mk (below_step au0 hb);clear HB;have HB := n0_;clear n0_;(try clear hb);(try clear hb2);(try clear hk);(try clear hi)) | ((with_reducible refine gate_dst (N := 5) rfl ?_);(try (refine gate_guard (by rfl) ?_;dsimp only));refine box_event ?hg (N := 5) ?hd (cs := #[.int .i32 0,.int .i64 0]) (t := 83) ?hr ?_;(case hd => rfl);(case hg => rfl);(case hr => first | (go_simp;done) | (go_simp;rfl));intro gb184 hg w16 hbox hb;have n0_ := Aside0.mk (below_step au0 hb);have n1_ := Aside0.mk (hbox);have n2_ := Aside0.mk ((by rw [hg];exact (below_size au0) : w.heap.size ≤ gb184));have n3_ := Aside0.mk ((by rw [hg];exact (below_size au0) : w.heap.size ≤ gb184));clear HB;have HB := n0_;have BK184 := n1_;have GW184 := n2_;have GE184 := n3_;clear n0_ n1_ n2_ n3_;clear hb hbox hg;have hcz17_0 : w16.cell? ⟨gb184,0,none⟩ = some (.int .i32 0) := (blk_cell BK184.out 0).trans rfl;have hcz17_1 : w16.cell? ⟨gb184,1,none⟩ = some (.int .i64 0) := (blk_cell BK184.out 1).trans rfl;have hfz17_0 := blk_frozen BK184.out 0;have hfz17_1 := blk_frozen BK184.out 1) | ((with_reducible refine gate_callee (f := 58) rfl ?_);refine goesL_ (some 40) rfl rfl Tryd.func58 (by kernel_rfl) rfl #[.string a0,.int .i64 a1] rfl au1 ?_;(with_reducible refine (unit_At.calls kj2 a0 a1 t185 t186 t187 _ ?side1 A11.out).mono ?_);(case side1 => exact tabs_below HT.out au12);rintro e w18 ⟨rfl,hb⟩;refine ⟨_,rfl,?_⟩;have n0_ := Aside0.mk (blk_below (g := gb184) (o := .cells #[.int .i32 t181,.int .i64 t182] 83 (0,0)) (by (with_reducible repeat (first | refine blk_drewN ?_ _ | refine blk_drew ?_ | refine blk_alloc ?_ _));refine blk_put (cs := #[.int .i32 t181,.int .i64 0]) ?_ 1 _ rfl;(with_reducible repeat (first | refine blk_drewN ?_ _ | refine blk_drew ?_ | refine blk_alloc ?_ _));refine blk_put (cs := #[.int .i32 0,.int .i64 0]) ?_ 0 _ rfl;(with_reducible repeat (first | refine blk_drewN ?_ _ | refine blk_drew ?_ | refine blk_alloc ?_ _));exact BK184.out) hb);have n1_ := Aside0.mk (below_step au12 hb);clear BK184;clear HB;have BK184 := n0_;have HB := n1_;clear n0_ n1_;(try clear hb);(try clear hb2);(try clear hk);(try clear hi)) | ((with_reducible refine gate_dst (N := 7) rfl ?_);(try (refine gate_guard (by rfl) ?_;dsimp only));refine box_event ?hg (N := 7) ?hd (cs := #[.int .i32 0,.int .i64 0]) (t := 83) ?hr ?_;(case hd => rfl);(case hg => rfl);(case hr => first | (go_simp;done) | (go_simp;rfl));intro gb188 hg w19 hbox hb;have n0_ := Aside0.mk (blk_below (g := gb184) (o := .cells #[.int .i32 t181,.int .i64 t182] 83 (0,0)) (by (with_reducible repeat (first | refine blk_drewN ?_ _ | refine blk_drew ?_ | refine blk_alloc ?_ _));exact BK184.out) hb);have n1_ := Aside0.mk (below_step au12 hb);have n2_ := Aside0.mk (hbox);have n3_ := Aside0.mk ((by rw [hg];exact (below_size au12) : w.heap.size ≤ gb188));have n4_ := Aside0.mk ((by rw [hg];exact (below_size au12) : w.heap.size ≤ gb188));have n5_ := Aside0.mk ((by rw [hg];exact Nat.ne_of_lt (blk_lt (g := gb184) (o := .cells #[.int .i32 t181,.int .i64 t182] 83 (0,0)) (by (with_reducible repeat (first | refine blk_drewN ?_ _ | refine blk_drew ?_ | refine blk_alloc ?_ _));exact BK184.out)) : gb184 ≠ gb188));have n6_ := Aside0.mk ((by rw [hg];exact Nat.ne_of_gt (blk_lt (g := gb184) (o := .cells #[.int .i32 t181,.int .i64 t182] 83 (0,0)) (by (with_reducible repeat (first | refine blk_drewN ?_ _ | refine blk_drew ?_ | refine blk_alloc ?_ _));exact BK184.out)) : gb188 ≠ gb184));clear BK184;clear HB;have BK184 := n0_;have HB := n1_;have BK188 := n2_;have GW188 := n3_;have GE188 := n4_;have NB184_188 := n5_;have NB188_184 := n6_;clear n0_ n1_ n2_ n3_ n4_ n5_ n6_;clear hb hbox hg;have hnb20 := NB188_184.out;have hnc20 := NB184_188.out;have hcz21_0 : w19.cell? ⟨gb188,0,none⟩ = some (.int .i32 0) := (blk_cell BK188.out 0).trans rfl;have hcz21_1 : w19.cell? ⟨gb188,1,none⟩ = some (.int .i64 0) := (blk_cell BK188.out 1).trans rfl;have hfz21_0 := blk_frozen BK188.out 0;have hfz21_1 := blk_frozen BK188.out 1;have hcz22_0 : w19.cell? ⟨gb184,0,none⟩ = some (.int .i32 t181) := (blk_cell BK184.out 0).trans rfl;have hcz22_1 : w19.cell? ⟨gb184,1,none⟩ = some (.int .i64 t182) := (blk_cell BK184.out 1).trans rfl;have hfz22_0 := blk_frozen BK184.out 0;have hfz22_1 := blk_frozen BK184.out 1) | ((with_reducible refine gate_callee (f := 60) rfl ?_);refine goesL_ (some 47) rfl rfl Tryd.func60 (by kernel_rfl) rfl #[.int .i32 t181,.int .i32 t185] rfl au1 ?_;(with_reducible refine (cluster_glued.calls kj2 t181 t185 t189 _ A12.out).mono ?_);rintro e w23 ⟨rfl,hb⟩;refine ⟨_,rfl,?_⟩;have n0_ := Aside0.mk (blk_below (g := gb184) (o := .cells #[.int .i32 t181,.int .i64 t182] 83 (0,0)) (by (with_reducible repeat (first | refine blk_drewN ?_ _ | refine blk_drew ?_ | refine blk_alloc ?_ _));refine blk_far ?_ NB184_188.out _;(with_reducible repeat (first | refine blk_drewN ?_ _ | refine blk_drew ?_ | refine blk_alloc ?_ _));refine blk_far ?_ NB184_188.out _;(with_reducible repeat (first | refine blk_drewN ?_ _ | refine blk_drew ?_ | refine blk_alloc ?_ _));exact BK184.out) hb);have n1_ := Aside0.mk (blk_below (g := gb188) (o := .cells #[.int .i32 t185,.int .i64 t186] 83 (0,0)) (by (with_reducible repeat (first | refine blk_drewN ?_ _ | refine blk_drew ?_ | refine blk_alloc ?_ _));refine blk_put (cs := #[.int .i32 t185,.int .i64 0]) ?_ 1 _ rfl;(with_reducible repeat (first | refine blk_drewN ?_ _ | refine blk_drew ?_ | refine blk_alloc ?_ _));refine blk_put (cs := #[.int .i32 0,.int .i64 0]) ?_ 0 _ rfl;(with_reducible repeat (first | refine blk_drewN ?_ _ | refine blk_drew ?_ | refine blk_alloc ?_ _));exact BK188.out) hb);have n2_ := Aside0.mk (below_step (by repeat (first | (with_reducible first | exact HB.out | apply below_alloc | apply pw_below_drewN | apply below_drew1 | refine below_set ?_ GE184.out | refine below_set ?_ GE188.out) | exact HB.out)) hb);clear BK184;clear BK188;clear HB;have BK184 := n0_;have BK188 := n1_;have HB := n2_;clear n0_ n1_ n2_;(try clear hb);(try clear hb2);(try clear hk);(try clear hi)))
     go_ret
     exact ⟨au2,by repeat (first | (with_reducible first | exact HB.out | apply below_alloc | apply pw_below_drewN | apply below_drew1 | refine below_set ?_ GE184.out | refine below_set ?_ GE188.out) | exact HB.out)⟩
    ·replace c8 := Bool.eq_false_iff.mpr c8
     subst c8
     have H1 : (some false) = some r := by rw [if_neg (show ¬ (false = true) by decide)] at H;exact H
     clear H
     have H := H1
     clear H1
     obtain rfl := Option.some.inj H
     go_wp2_with (first | ((with_reducible refine gate_callee (f := 57) rfl ?_);refine goesL_ (some 27) rfl rfl Tryd.func57 (by kernel_rfl) rfl #[.string a0,.int .i64 a1] rfl au1 ?_;(with_reducible refine (unit_Boundary.calls kj2 a0 a1 false _ ?side1 A7.out).mono ?_);(case side1 => exact tabs_below HT.out au0);rintro e w24 ⟨rfl,hb⟩;refine ⟨_,rfl,?_⟩;have n0_ := Aside0.mk (below_step au0 hb);clear HB;have HB := n0_;clear n0_;(try clear hb);(try clear hb2);(try clear hk);(try clear hi)))
     go_ret
     exact ⟨au2,au0⟩
end Go.Proofs.YtgdpnmikcopkmaaDoor.U
end
section
namespace Go.Proofs.YtgdpnmikcopkmaaDoor.U
open Go.RowKit Go.Proofs.YtgdpnmikcopkmaaDoorW.PrintWords Go.Proofs.YtgdpnmikcopkmaaDoorW.PrintLast Go.Proofs.YtgdpnmikcopkmaaDoorW.PrintMore
attribute [local go_sem] max2_int min2_int max_two min_two max_three min_three max_four min_four   -- for this text's walks alone
set_option linter.unusedVariables false
set_option linter.unusedSimpArgs false
def cluster_Next.l0 : Nat → ByteArray → Int → Option (Int)
 | 0,_,_ => none
 | k + 1,x0,x1 => if x1 < (x0.size : Int) then ((unit_Next.f k x0 x1).bind fun t192 => ((cluster_Boundary.f k x0 t192).bind fun t193 => (if t193 = true then (some t192) else (cluster_Next.l0 k x0 t192)))) else (some (x0.size : Int))
def cluster_Next.f (k : Nat) (a0 : ByteArray) (a1 : Int) : Option (Int) := if a1 < 0 then (some 0) else (cluster_Next.l0 k a0 a1)
set_option maxHeartbeats 8000000 in
set_option maxRecDepth 100000 in
theorem cluster_Next.calls (k : Nat) (a0 : ByteArray) (a1 : Int) (r : Int) (w : World) (hT : Lib.Utf8Tabs 0 1 w) (h : cluster_Next.f k a0 a1 = some r) :
  Calls Tryd.prog 39 #[.string a0,.int .i64 a1] w fun e w' => e = .returned (.int .i64 r) ∧ Below w.heap.size w w' := by
 have HT := Aside0.mk hT
 clear hT
 have HB := Aside0.mk (Below.refl w.heap.size w)
 have H : (if a1 < 0 then (some 0) else (cluster_Next.l0 k a0 a1)) = some r := h
 clear h
 by_cases c3 : a1 < 0
 ·rw [if_pos c3] at H
  have c3b0 : decide (a1 < 0) = true := decide_eq_true c3
  clear c3
  obtain rfl := Option.some.inj H
  go_enter Tryd.func39,Tryd.ntmps39
  go_wp2
  go_ret
  exact ⟨au2,au0⟩
 ·rw [if_neg c3] at H
  have c3b0 : decide (a1 < 0) = false := decide_eq_false c3
  clear c3
  have H' := Aside0.mk H
  clear H
  go_enter Tryd.func39,Tryd.ntmps39
  go_wp2
  go_loopg [1] k (fun kq v1 w' => ∃ (x1_1 : Int),v1 = .int .i64 x1_1 ∧ Aside0 (cluster_Next.l0 kq a0 x1_1 = some r) ∧ Aside0 (kq ≤ k) ∧ Aside0 (Below w.heap.size w w'))
  case atStart => exact ⟨(a1),au4,H',⟨Nat.le_refl _⟩,⟨au0⟩⟩
  case round =>
   clear H'
   try clear p2
   try clear c3
   try clear c3b0
   obtain ⟨x1_1,rfl,HA,HK1,HB⟩ := hrel
   cases gk with
   | zero => exact absurd HA.out (by simp [cluster_Next.l0])
   | succ k1 =>
    have H := HA.out
    clear HA
    simp only [cluster_Next.l0] at H
    by_cases c4 : x1_1 < (a0.size : Int)
    ·rw [if_pos c4] at H
     have c4b0 : decide (x1_1 < (a0.size : Int)) = true := decide_eq_true c4
     clear c4
     replace H := Option.bind_eq_some_iff.mp H
     obtain ⟨t192,A50,H⟩ := H
     replace H : ((cluster_Boundary.f k1 a0 t192).bind fun t193 => (if t193 = true then (some t192) else (cluster_Next.l0 k1 a0 t192))) = some r := H
     have A5 := Aside0.mk A50
     clear A50
     replace H := Option.bind_eq_some_iff.mp H
     obtain ⟨t193,A60,H⟩ := H
     replace H : (if t193 = true then (some t192) else (cluster_Next.l0 k1 a0 t192)) = some r := H
     have A6 := Aside0.mk A60
     clear A60
     by_cases c7 : t193 = true
     ·subst c7
      have H1 : (some t192) = some r := by rw [if_pos rfl] at H;exact H
      clear H
      have H := H1
      clear H1
      obtain rfl := Option.some.inj H
      go_wp2_with (first | ((with_reducible refine gate_callee (f := 62) rfl ?_);refine goesL_ (some 13) rfl rfl Tryd.func62 (by kernel_rfl) rfl #[.string a0,.int .i64 x1_1] rfl au1 ?_;(with_reducible refine (unit_Next.calls k1 a0 x1_1 t192 _ ?side1 A5.out).mono ?_);(case side1 => exact tabs_below HT.out au0);rintro e w8 ⟨rfl,hb⟩;refine ⟨_,rfl,?_⟩;have n0_ := Aside0.mk (below_step au0 hb);clear HB;have HB := n0_;clear n0_;(try clear hb);(try clear hb2);(try clear hk);(try clear hi)) | ((with_reducible refine gate_callee (f := 35) rfl ?_);refine goesL_ (some 16) rfl rfl Tryd.func35 (by kernel_rfl) rfl #[.string a0,.int .i64 t192] rfl au1 ?_;(with_reducible refine (cluster_Boundary.calls k1 a0 t192 true _ ?side1 A6.out).mono ?_);(case side1 => exact tabs_below HT.out au0);rintro e w9 ⟨rfl,hb⟩;refine ⟨_,rfl,?_⟩;have n0_ := Aside0.mk (below_step au0 hb);clear HB;have HB := n0_;clear n0_;(try clear hb);(try clear hb2);(try clear hk);(try clear hi)))
      go_ret
      exact ⟨au2,au0⟩
     ·replace c7 := Bool.eq_false_iff.mpr c7
      subst c7
      have H1 : (cluster_Next.l0 k1 a0 t192) = some r := by rw [if_neg (show ¬ (false = true) by decide)] at H;exact H
      clear H
      have H := H1
      clear H1
      have H' := Aside0.mk H
      clear H
      go_wp2_with (first | ((with_reducible refine gate_callee (f := 62) rfl ?_);refine goesL_ (some 13) rfl rfl Tryd.func62 (by kernel_rfl) rfl #[.string a0,.int .i64 x1_1] rfl au1 ?_;(with_reducible refine (unit_Next.calls k1 a0 x1_1 t192 _ ?side1 A5.out).mono ?_);(case side1 => exact tabs_below HT.out au0);rintro e w10 ⟨rfl,hb⟩;refine ⟨_,rfl,?_⟩;have n0_ := Aside0.mk (below_step au0 hb);clear HB;have HB := n0_;clear n0_;(try clear hb);(try clear hb2);(try clear hk);(try clear hi)) | ((with_reducible refine gate_callee (f := 35) rfl ?_);refine goesL_ (some 16) rfl rfl Tryd.func35 (by kernel_rfl) rfl #[.string a0,.int .i64 t192] rfl au1 ?_;(with_reducible refine (cluster_Boundary.calls k1 a0 t192 false _ ?side1 A6.out).mono ?_);(case side1 => exact tabs_below HT.out au0);rintro e w11 ⟨rfl,hb⟩;refine ⟨_,rfl,?_⟩;have n0_ := Aside0.mk (below_step au0 hb);clear HB;have HB := n0_;clear n0_;(try clear hb);(try clear hb2);(try clear hk);(try clear hi)))
      go_roundg k1
      case measure => have := HK1.out;omega
      case rel => exact ⟨(t192),au4,H',⟨by have := HK1.out;omega⟩,⟨au0⟩⟩
    ·rw [if_neg c4] at H
     have c4b0 : decide (x1_1 < (a0.size : Int)) = false := decide_eq_false c4
     clear c4
     obtain rfl := Option.some.inj H
     go_wp2
     go_ret
     exact ⟨au2,au0⟩
end Go.Proofs.YtgdpnmikcopkmaaDoor.U
end
section
namespace Go.Proofs.YtgdpnmikcopkmaaDoor.Pu
open Go Go.RowKit Go.Proofs.YtgdpnmikcopkmaaDoor.Mu Go.Proofs.YtgdpnmikcopkmaaDoor.U Go.Proofs.YtgdpnmikcopkmaaDoorW.PrintWords Go.Proofs.YtgdpnmikcopkmaaDoorW.PrintLast Go.Proofs.YtgdpnmikcopkmaaDoorW.PrintMore
set_option linter.unusedVariables false
theorem srow_loop (a : List Cl) (ha : a.length ≤ 1099511627776) : ∀ n i : Nat,i + n = a.length → Ev (fun k => bodkinref22_SameRow.l0 k a a (i : Int)) true := by
 intro n
 induction n with
 | zero => intro i hi;exact Ev.step (fun k => bodkinref22_SameRow.l0.eq_2 ..) (ev_neg (by omega) (Ev.now _))
 | succ n ih =>
  intro i hi
  refine Ev.step (fun k => bodkinref22_SameRow.l0.eq_2 ..) (ev_pos (by omega) (ev_pos (by omega) (ev_pos (by omega) (ev_neg (by simp) ?_))))
  rw [w64 (by omega) (by omega)]
  exact ih (i + 1) (by omega)
theorem srow_refl (a : List Cl) (ha : a.length ≤ 1099511627776) : Ev (fun k => bodkinref22_SameRow.f k a a) true := by
 unfold bodkinref22_SameRow.f
 exact ev_pos rfl (srow_loop a ha a.length 0 (by omega))
theorem sframe_loop (w r c : Int) (A : List (List Cl)) (hA : A.length ≤ 1099511627776) (hR : ∀ row ∈ A,row.length ≤ 1099511627776) : ∀ n i : Nat,i + n = A.length → Ev (fun k => bodkinref22_SameFrame.l0 k (i : Int) w A r c w A r c) true := by
 intro n
 induction n with
 | zero => intro i hi;exact Ev.step (fun k => bodkinref22_SameFrame.l0.eq_2 ..) (ev_neg (by omega) (Ev.now _))
 | succ n ih =>
  intro i hi
  have hrow : (rd_L3 A (i : Int)).length ≤ 1099511627776 := by
   unfold rd_L3
   rw [Int.toNat_natCast,List.getD_eq_getElem?_getD,List.getElem?_eq_getElem (by omega)]
   exact hR _ (List.getElem_mem _)
  refine Ev.step (fun k => bodkinref22_SameFrame.l0.eq_2 ..) (ev_pos (by omega) (ev_pos (by omega) (ev_pos (by omega) (Ev.bind (srow_refl _ hrow) (ev_pos rfl ?_)))))
  rw [w64 (by omega) (by omega)]
  exact ih (i + 1) (by omega)
theorem sframe_refl (w r c : Int) (A : List (List Cl)) (hA : A.length ≤ 1099511627776) (hR : ∀ row ∈ A,row.length ≤ 1099511627776) : Ev (fun k => bodkinref22_SameFrame.f k w A r c w A r c) true := by
 unfold bodkinref22_SameFrame.f
 refine ev_pos rfl (ev_neg (by simp) (Ev.step (fun k => bodkinref22_SameFrame.j0.eq_2 ..) (ev_neg (by simp) (sframe_loop w r c A hA hR A.length 0 (by omega)))))
/-- The document's examples. -/
def exA : Sc × ByteArray := feedS (newSc 3 2,⟨#[]⟩) ⟨#[97,98,99]⟩
def exB : Sc × ByteArray := feedS exA ⟨#[27,91,75,100]⟩
theorem exA_c : exA.1.c = 2 := by kernel_rfl
theorem exA_r : exA.1.r = 0 := by kernel_rfl
theorem exA_full : exA.1.full = true := by kernel_rfl
def exR0 : List Cl := [⟨⟨#[97]⟩,1⟩,⟨⟨#[98]⟩,1⟩]
def exR1 : List Cl := [⟨⟨#[100]⟩,1⟩]
def moreR : List Cl := [⟨⟨#[109]⟩,1⟩,⟨⟨#[111]⟩,1⟩,⟨⟨#[114]⟩,1⟩,⟨⟨#[101]⟩,1⟩]
theorem ex_row0 : bodkinlaw22_row.f 10 ⟨#[97,98]⟩ = some exR0 := by kernel_rfl
theorem ex_more : bodkinlaw22_row.f 10 ⟨#[109,111,114,101]⟩ = some moreR := by kernel_rfl
theorem ex_row1 : bodkinlaw22_row.f 10 ⟨#[100]⟩ = some exR1 := by kernel_rfl
theorem exB_n : exB.1.frameN 2 = 2 := by kernel_rfl
theorem exB_nr : exB.1.nrows = 2 := by kernel_rfl
theorem exB_frame : frameL exB.1.rows 2 = [exR0,exR1] := by kernel_rfl
theorem ex_same0 : bodkinref22_SameRow.f 10 exR0 exR0 = some true := by kernel_rfl
theorem ex_same1 : bodkinref22_SameRow.f 10 exR1 exR1 = some true := by kernel_rfl
theorem exB_all : allEq [exR0,exR1] exB.1.rows 2 = true := by kernel_rfl
theorem ex_next : cluster_Next.f 50 ⟨#[97]⟩ 0 = some 1 := by kernel_rfl
theorem exA_fit : Fit exA 11 := (fit_new 3 2).feed ⟨#[97,98,99]⟩
theorem exB_fit : Fit exB 26 := exA_fit.feed ⟨#[27,91,75,100]⟩
end Go.Proofs.YtgdpnmikcopkmaaDoor.Pu
end
section
namespace Go.Proofs.YtgdpnmikcopkmaaDoor.U
open Go.RowKit Go.Proofs.YtgdpnmikcopkmaaDoor.Mu Go.Proofs.YtgdpnmikcopkmaaDoor.Pu Go.Proofs.YtgdpnmikcopkmaaDoorW.PrintWords Go.Proofs.YtgdpnmikcopkmaaDoorW.PrintLast Go.Proofs.YtgdpnmikcopkmaaDoorW.PrintMore
set_option linter.unusedVariables false
set_option linter.unusedSimpArgs false
attribute [local go_sem high] place_eq
def ex9.T : Bool × List (List Nat × List Nat) := (true,[([],[]),([0],[0]),([1],[1]),([2],[2]),([3],[3]),([4],[4]),([5,4],[4,5]),([6,4],[4,6]),([7,4],[4,7]),([4,4],[4]),([8,9,9,4],[4,8,9]),([4,10],[4,10]),([11,10],[11]),([12],[12]),([13,12],[12,13]),([14,12],[12,14]),([15,12],[12,15]),([12,12],[12]),([16,17,17,12],[12,16,17]),([12,18],[12,18]),([19,18],[19]),([20],[20]),([20],[20]),([21,22,20,20],[20,21,22]),([20,23],[20,23]),([24,23],[24]),([25],[25]),([26,25,25],[25,26]),([27,25],[25,27]),([25,28],[25,28]),([29,27,0,1,2,3,4,5,6,7,8,9,10,11,12,13,14,15,16,17,18,19,20,21,22,23,24,25,26,27,28,29],[29])])
def ex9.B : List Nat := [0,1,3,7,15,31,63,127,255,31,1023,2047,4095,8191,16383,32767,65535,8191,262143,524287,1048575,2097151,2097151,8388607,16777215,33554431,67108863,134217727,268435455,536870911,1073741823]
theorem ex9.tab : rtab .any (opsOf Tryd.f13 9) = ex9.T := by kernel_rfl
theorem ex9.bits : waitsOk ex9.T.2 ex9.B = true := by kernel_rfl
theorem sees6 {w w' : World} {a0 a1 a2 a3 a4 a5 : Addr} {v0 v1 v2 v3 v4 v5 : Value} (h : w.cell? a0 = some v0 ∧ w.cell? a1 = some v1 ∧ w.cell? a2 = some v2 ∧ w.cell? a3 = some v3 ∧ w.cell? a4 = some v4 ∧ w.cell? a5 = some v5) (hb : Below w.heap.size w w') : w'.cell? a0 = some v0 ∧ w'.cell? a1 = some v1 ∧ w'.cell? a2 = some v2 ∧ w'.cell? a3 = some v3 ∧ w'.cell? a4 = some v4 ∧ w'.cell? a5 = some v5 := ⟨cell_below h.1 hb,cell_below h.2.1 hb,cell_below h.2.2.1 hb,cell_below h.2.2.2.1 hb,cell_below h.2.2.2.2.1 hb,cell_below h.2.2.2.2.2 hb⟩
theorem sees6k {w w' : World} {q g : Nat} {T : Nat → Prop} {v0 v1 v2 v3 v4 v5 : Value} (h : w.cell? ⟨q,0,none⟩ = some v0 ∧ w.cell? ⟨q,1,none⟩ = some v1 ∧ w.cell? ⟨q,2,none⟩ = some v2 ∧ w.cell? ⟨q,3,none⟩ = some v3 ∧ w.cell? ⟨g,0,none⟩ = some v4 ∧ w.cell? ⟨g,1,none⟩ = some v5) (hk : Kept w w' T) (hq : ¬ T q) (hg : ¬ T g) : w'.cell? ⟨q,0,none⟩ = some v0 ∧ w'.cell? ⟨q,1,none⟩ = some v1 ∧ w'.cell? ⟨q,2,none⟩ = some v2 ∧ w'.cell? ⟨q,3,none⟩ = some v3 ∧ w'.cell? ⟨g,0,none⟩ = some v4 ∧ w'.cell? ⟨g,1,none⟩ = some v5 :=
 ⟨kept_cell h.1 hk hq,kept_cell h.2.1 hk hq,kept_cell h.2.2.1 hk hq,kept_cell h.2.2.2.1 hk hq,kept_cell h.2.2.2.2.1 hk hg,kept_cell h.2.2.2.2.2 hk hg⟩
set_option maxRecDepth 100000 in
set_option maxHeartbeats 8000000 in
theorem law_shows (W : World) (hT : Lib.Utf8Tabs 0 1 W) (h2 : 2 ≤ W.heap.size) :
  Calls Tryd.prog 13 #[] W fun e w' => e = .returned (.bool true) ∧ Below W.heap.size W w' := by
 have hnil : ∀ (w : World) p,(binOp .neq 28 (.pointer (some p)) (.pointer none)).run Tryd.prog w = (binOp .neq 28 (.pointer (some p)) (.pointer none)).run Tryd.prog w := fun _ _ => rfl
 have hq : ∀ (w : World) (a : Option Addr),(binOp .eql 28 (.pointer a) (.pointer none)).run Tryd.prog w = .ok (.bool a.isNone) w := fun w a => run_eql_ptr_nil (tp := 28) (te := 69) w a Tryd.underlying28 (j := _) rfl
 clear hnil
 have eC := exA_c
 have eR := exA_r
 have eF := exA_full
 have fA := exA_fit
 have fB := exB_fit
 have hAe := Lib.hid (show feedS (newSc 3 2,⟨#[]⟩) ⟨#[97,98,99]⟩ = exA from rfl)
 have hBe := Lib.hid (show feedS exA ⟨#[27,91,75,100]⟩ = exB from rfl)
 go_enter Tryd.func13,Tryd.ntmps13
 go_upto_region 5 with (first | (go_at_call 39;refine (cluster_Next.calls 50 _ _ _ _ hT ex_next).mono ?_;rintro e w1 ⟨rfl,hb1⟩) | (go_at_call 14;refine (scr_new 3 2 _).mono ?_;rintro e w2 ⟨p,rfl,hp,hS,hb2⟩;have hb12 := hb1.trans (hb2.mono hb1.size);have hS2 := hS W.heap.size hb1.size;have hT2 := tabs_below hT hb12;have hsz2 := hb12.size;clear hS) | (go_at_call 16;refine (scr_feed hS2 hsz2 h2 hT2 (fit_new 3 2) ⟨#[97,98,99]⟩ (by decide)).mono ?_;rintro e w3 ⟨rfl,O3,hM3⟩;rw [hAe.out] at hM3))
 have hM3' := hM3
 have hs3 := hM3.scr.at_
 have hcur := sc_cursor hs3
 have hful := sc_full hs3
 rw [eC,eR] at hcur
 rw [eF] at hful
 have hT3 := tabs_base hT2 hM3.below h2
 clear hb1 hb2 hT hS2
 go_upto_region 7 with (first | (go_at_call 26;refine hcur.mono ?_;rintro e w4 ⟨rfl,hb4⟩;have hful4 := sc_full (hs3.below hb4);rw [eF] at hful4) | (go_at_call 25;refine hful4.mono ?_;rintro e w5 ⟨rfl,hb5⟩))
 have hb45 := hb4.trans (hb5.mono hb4.size)
 have hsz3 : W.heap.size ≤ w3.heap.size := Nat.le_trans hsz2 hM3.kept.1
 have hM5 := hM3.then_ (Made.of_below hM3.scr hb45 hsz3)
 have hsz5 : W.heap.size ≤ w5.heap.size := Nat.le_trans hsz3 hb45.size
 have hT5 := tabs_below hT3 hb45
 clear hb4 hb5 hb45 hcur hful hful4 hs3 hM3 hM3' hT3
 go_upto_region 9 with (first | (go_at_call 16;refine (scr_feed hM5.scr hsz5 h2 hT5 fA ⟨#[27,91,75,100]⟩ (by decide)).mono ?_;rintro e w6 ⟨rfl,O6,hM6⟩;rw [hBe.out] at hM6;have hsz6 : W.heap.size ≤ w6.heap.size := Nat.le_trans hsz5 hM6.kept.1) | (go_at_call 20;refine (scr_frame hM6.scr hsz6 fB.ok 2).mono ?_;rintro e w7 ⟨rv,rfl,hS7,hM7⟩;rw [exB_n,exB_frame] at hS7;obtain ⟨gF,cF,rfl,hgF,hgF2,_,_⟩ := Kd.S_form hS7 (by decide)))
 have hM67 := (hM5.then_ hM6).then_ hM7
 have hsz7 : W.heap.size ≤ w7.heap.size := Nat.le_trans hsz6 hM7.kept.1
 have hal := below_alloc (Below.refl _ w7) (.cells #[.int .i64 exB.1.w,.slice (some ⟨gF,0,none⟩) 2 cF,.int .i64 exB.1.r,.int .i64 exB.1.c] 26 (0,0))
 have hM8 := hM67.then_ (Made.of_below hM67.scr hal hsz7)
 have hF8 := Kd.S_below hS7 hal
 have hq8 := World.alloc_heap_new w7 (.cells #[.int .i64 exB.1.w,.slice (some ⟨gF,0,none⟩) 2 cF,.int .i64 exB.1.r,.int .i64 exB.1.c] 26 (0,0))
 obtain ⟨ad0,A0,k0,had0,r0,hk0,hC0⟩ := at_L3 (Kd.S_reads' hF8).2.2 0 (by decide) (by decide)
 obtain ⟨ad1,A1,k1,had1,r1,hk1,hC1⟩ := at_L3 (Kd.S_reads' hF8).2.2 1 (by decide) (by decide)
 injection had0 with had0
 subst had0
 injection had1 with had1
 subst had1
 have hC0 : Kd.C k38 _ A0 2 exR0 := hC0
 have hC1 : Kd.C k38 _ A1 1 exR1 := hC1
 have hk0 : 2 ≤ k0 := hk0
 have hk1 : 1 ≤ k1 := hk1
 have r0 : (w7.alloc (.cells #[.int .i64 exB.1.w,.slice (some ⟨gF,0,none⟩) 2 cF,.int .i64 exB.1.r,.int .i64 exB.1.c] 26 (0,0))).cell? ⟨gF,0,none⟩ = some (.slice A0 2 k0) := r0
 have r1 : (w7.alloc (.cells #[.int .i64 exB.1.w,.slice (some ⟨gF,0,none⟩) 2 cF,.int .i64 exB.1.r,.int .i64 exB.1.c] 26 (0,0))).cell? ⟨gF,1,none⟩ = some (.slice A1 1 k1) := r1
 have hpq := hM6.scr.lt
 have hOq := hM6.scr.bd
 have hq6 : w6.heap.size ≤ w7.heap.size := hM7.kept.1
 have hnk : ∀ k,w6.heap.size ≤ k → ¬ (O6 k ∨ k = p) := fun k hk he => he.elim (fun h => by have := hOq k h;omega) (fun h => by omega)
 have eN := exB_nr
 have eA := exB_all
 generalize hqe : w7.heap.size = q at hq8 hq6 ⊢
 have hsz8 : W.heap.size ≤ (w7.alloc (.cells #[.int .i64 exB.1.w,.slice (some ⟨gF,0,none⟩) 2 cF,.int .i64 exB.1.r,.int .i64 exB.1.c] 26 (0,0))).heap.size := by rw [World.size_alloc];omega
 generalize w7.alloc (.cells #[.int .i64 exB.1.w,.slice (some ⟨gF,0,none⟩) 2 cF,.int .i64 exB.1.r,.int .i64 exB.1.c] 26 (0,0)) = w8 at hM8 hF8 hq8 hC0 hC1 r0 r1 hsz8 ⊢
 clear hM67 hal hM5 hM6 hM7 hS7 hT5 eC eR eF hAe hBe hqe hgF2 hq
 refine start_ (n := 31) (S := fun w' => w'.cell? ⟨q,0,none⟩ = some (.int .i64 exB.1.w) ∧ w'.cell? ⟨q,1,none⟩ = some (.slice (some ⟨gF,0,none⟩) 2 cF) ∧ w'.cell? ⟨q,2,none⟩ = some (.int .i64 exB.1.r) ∧ w'.cell? ⟨q,3,none⟩ = some (.int .i64 exB.1.c) ∧ w'.cell? ⟨gF,0,none⟩ = some (.slice A0 2 k0) ∧ w'.cell? ⟨gF,1,none⟩ = some (.slice A1 1 k1)) (ds := []) #[false,false,false,false,false,false,false,false,false,false,false,false,false,false,false,false,false,false,false,false,false,false,false,false,false,false,false,false,false,false,false] (by kernel_rfl) rfl rfl ⟨blk_cell hq8 0,blk_cell hq8 1,blk_cell hq8 2,blk_cell hq8 3,r0,r1⟩ (fun hHeld => ?_);refine with_tabW ex9.tab ex9.bits (fun HT_ HW_ => ?_)
 have hdr8 : Below w8.heap.size w8 w8.drew := below_drew (Below.refl _ _)
 have hM9 := hM8.then_ (Made.of_below hM8.scr hdr8 hsz8)
 have hF9 := Kd.S_below hF8 hdr8
 have hC0 := Kd.C_below hC0 hdr8
 have hC1 := Kd.C_below hC1 hdr8
 have hsz9 : W.heap.size ≤ w8.drew.heap.size := hsz8
 generalize w8.drew = w9 at hM9 hF9 hC0 hC1 hsz9 hHeld ⊢
 clear hM8 hF8 hq8 r0 r1 hdr8
 refine pure_ (i := 0) (N := (some 25)) (v := ?_) (a' := ?_) #[true,false,false,false,false,false,false,false,false,false,false,false,false,false,false,false,false,false,false,false,false,false,false,false,false,false,false,false,false,false,false] rfl rfl (any_of HT_.out (by kernel_rfl)) (fun _ _ _ h => h) (Or.inl ⟨by rfl,?_⟩) ?_ ?_
 rotate_left
 ·intro w'
  go_simp
  with_reducible rfl
 rotate_left
 ·simp only [Act.put,List.setIfInBounds_toArray,List.set_cons_zero,List.set_cons_succ,i64_w,i32_w]
  rfl
 refine take_ (i := 1) (N := (some 26)) (v := ?_) (a' := ?_) #[true,true,false,false,false,false,false,false,false,false,false,false,false,false,false,false,false,false,false,false,false,false,false,false,false,false,false,false,false,false,false] rfl rfl (take_ofW HT_.out HW_.out (by kernel_rfl)) (fun _ _ _ h => h) (Or.inl ⟨by rfl,?_⟩) hHeld ?_ ?_
 rotate_left
 ·rintro w' ⟨s1,s2,s3,s4,s5,s6⟩
  go_simp
  with_reducible rfl
 rotate_left
 ·simp only [Act.put,List.setIfInBounds_toArray,List.set_cons_zero,List.set_cons_succ,i64_w,i32_w]
  rfl
 refine pure_ (i := 2) (N := (some 27)) (v := ?_) (a' := ?_) #[true,true,true,false,false,false,false,false,false,false,false,false,false,false,false,false,false,false,false,false,false,false,false,false,false,false,false,false,false,false,false] rfl rfl (any_of HT_.out (by kernel_rfl)) (fun _ _ _ h => h) (Or.inl ⟨by rfl,?_⟩) ?_ ?_
 rotate_left
 ·intro w'
  go_simp
  with_reducible rfl
 rotate_left
 ·simp only [Act.put,List.setIfInBounds_toArray,List.set_cons_zero,List.set_cons_succ,i64_w,i32_w]
  rfl
 refine pure_ (i := 3) (N := (some 28)) (v := ?_) (a' := ?_) #[true,true,true,true,false,false,false,false,false,false,false,false,false,false,false,false,false,false,false,false,false,false,false,false,false,false,false,false,false,false,false] rfl rfl (any_of HT_.out (by kernel_rfl)) (fun _ _ _ h => h) (Or.inl ⟨by rfl,?_⟩) ?_ ?_
 rotate_left
 ·intro w'
  go_simp
  with_reducible rfl
 rotate_left
 ·simp only [Act.put,List.setIfInBounds_toArray,List.set_cons_zero,List.set_cons_succ,i64_w,i32_w]
  rfl
 refine pure_ (i := 4) (N := (some 29)) (v := ?_) (a' := ?_) #[true,true,true,true,true,false,false,false,false,false,false,false,false,false,false,false,false,false,false,false,false,false,false,false,false,false,false,false,false,false,false] rfl rfl (any_of HT_.out (by kernel_rfl)) (fun _ _ _ h => h) (Or.inl ⟨by rfl,?_⟩) ?_ ?_
 rotate_left
 ·intro w'
  go_simp
  with_reducible rfl
 rotate_left
 ·simp only [Act.put,List.setIfInBounds_toArray,List.set_cons_zero,List.set_cons_succ,i64_w,i32_w]
  rfl
 refine pure_ (i := 5) (N := (some 30)) (v := ?_) (a' := ?_) #[true,true,true,true,true,true,false,false,false,false,false,false,false,false,false,false,false,false,false,false,false,false,false,false,false,false,false,false,false,false,false] rfl rfl (any_of HT_.out (by kernel_rfl)) (fun _ _ _ h => h) (Or.inl ⟨by rfl,?_⟩) ?_ ?_
 rotate_left
 ·intro w'
  go_simp
  with_reducible rfl
 rotate_left
 ·simp only [Act.put,List.setIfInBounds_toArray,List.set_cons_zero,List.set_cons_succ,i64_w,i32_w]
  rfl
 refine take_ (i := 6) (N := (some 31)) (v := ?_) (a' := ?_) #[true,true,true,true,true,true,true,false,false,false,false,false,false,false,false,false,false,false,false,false,false,false,false,false,false,false,false,false,false,false,false] rfl rfl (take_ofW HT_.out HW_.out (by kernel_rfl)) (fun _ _ _ h => h) (Or.inl ⟨by rfl,?_⟩) hHeld ?_ ?_
 rotate_left
 ·rintro w' ⟨s1,s2,s3,s4,s5,s6⟩
  go_simp
  with_reducible rfl
 rotate_left
 ·simp only [Act.put,List.setIfInBounds_toArray,List.set_cons_zero,List.set_cons_succ,i64_w,i32_w]
  rfl
 refine pure_ (i := 7) (N := (some 32)) (v := ?_) (a' := ?_) #[true,true,true,true,true,true,true,true,false,false,false,false,false,false,false,false,false,false,false,false,false,false,false,false,false,false,false,false,false,false,false] rfl rfl (any_of HT_.out (by kernel_rfl)) (fun _ _ _ h => h) (Or.inl ⟨by rfl,?_⟩) ?_ ?_
 rotate_left
 ·intro w'
  go_simp
  with_reducible rfl
 rotate_left
 ·simp only [Act.put,List.setIfInBounds_toArray,List.set_cons_zero,List.set_cons_succ,i64_w,i32_w]
  rfl
 refine take_ (i := 8) (N := (some 33)) (v := ?_) (a' := ?_) #[true,true,true,true,true,true,true,true,true,false,false,false,false,false,false,false,false,false,false,false,false,false,false,false,false,false,false,false,false,false,false] rfl rfl (take_ofW HT_.out HW_.out (by kernel_rfl)) (fun _ _ _ h => h) (Or.inl ⟨by rfl,?_⟩) hHeld ?_ ?_
 rotate_left
 ·rintro w' ⟨s1,s2,s3,s4,s5,s6⟩
  go_simp
  with_reducible rfl
 rotate_left
 ·simp only [Act.put,List.setIfInBounds_toArray,List.set_cons_zero,List.set_cons_succ,i64_w,i32_w]
  rfl
 refine one_ (i := 9) (N := (some 34)) #[true,true,true,true,true,true,true,true,true,true,false,false,false,false,false,false,false,false,false,false,false,false,false,false,false,false,false,false,false,false,false] rfl rfl (one_of HT_.out (by kernel_rfl)) (by decide) (fun K hK => ?_)
 refine call_ 27 #[.string ⟨#[97,98]⟩] (by rfl) rfl au6 ?_
 refine (bodkinlaw22_row.calls 10 _ _ _ ex_row0).mono ?_
 rintro e w10 ⟨va,rfl,hVa,hba⟩
 obtain ⟨Ba,da,rfl⟩ := Kd.R_slice hVa
 have hM10 := hM9.then_ (Made.of_below hM9.scr hba hsz9)
 have hF10 := Kd.S_below hF9 hba
 have hsz10 : W.heap.size ≤ w10.heap.size := Nat.le_trans hsz9 hba.size
 have hC0 := Kd.C_below hC0 hba
 have hC1 := Kd.C_below hC1 hba
 have hDa := (Kd.R_reads' hVa).2.2
 have hDca := (Kd.R_reads' hVa).2.1
 refine ⟨_,rfl,hK.out _ _ (sees6 hHeld hba) (fun hHeld => ?_)⟩
 clear hK K hM9 hF9
 refine norm_ (a' := ?_) ?_ ?_
 rotate_left
 ·show Act.put _ (some 34) _ = _
  simp only [Act.put,List.setIfInBounds_toArray,List.set_cons_zero,List.set_cons_succ,i64_w,i32_w]
  rfl
 refine one_ (i := 10) (N := (some 35)) #[true,true,true,true,true,true,true,true,true,true,true,false,false,false,false,false,false,false,false,false,false,false,false,false,false,false,false,false,false,false,false] rfl rfl (one_of HT_.out (by kernel_rfl)) (by decide) (fun K hK => ?_)
 refine call_ 36 #[.slice A0 2 k0,.slice Ba exR0.length da] (by rfl) rfl au6 ?_
 refine (bodkinref22_SameRow.calls 10 A0 k0 exR0 Ba da exR0 true _ hC0 (by assumption) hDa (by assumption) ex_same0).mono ?_
 rintro e w11 ⟨rfl,hdr10⟩
 have hbs10 := hdr10.below
 have hM11 := hM10.then_ (Made.of_below hM10.scr hbs10 hsz10)
 have hF11 := Kd.S_below hF10 hbs10
 have hsz11 : W.heap.size ≤ w11.heap.size := Nat.le_trans hsz10 hbs10.size
 have hC0 := Kd.C_below hC0 hbs10
 have hC1 := Kd.C_below hC1 hbs10
 refine ⟨_,rfl,hK.out _ _ (sees6 hHeld hbs10) (fun hHeld => ?_)⟩
 clear hK K hM10 hF10
 refine norm_ (a' := ?_) ?_ ?_
 rotate_left
 ·show Act.put _ (some 35) _ = _
  simp only [Act.put,List.setIfInBounds_toArray,List.set_cons_zero,List.set_cons_succ,i64_w,i32_w]
  rfl
 refine pure_ (i := 11) (N := (some 36)) (v := ?_) (a' := ?_) #[true,true,true,true,true,true,true,true,true,true,true,true,false,false,false,false,false,false,false,false,false,false,false,false,false,false,false,false,false,false,false] rfl rfl (any_of HT_.out (by kernel_rfl)) (fun _ _ _ h => h) (Or.inl ⟨by rfl,?_⟩) ?_ ?_
 rotate_left
 ·intro w'
  go_simp
  with_reducible rfl
 rotate_left
 ·simp only [Act.put,List.setIfInBounds_toArray,List.set_cons_zero,List.set_cons_succ,i64_w,i32_w]
  rfl
 refine pure_ (i := 12) (N := (some 37)) (v := ?_) (a' := ?_) #[true,true,true,true,true,true,true,true,true,true,true,true,true,false,false,false,false,false,false,false,false,false,false,false,false,false,false,false,false,false,false] rfl rfl (any_of HT_.out (by kernel_rfl)) (fun _ _ _ h => h) (Or.inl ⟨by rfl,?_⟩) ?_ ?_
 rotate_left
 ·intro w'
  go_simp
  with_reducible rfl
 rotate_left
 ·simp only [Act.put,List.setIfInBounds_toArray,List.set_cons_zero,List.set_cons_succ,i64_w,i32_w]
  rfl
 refine pure_ (i := 13) (N := (some 38)) (v := ?_) (a' := ?_) #[true,true,true,true,true,true,true,true,true,true,true,true,true,true,false,false,false,false,false,false,false,false,false,false,false,false,false,false,false,false,false] rfl rfl (any_of HT_.out (by kernel_rfl)) (fun _ _ _ h => h) (Or.inl ⟨by rfl,?_⟩) ?_ ?_
 rotate_left
 ·intro w'
  go_simp
  with_reducible rfl
 rotate_left
 ·simp only [Act.put,List.setIfInBounds_toArray,List.set_cons_zero,List.set_cons_succ,i64_w,i32_w]
  rfl
 refine take_ (i := 14) (N := (some 39)) (v := ?_) (a' := ?_) #[true,true,true,true,true,true,true,true,true,true,true,true,true,true,true,false,false,false,false,false,false,false,false,false,false,false,false,false,false,false,false] rfl rfl (take_ofW HT_.out HW_.out (by kernel_rfl)) (fun _ _ _ h => h) (Or.inl ⟨by rfl,?_⟩) hHeld ?_ ?_
 rotate_left
 ·rintro w' ⟨s1,s2,s3,s4,s5,s6⟩
  go_simp
  with_reducible rfl
 rotate_left
 ·simp only [Act.put,List.setIfInBounds_toArray,List.set_cons_zero,List.set_cons_succ,i64_w,i32_w]
  rfl
 refine pure_ (i := 15) (N := (some 40)) (v := ?_) (a' := ?_) #[true,true,true,true,true,true,true,true,true,true,true,true,true,true,true,true,false,false,false,false,false,false,false,false,false,false,false,false,false,false,false] rfl rfl (any_of HT_.out (by kernel_rfl)) (fun _ _ _ h => h) (Or.inl ⟨by rfl,?_⟩) ?_ ?_
 rotate_left
 ·intro w'
  go_simp
  with_reducible rfl
 rotate_left
 ·simp only [Act.put,List.setIfInBounds_toArray,List.set_cons_zero,List.set_cons_succ,i64_w,i32_w]
  rfl
 refine take_ (i := 16) (N := (some 41)) (v := ?_) (a' := ?_) #[true,true,true,true,true,true,true,true,true,true,true,true,true,true,true,true,true,false,false,false,false,false,false,false,false,false,false,false,false,false,false] rfl rfl (take_ofW HT_.out HW_.out (by kernel_rfl)) (fun _ _ _ h => h) (Or.inl ⟨by rfl,?_⟩) hHeld ?_ ?_
 rotate_left
 ·rintro w' ⟨s1,s2,s3,s4,s5,s6⟩
  go_simp
  with_reducible rfl
 rotate_left
 ·simp only [Act.put,List.setIfInBounds_toArray,List.set_cons_zero,List.set_cons_succ,i64_w,i32_w]
  rfl
 refine one_ (i := 17) (N := (some 42)) #[true,true,true,true,true,true,true,true,true,true,true,true,true,true,true,true,true,true,false,false,false,false,false,false,false,false,false,false,false,false,false] rfl rfl (one_of HT_.out (by kernel_rfl)) (by decide) (fun K hK => ?_)
 refine call_ 27 #[.string ⟨#[100]⟩] (by rfl) rfl au6 ?_
 refine (bodkinlaw22_row.calls 10 _ _ _ ex_row1).mono ?_
 rintro e w12 ⟨vb,rfl,hVb,hbb⟩
 obtain ⟨Bb,db,rfl⟩ := Kd.R_slice hVb
 have hM12 := hM11.then_ (Made.of_below hM11.scr hbb hsz11)
 have hF12 := Kd.S_below hF11 hbb
 have hsz12 : W.heap.size ≤ w12.heap.size := Nat.le_trans hsz11 hbb.size
 have hC0 := Kd.C_below hC0 hbb
 have hC1 := Kd.C_below hC1 hbb
 have hDb := (Kd.R_reads' hVb).2.2
 have hDcb := (Kd.R_reads' hVb).2.1
 refine ⟨_,rfl,hK.out _ _ (sees6 hHeld hbb) (fun hHeld => ?_)⟩
 clear hK K hM11 hF11
 refine norm_ (a' := ?_) ?_ ?_
 rotate_left
 ·show Act.put _ (some 42) _ = _
  simp only [Act.put,List.setIfInBounds_toArray,List.set_cons_zero,List.set_cons_succ,i64_w,i32_w]
  rfl
 refine one_ (i := 18) (N := (some 43)) #[true,true,true,true,true,true,true,true,true,true,true,true,true,true,true,true,true,true,true,false,false,false,false,false,false,false,false,false,false,false,false] rfl rfl (one_of HT_.out (by kernel_rfl)) (by decide) (fun K hK => ?_)
 refine call_ 36 #[.slice A1 1 k1,.slice Bb exR1.length db] (by rfl) rfl au6 ?_
 refine (bodkinref22_SameRow.calls 10 A1 k1 exR1 Bb db exR1 true _ hC1 (by assumption) hDb (by assumption) ex_same1).mono ?_
 rintro e w13 ⟨rfl,hdr12⟩
 have hbs12 := hdr12.below
 have hM13 := hM12.then_ (Made.of_below hM12.scr hbs12 hsz12)
 have hF13 := Kd.S_below hF12 hbs12
 have hsz13 : W.heap.size ≤ w13.heap.size := Nat.le_trans hsz12 hbs12.size
 have hC0 := Kd.C_below hC0 hbs12
 have hC1 := Kd.C_below hC1 hbs12
 refine ⟨_,rfl,hK.out _ _ (sees6 hHeld hbs12) (fun hHeld => ?_)⟩
 clear hK K hM12 hF12
 refine norm_ (a' := ?_) ?_ ?_
 rotate_left
 ·show Act.put _ (some 43) _ = _
  simp only [Act.put,List.setIfInBounds_toArray,List.set_cons_zero,List.set_cons_succ,i64_w,i32_w]
  rfl
 refine pure_ (i := 19) (N := (some 44)) (v := ?_) (a' := ?_) #[true,true,true,true,true,true,true,true,true,true,true,true,true,true,true,true,true,true,true,true,false,false,false,false,false,false,false,false,false,false,false] rfl rfl (any_of HT_.out (by kernel_rfl)) (fun _ _ _ h => h) (Or.inl ⟨by rfl,?_⟩) ?_ ?_
 rotate_left
 ·intro w'
  go_simp
  with_reducible rfl
 rotate_left
 ·simp only [Act.put,List.setIfInBounds_toArray,List.set_cons_zero,List.set_cons_succ,i64_w,i32_w]
  rfl
 refine pure_ (i := 20) (N := (some 45)) (v := ?_) (a' := ?_) #[true,true,true,true,true,true,true,true,true,true,true,true,true,true,true,true,true,true,true,true,true,false,false,false,false,false,false,false,false,false,false] rfl rfl (any_of HT_.out (by kernel_rfl)) (fun _ _ _ h => h) (Or.inl ⟨by rfl,?_⟩) ?_ ?_
 rotate_left
 ·intro w'
  go_simp
  with_reducible rfl
 rotate_left
 ·simp only [Act.put,List.setIfInBounds_toArray,List.set_cons_zero,List.set_cons_succ,i64_w,i32_w]
  rfl
 refine pure_ (i := 21) (N := (some 46)) (v := ?_) (a' := ?_) #[true,true,true,true,true,true,true,true,true,true,true,true,true,true,true,true,true,true,true,true,true,true,false,false,false,false,false,false,false,false,false] rfl rfl (any_of HT_.out (by kernel_rfl)) (fun _ _ _ h => h) (Or.inl ⟨by rfl,?_⟩) ?_ ?_
 rotate_left
 ·intro w'
  go_simp
  with_reducible rfl
 rotate_left
 ·simp only [Act.put,List.setIfInBounds_toArray,List.set_cons_zero,List.set_cons_succ,i64_w,i32_w]
  rfl
 refine take_ (i := 22) (N := (some 47)) (v := ?_) (a' := ?_) #[true,true,true,true,true,true,true,true,true,true,true,true,true,true,true,true,true,true,true,true,true,true,true,false,false,false,false,false,false,false,false] rfl rfl (take_ofW HT_.out HW_.out (by kernel_rfl)) (fun _ _ _ h => h) (Or.inl ⟨by rfl,?_⟩) hHeld ?_ ?_
 rotate_left
 ·rintro w' ⟨s1,s2,s3,s4,s5,s6⟩
  go_simp
  with_reducible rfl
 rotate_left
 ·simp only [Act.put,List.setIfInBounds_toArray,List.set_cons_zero,List.set_cons_succ,i64_w,i32_w]
  rfl
 refine one_ (i := 23) (N := (some 48)) #[true,true,true,true,true,true,true,true,true,true,true,true,true,true,true,true,true,true,true,true,true,true,true,true,false,false,false,false,false,false,false] rfl rfl (one_of HT_.out (by kernel_rfl)) (by decide) (fun K hK => ?_)
 refine call_ 18 #[.pointer (some ⟨p,0,none⟩),.agg #[.int .i64 exB.1.w,.slice (some ⟨gF,0,none⟩) 2 cF,.int .i64 exB.1.r,.int .i64 exB.1.c]] (by rfl) rfl au6 ?_
 have hFk := hF13
 refine (sc_shows hM13.scr.at_ hsz13 fB.ok exB.1.w exB.1.r exB.1.c (some ⟨gF,0,none⟩) cF [exR0,exR1] (fun w hk => (Kd.S_reads' (Kd.S_kept hFk hk (fun k hk he => hnk k hk (he.imp And.left id)))).2.2) (Kd.S_reads' hFk).2.1 (by decide) rfl (by decide) (by decide) (by rw [eN];decide) rfl rfl).mono ?_
 rintro e w14 ⟨rfl,hst14⟩
 have hM14 := hM13.then_ (Made.of_same hM13.scr.bd hst14)
 have hsz14 : W.heap.size ≤ w14.heap.size := Nat.le_trans hsz13 hst14.size
 have eA2 : allEq [exR0,exR1] exB.1.rows [exR0,exR1].length = true := eA
 rw [eA2]
 refine ⟨_,rfl,hK.out _ _ (sees6k hHeld (hst14.kept) (fun he => hnk q hq6 (he.imp And.left id)) (fun he => hnk gF hgF (he.imp And.left id))) (fun hHeld => ?_)⟩
 clear hK K hM13 hF13 hFk hst14
 refine norm_ (a' := ?_) ?_ ?_
 rotate_left
 ·show Act.put _ (some 48) _ = _
  simp only [Act.put,List.setIfInBounds_toArray,List.set_cons_zero,List.set_cons_succ,i64_w,i32_w]
  rfl
 refine pure_ (i := 24) (N := (some 49)) (v := ?_) (a' := ?_) #[true,true,true,true,true,true,true,true,true,true,true,true,true,true,true,true,true,true,true,true,true,true,true,true,true,false,false,false,false,false,false] rfl rfl (any_of HT_.out (by kernel_rfl)) (fun _ _ _ h => h) (Or.inl ⟨by rfl,?_⟩) ?_ ?_
 rotate_left
 ·intro w'
  go_simp
  with_reducible rfl
 rotate_left
 ·simp only [Act.put,List.setIfInBounds_toArray,List.set_cons_zero,List.set_cons_succ,i64_w,i32_w]
  rfl
 refine pure_ (i := 25) (N := (some 50)) (v := ?_) (a' := ?_) #[true,true,true,true,true,true,true,true,true,true,true,true,true,true,true,true,true,true,true,true,true,true,true,true,true,true,false,false,false,false,false] rfl rfl (any_of HT_.out (by kernel_rfl)) (fun _ _ _ h => h) (Or.inl ⟨by rfl,?_⟩) ?_ ?_
 rotate_left
 ·intro w'
  go_simp
  with_reducible rfl
 rotate_left
 ·simp only [Act.put,List.setIfInBounds_toArray,List.set_cons_zero,List.set_cons_succ,i64_w,i32_w]
  rfl
 refine pure_ (i := 26) (N := (some 51)) (v := ?_) (a' := ?_) #[true,true,true,true,true,true,true,true,true,true,true,true,true,true,true,true,true,true,true,true,true,true,true,true,true,true,true,false,false,false,false] rfl rfl (any_of HT_.out (by kernel_rfl)) (fun _ _ _ h => h) (Or.inl ⟨by rfl,?_⟩) ?_ ?_
 rotate_left
 ·intro w'
  go_simp
  with_reducible rfl
 rotate_left
 ·simp only [Act.put,List.setIfInBounds_toArray,List.set_cons_zero,List.set_cons_succ,i64_w,i32_w]
  rfl
 refine one_ (i := 27) (N := (some 52)) #[true,true,true,true,true,true,true,true,true,true,true,true,true,true,true,true,true,true,true,true,true,true,true,true,true,true,true,true,false,false,false] rfl rfl (one_of HT_.out (by kernel_rfl)) (by decide) (fun K hK => ?_)
 refine call_ 21 #[.pointer (some ⟨p,0,none⟩)] (by rfl) rfl au6 ?_
 refine (scr_rows hM14.scr hsz14 fB.ok).mono ?_
 rintro e w15 ⟨rfl,hr15⟩
 have hM15 := hM14.then_ hr15
 rw [eN]
 refine ⟨_,rfl,hK.out _ _ (sees6k hHeld hr15.kept (fun he => hnk q hq6 he) (fun he => hnk gF hgF he)) (fun hHeld => ?_)⟩
 clear hK K hM14 hr15
 refine norm_ (a' := ?_) ?_ ?_
 rotate_left
 ·show Act.put _ (some 52) _ = _
  simp only [Act.put,List.setIfInBounds_toArray,List.set_cons_zero,List.set_cons_succ,i64_w,i32_w]
  rfl
 refine pure_ (i := 28) (N := (some 53)) (v := ?_) (a' := ?_) #[true,true,true,true,true,true,true,true,true,true,true,true,true,true,true,true,true,true,true,true,true,true,true,true,true,true,true,true,true,false,false] rfl rfl (any_of HT_.out (by kernel_rfl)) (fun _ _ _ h => h) (Or.inl ⟨by rfl,?_⟩) ?_ ?_
 rotate_left
 ·intro w'
  go_simp
  with_reducible rfl
 rotate_left
 ·simp only [Act.put,List.setIfInBounds_toArray,List.set_cons_zero,List.set_cons_succ,i64_w,i32_w]
  rfl
 refine pure_ (i := 29) (N := (some 54)) (v := ?_) (a' := ?_) #[true,true,true,true,true,true,true,true,true,true,true,true,true,true,true,true,true,true,true,true,true,true,true,true,true,true,true,true,true,true,false] rfl rfl (any_of HT_.out (by kernel_rfl)) (fun _ _ _ h => h) (Or.inl ⟨by rfl,?_⟩) ?_ ?_
 rotate_left
 ·intro w'
  go_simp
  with_reducible rfl
 rotate_left
 ·simp only [Act.put,List.setIfInBounds_toArray,List.set_cons_zero,List.set_cons_succ,i64_w,i32_w]
  rfl
 refine pure_ (i := 30) (N := (some 0)) (v := ?_) (a' := ?_) #[true,true,true,true,true,true,true,true,true,true,true,true,true,true,true,true,true,true,true,true,true,true,true,true,true,true,true,true,true,true,true] rfl rfl (any_of HT_.out (by kernel_rfl)) (fun _ _ _ h => h) (Or.inl ⟨by rfl,?_⟩) ?_ ?_
 rotate_left
 ·intro w'
  go_simp
  with_reducible rfl
 rotate_left
 ·simp only [Act.put,List.setIfInBounds_toArray,List.set_cons_zero,List.set_cons_succ,i64_w,i32_w]
  rfl
 refine done_ (done_of HT_.out (by kernel_rfl)) ?_
 clear HT_ HW_
 go_wp2
 first | refine bodyPost_ret (results_tmp rfl _ _ _) rfl ?_ | ((try simp only [Exit.inBlock,Exit.then]);refine bodyPost_ret (results_tmp rfl _ _ _) rfl ?_) | (go_wp2;refine bodyPost_ret (results_tmp rfl _ _ _) rfl ?_)
 exact ⟨rfl,hb12.trans hM15.below⟩
end Go.Proofs.YtgdpnmikcopkmaaDoor.U
end
section
namespace Go.Proofs.YtgdpnmikcopkmaaDoor.U
open Go.RowKit Go.Proofs.YtgdpnmikcopkmaaDoor.Mu Go.Proofs.YtgdpnmikcopkmaaDoor.Pu Go.Proofs.YtgdpnmikcopkmaaDoorW.PrintWords Go.Proofs.YtgdpnmikcopkmaaDoorW.PrintLast Go.Proofs.YtgdpnmikcopkmaaDoorW.PrintMore
set_option linter.unusedVariables false
set_option linter.unusedSimpArgs false
/-- Two screens,from one world to another. -/
structure Two (base pa pb : Nat) (w0 : World) (A0 B0 : Nat → Prop) (w : World) (Oa Ob : Nat → Prop) (Sa Sb : Sc × ByteArray) : Prop where
 a : Scr base pa Oa w Sa
 b : Scr base pb Ob w Sb
 ap : Apart pa Oa pb Ob
 sa : ∀ k,Oa k → A0 k ∨ w0.heap.size ≤ k
 sb : ∀ k,Ob k → B0 k ∨ w0.heap.size ≤ k
 below : Below base w0 w
 kept : Kept w0 w (fun k => (A0 k ∨ k = pa) ∨ (B0 k ∨ k = pb))
 bs : base ≤ w.heap.size
section
variable {base pa pb : Nat} {w0 w w1 : World} {A0 B0 Oa Ob O' : Nat → Prop} {Sa Sb S' : Sc × ByteArray}
theorem Two.start (ha : Scr base pa Oa w Sa) (hb : Scr base pb Ob w Sb) (hp : Apart pa Oa pb Ob) (hbs : base ≤ w.heap.size) : Two base pa pb w Oa Ob w Oa Ob Sa Sb :=
 ⟨ha,hb,hp,fun k hk => .inl hk,fun k hk => .inl hk,Below.refl _ _,Kept.refl _ _,hbs⟩
theorem Two.skip (h : Two base pa pb w0 A0 B0 w Oa Ob Sa Sb) (hb : Below w.heap.size w w1) : Two base pa pb w0 A0 B0 w1 Oa Ob Sa Sb :=
 ⟨h.a.below hb,h.b.below hb,h.ap,h.sa,h.sb,h.below.trans (hb.mono h.bs),h.kept.below hb,Nat.le_trans h.bs hb.size⟩
end
/-- The same bytes,n times. -/
def feedI (S : Sc × ByteArray) (m : ByteArray) : Nat → Sc × ByteArray
 | 0 => S
 | n + 1 => feedS (feedI S m n) m
theorem frame_rows {s : Sc} (hO : s.Ok) (n : Int) : (frameL s.rows (s.frameN n)).length ≤ 1099511627776 ∧ ∀ row ∈ frameL s.rows (s.frameN n),row.length ≤ 1099511627776 := by
 refine ⟨by rw [frameL_len];have := hO.h2;unfold Sc.frameN;omega,fun row hr => ?_⟩
 unfold frameL at hr
 obtain ⟨i,_,rfl⟩ := List.mem_map.1 hr
 rw [trimR_len]
 refine Nat.le_trans (trimN_le _ _) ?_
 rw [List.getD_eq_getElem?_getD]
 cases hq : s.rows[i]? with
 | none => exact Nat.zero_le _
 | some r =>
  have := hO.cl r (List.mem_of_getElem? hq)
  have := hO.w2
  show r.length ≤ _
  omega
end Go.Proofs.YtgdpnmikcopkmaaDoor.U
end
