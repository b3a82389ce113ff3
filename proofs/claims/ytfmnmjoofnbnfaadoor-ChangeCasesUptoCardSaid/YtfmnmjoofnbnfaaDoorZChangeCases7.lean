/- What the law ChangeCases reaches of this seat's own texts, merged; what nothing uses is left out. -/
import Derived.Test.YtfmnmjoofnbnfaaDoorZChangeCases0
import Derived.Test.YtfmnmjoofnbnfaaDoorZChangeCases1
section
namespace Go.Proofs.YtfmnmjoofnbnfaaDoor.U
open Go.RowKit Go.Proofs.YtfmnmjoofnbnfaaDoorW.PrintWords Go.Proofs.YtfmnmjoofnbnfaaDoorW.PrintLast Go.Proofs.YtfmnmjoofnbnfaaDoorW.PrintMore
attribute [local go_sem] max2_int min2_int max_two min_two max_three min_three max_four min_four   -- for this text's walks alone
set_option linter.unusedVariables false
set_option linter.unusedSimpArgs false
def change_work_between.f (a0_0 : ByteArray) (a0_1 : Int) (a0_2 : Int) (a0_3 : Int) : Option (Int × Int × Int) := if a0_2 < 0 then (some (0,0,7)) else (if a0_2 = a0_1 then (some (0,0,8)) else (some (mn a0_1 a0_2,mx a0_1 a0_2,0)))
set_option maxHeartbeats 8000000 in
set_option maxRecDepth 100000 in
theorem change_work_between.calls (a0_0 : ByteArray) (a0_1 : Int) (a0_2 : Int) (a0_3 : Int) (r1 : Int) (r2 : Int) (r3 : Int) (w : World) (h : change_work_between.f a0_0 a0_1 a0_2 a0_3 = some (r1,r2,r3)) :
  Calls Tryd.prog 71 #[.agg #[.string a0_0,.int .i64 a0_1,.int .i64 a0_2,.int .i64 a0_3]] w fun e w' => e = .returned (.tuple #[.int .i64 r1,.int .i64 r2,.int .i64 r3]) ∧ Below w.heap.size w w' := by
 have hu52 := Tryd.underlying52
 have HB := Aside0.mk (Below.refl w.heap.size w)
 have H : (if a0_2 < 0 then (some (0,0,7)) else (if a0_2 = a0_1 then (some (0,0,8)) else (some (mn a0_1 a0_2,mx a0_1 a0_2,0)))) = some (r1,r2,r3) := h
 clear h
 by_cases c2 : a0_2 < 0
 ·rw [if_pos c2] at H
  have c2b0 : decide (a0_2 < 0) = true := decide_eq_true c2
  clear c2
  simp only [Option.some.injEq,Prod.mk.injEq] at H
  obtain ⟨rfl,rfl,rfl⟩ := H
  go_enter Tryd.func71,Tryd.ntmps71
  go_wp2_with (first | ((with_reducible refine gate_dst (N := 1) rfl ?_);refine box_event ?hg (N := 1) ?hd (cs := #[.string a0_0,.int .i64 a0_1,.int .i64 a0_2,.int .i64 a0_3]) (t := 52) ?hr ?_;(case hd => rfl);(case hg => rfl);(case hr => first | (go_simp;done) | (go_simp;rfl));intro gb329 hg w3 hbox hb;have n0_ := Aside0.mk (below_step au0 hb);have n1_ := Aside0.mk (hbox);have n2_ := Aside0.mk ((by rw [hg];exact (below_size au0) : w.heap.size ≤ gb329));have n3_ := Aside0.mk ((by rw [hg];exact (below_size au0) : w.heap.size ≤ gb329));clear HB;have HB := n0_;have BK329 := n1_;have GW329 := n2_;have GE329 := n3_;clear n0_ n1_ n2_ n3_;clear hb hbox hg;have hcz4_0 : w3.cell? ⟨gb329,0,none⟩ = some (.string a0_0) := (blk_cell BK329.out 0).trans rfl;have hcz4_1 : w3.cell? ⟨gb329,1,none⟩ = some (.int .i64 a0_1) := (blk_cell BK329.out 1).trans rfl;have hcz4_2 : w3.cell? ⟨gb329,2,none⟩ = some (.int .i64 a0_2) := (blk_cell BK329.out 2).trans rfl;have hcz4_3 : w3.cell? ⟨gb329,3,none⟩ = some (.int .i64 a0_3) := (blk_cell BK329.out 3).trans rfl;have hfz4_0 := blk_frozen BK329.out 0;have hfz4_1 := blk_frozen BK329.out 1;have hfz4_2 := blk_frozen BK329.out 2;have hfz4_3 := blk_frozen BK329.out 3))
  repeat (go_quiet (first | ((with_reducible refine gate_dst (N := 1) rfl ?_);refine box_event ?hg (N := 1) ?hd (cs := #[.string a0_0,.int .i64 a0_1,.int .i64 a0_2,.int .i64 a0_3]) (t := 52) ?hr ?_;(case hd => rfl);(case hg => rfl);(case hr => first | (go_simp;done) | (go_simp;rfl));intro gb329 hg w3 hbox hb;have n0_ := Aside0.mk (below_step au0 hb);have n1_ := Aside0.mk (hbox);have n2_ := Aside0.mk ((by rw [hg];exact (below_size au0) : w.heap.size ≤ gb329));have n3_ := Aside0.mk ((by rw [hg];exact (below_size au0) : w.heap.size ≤ gb329));clear HB;have HB := n0_;have BK329 := n1_;have GW329 := n2_;have GE329 := n3_;clear n0_ n1_ n2_ n3_;clear hb hbox hg;have hcz4_0 : w3.cell? ⟨gb329,0,none⟩ = some (.string a0_0) := (blk_cell BK329.out 0).trans rfl;have hcz4_1 : w3.cell? ⟨gb329,1,none⟩ = some (.int .i64 a0_1) := (blk_cell BK329.out 1).trans rfl;have hcz4_2 : w3.cell? ⟨gb329,2,none⟩ = some (.int .i64 a0_2) := (blk_cell BK329.out 2).trans rfl;have hcz4_3 : w3.cell? ⟨gb329,3,none⟩ = some (.int .i64 a0_3) := (blk_cell BK329.out 3).trans rfl;have hfz4_0 := blk_frozen BK329.out 0;have hfz4_1 := blk_frozen BK329.out 1;have hfz4_2 := blk_frozen BK329.out 2;have hfz4_3 := blk_frozen BK329.out 3));try go_wp2_with (first | ((with_reducible refine gate_dst (N := 1) rfl ?_);refine box_event ?hg (N := 1) ?hd (cs := #[.string a0_0,.int .i64 a0_1,.int .i64 a0_2,.int .i64 a0_3]) (t := 52) ?hr ?_;(case hd => rfl);(case hg => rfl);(case hr => first | (go_simp;done) | (go_simp;rfl));intro gb329 hg w3 hbox hb;have n0_ := Aside0.mk (below_step au0 hb);have n1_ := Aside0.mk (hbox);have n2_ := Aside0.mk ((by rw [hg];exact (below_size au0) : w.heap.size ≤ gb329));have n3_ := Aside0.mk ((by rw [hg];exact (below_size au0) : w.heap.size ≤ gb329));clear HB;have HB := n0_;have BK329 := n1_;have GW329 := n2_;have GE329 := n3_;clear n0_ n1_ n2_ n3_;clear hb hbox hg;have hcz4_0 : w3.cell? ⟨gb329,0,none⟩ = some (.string a0_0) := (blk_cell BK329.out 0).trans rfl;have hcz4_1 : w3.cell? ⟨gb329,1,none⟩ = some (.int .i64 a0_1) := (blk_cell BK329.out 1).trans rfl;have hcz4_2 : w3.cell? ⟨gb329,2,none⟩ = some (.int .i64 a0_2) := (blk_cell BK329.out 2).trans rfl;have hcz4_3 : w3.cell? ⟨gb329,3,none⟩ = some (.int .i64 a0_3) := (blk_cell BK329.out 3).trans rfl;have hfz4_0 := blk_frozen BK329.out 0;have hfz4_1 := blk_frozen BK329.out 1;have hfz4_2 := blk_frozen BK329.out 2;have hfz4_3 := blk_frozen BK329.out 3)))
  go_ret3
  exact ⟨au2,by repeat (first | (with_reducible first | exact HB.out | apply below_alloc | apply pw_below_drewN | apply below_drew1 | refine below_set ?_ GE329.out) | exact HB.out)⟩
 ·rw [if_neg c2] at H
  have c2b0 : decide (a0_2 < 0) = false := decide_eq_false c2
  clear c2
  by_cases c5 : a0_2 = a0_1
  ·rw [if_pos c5] at H
   have c5b0 : (a0_2 == a0_1) = true := beq_iff_eq.mpr c5
   have c5b1 : (a0_2 != a0_1) = false := bne_eq_false_iff_eq.mpr c5
   clear c5
   simp only [Option.some.injEq,Prod.mk.injEq] at H
   obtain ⟨rfl,rfl,rfl⟩ := H
   go_enter Tryd.func71,Tryd.ntmps71
   go_wp2_with (first | ((with_reducible refine gate_dst (N := 1) rfl ?_);refine box_event ?hg (N := 1) ?hd (cs := #[.string a0_0,.int .i64 a0_1,.int .i64 a0_2,.int .i64 a0_3]) (t := 52) ?hr ?_;(case hd => rfl);(case hg => rfl);(case hr => first | (go_simp;done) | (go_simp;rfl));intro gb329 hg w6 hbox hb;have n0_ := Aside0.mk (below_step au0 hb);have n1_ := Aside0.mk (hbox);have n2_ := Aside0.mk ((by rw [hg];exact (below_size au0) : w.heap.size ≤ gb329));have n3_ := Aside0.mk ((by rw [hg];exact (below_size au0) : w.heap.size ≤ gb329));clear HB;have HB := n0_;have BK329 := n1_;have GW329 := n2_;have GE329 := n3_;clear n0_ n1_ n2_ n3_;clear hb hbox hg;have hcz7_0 : w6.cell? ⟨gb329,0,none⟩ = some (.string a0_0) := (blk_cell BK329.out 0).trans rfl;have hcz7_1 : w6.cell? ⟨gb329,1,none⟩ = some (.int .i64 a0_1) := (blk_cell BK329.out 1).trans rfl;have hcz7_2 : w6.cell? ⟨gb329,2,none⟩ = some (.int .i64 a0_2) := (blk_cell BK329.out 2).trans rfl;have hcz7_3 : w6.cell? ⟨gb329,3,none⟩ = some (.int .i64 a0_3) := (blk_cell BK329.out 3).trans rfl;have hfz7_0 := blk_frozen BK329.out 0;have hfz7_1 := blk_frozen BK329.out 1;have hfz7_2 := blk_frozen BK329.out 2;have hfz7_3 := blk_frozen BK329.out 3))
   repeat (go_quiet (first | ((with_reducible refine gate_dst (N := 1) rfl ?_);refine box_event ?hg (N := 1) ?hd (cs := #[.string a0_0,.int .i64 a0_1,.int .i64 a0_2,.int .i64 a0_3]) (t := 52) ?hr ?_;(case hd => rfl);(case hg => rfl);(case hr => first | (go_simp;done) | (go_simp;rfl));intro gb329 hg w6 hbox hb;have n0_ := Aside0.mk (below_step au0 hb);have n1_ := Aside0.mk (hbox);have n2_ := Aside0.mk ((by rw [hg];exact (below_size au0) : w.heap.size ≤ gb329));have n3_ := Aside0.mk ((by rw [hg];exact (below_size au0) : w.heap.size ≤ gb329));clear HB;have HB := n0_;have BK329 := n1_;have GW329 := n2_;have GE329 := n3_;clear n0_ n1_ n2_ n3_;clear hb hbox hg;have hcz7_0 : w6.cell? ⟨gb329,0,none⟩ = some (.string a0_0) := (blk_cell BK329.out 0).trans rfl;have hcz7_1 : w6.cell? ⟨gb329,1,none⟩ = some (.int .i64 a0_1) := (blk_cell BK329.out 1).trans rfl;have hcz7_2 : w6.cell? ⟨gb329,2,none⟩ = some (.int .i64 a0_2) := (blk_cell BK329.out 2).trans rfl;have hcz7_3 : w6.cell? ⟨gb329,3,none⟩ = some (.int .i64 a0_3) := (blk_cell BK329.out 3).trans rfl;have hfz7_0 := blk_frozen BK329.out 0;have hfz7_1 := blk_frozen BK329.out 1;have hfz7_2 := blk_frozen BK329.out 2;have hfz7_3 := blk_frozen BK329.out 3));try go_wp2_with (first | ((with_reducible refine gate_dst (N := 1) rfl ?_);refine box_event ?hg (N := 1) ?hd (cs := #[.string a0_0,.int .i64 a0_1,.int .i64 a0_2,.int .i64 a0_3]) (t := 52) ?hr ?_;(case hd => rfl);(case hg => rfl);(case hr => first | (go_simp;done) | (go_simp;rfl));intro gb329 hg w6 hbox hb;have n0_ := Aside0.mk (below_step au0 hb);have n1_ := Aside0.mk (hbox);have n2_ := Aside0.mk ((by rw [hg];exact (below_size au0) : w.heap.size ≤ gb329));have n3_ := Aside0.mk ((by rw [hg];exact (below_size au0) : w.heap.size ≤ gb329));clear HB;have HB := n0_;have BK329 := n1_;have GW329 := n2_;have GE329 := n3_;clear n0_ n1_ n2_ n3_;clear hb hbox hg;have hcz7_0 : w6.cell? ⟨gb329,0,none⟩ = some (.string a0_0) := (blk_cell BK329.out 0).trans rfl;have hcz7_1 : w6.cell? ⟨gb329,1,none⟩ = some (.int .i64 a0_1) := (blk_cell BK329.out 1).trans rfl;have hcz7_2 : w6.cell? ⟨gb329,2,none⟩ = some (.int .i64 a0_2) := (blk_cell BK329.out 2).trans rfl;have hcz7_3 : w6.cell? ⟨gb329,3,none⟩ = some (.int .i64 a0_3) := (blk_cell BK329.out 3).trans rfl;have hfz7_0 := blk_frozen BK329.out 0;have hfz7_1 := blk_frozen BK329.out 1;have hfz7_2 := blk_frozen BK329.out 2;have hfz7_3 := blk_frozen BK329.out 3)))
   go_ret3
   exact ⟨au2,by repeat (first | (with_reducible first | exact HB.out | apply below_alloc | apply pw_below_drewN | apply below_drew1 | refine below_set ?_ GE329.out) | exact HB.out)⟩
  ·rw [if_neg c5] at H
   have c5b0 : (a0_2 == a0_1) = false := beq_eq_false_iff_ne.mpr c5
   have c5b1 : (a0_2 != a0_1) = true := bne_iff_ne.mpr c5
   obtain ⟨ji8,hji8⟩ : ∃ j_ : Int,(mn a0_1 a0_2) = j_ := ⟨_,rfl⟩
   replace H : (some (ji8,mx a0_1 a0_2,0)) = some (r1,r2,r3) := by first | (rw [hji8] at H;exact H) | (simp only [hji8] at H ⊢;exact H)
   have hji8_ : (if a0_2 < a0_1 then a0_2 else a0_1) = ji8 := hji8
   obtain ⟨ji9,hji9⟩ : ∃ j_ : Int,(mx a0_1 a0_2) = j_ := ⟨_,rfl⟩
   replace H : (some (ji8,ji9,0)) = some (r1,r2,r3) := by first | (rw [hji9] at H;exact H) | (simp only [hji9] at H ⊢;exact H)
   have hji9_ : (if a0_1 < a0_2 then a0_2 else a0_1) = ji9 := hji9
   simp only [Option.some.injEq,Prod.mk.injEq] at H
   obtain ⟨rfl,rfl,rfl⟩ := H
   go_enter Tryd.func71,Tryd.ntmps71
   go_wp2_with (first | ((with_reducible refine gate_dst (N := 1) rfl ?_);refine box_event ?hg (N := 1) ?hd (cs := #[.string a0_0,.int .i64 a0_1,.int .i64 a0_2,.int .i64 a0_3]) (t := 52) ?hr ?_;(case hd => rfl);(case hg => rfl);(case hr => first | (go_simp;done) | (go_simp;rfl));intro gb329 hg w10 hbox hb;have n0_ := Aside0.mk (below_step au0 hb);have n1_ := Aside0.mk (hbox);have n2_ := Aside0.mk ((by rw [hg];exact (below_size au0) : w.heap.size ≤ gb329));have n3_ := Aside0.mk ((by rw [hg];exact (below_size au0) : w.heap.size ≤ gb329));clear HB;have HB := n0_;have BK329 := n1_;have GW329 := n2_;have GE329 := n3_;clear n0_ n1_ n2_ n3_;clear hb hbox hg;have hcz11_0 : w10.cell? ⟨gb329,0,none⟩ = some (.string a0_0) := (blk_cell BK329.out 0).trans rfl;have hcz11_1 : w10.cell? ⟨gb329,1,none⟩ = some (.int .i64 a0_1) := (blk_cell BK329.out 1).trans rfl;have hcz11_2 : w10.cell? ⟨gb329,2,none⟩ = some (.int .i64 a0_2) := (blk_cell BK329.out 2).trans rfl;have hcz11_3 : w10.cell? ⟨gb329,3,none⟩ = some (.int .i64 a0_3) := (blk_cell BK329.out 3).trans rfl;have hfz11_0 := blk_frozen BK329.out 0;have hfz11_1 := blk_frozen BK329.out 1;have hfz11_2 := blk_frozen BK329.out 2;have hfz11_3 := blk_frozen BK329.out 3))
   repeat (go_quiet (first | ((with_reducible refine gate_dst (N := 1) rfl ?_);refine box_event ?hg (N := 1) ?hd (cs := #[.string a0_0,.int .i64 a0_1,.int .i64 a0_2,.int .i64 a0_3]) (t := 52) ?hr ?_;(case hd => rfl);(case hg => rfl);(case hr => first | (go_simp;done) | (go_simp;rfl));intro gb329 hg w10 hbox hb;have n0_ := Aside0.mk (below_step au0 hb);have n1_ := Aside0.mk (hbox);have n2_ := Aside0.mk ((by rw [hg];exact (below_size au0) : w.heap.size ≤ gb329));have n3_ := Aside0.mk ((by rw [hg];exact (below_size au0) : w.heap.size ≤ gb329));clear HB;have HB := n0_;have BK329 := n1_;have GW329 := n2_;have GE329 := n3_;clear n0_ n1_ n2_ n3_;clear hb hbox hg;have hcz11_0 : w10.cell? ⟨gb329,0,none⟩ = some (.string a0_0) := (blk_cell BK329.out 0).trans rfl;have hcz11_1 : w10.cell? ⟨gb329,1,none⟩ = some (.int .i64 a0_1) := (blk_cell BK329.out 1).trans rfl;have hcz11_2 : w10.cell? ⟨gb329,2,none⟩ = some (.int .i64 a0_2) := (blk_cell BK329.out 2).trans rfl;have hcz11_3 : w10.cell? ⟨gb329,3,none⟩ = some (.int .i64 a0_3) := (blk_cell BK329.out 3).trans rfl;have hfz11_0 := blk_frozen BK329.out 0;have hfz11_1 := blk_frozen BK329.out 1;have hfz11_2 := blk_frozen BK329.out 2;have hfz11_3 := blk_frozen BK329.out 3));try go_wp2_with (first | ((with_reducible refine gate_dst (N := 1) rfl ?_);refine box_event ?hg (N := 1) ?hd (cs := #[.string a0_0,.int .i64 a0_1,.int .i64 a0_2,.int .i64 a0_3]) (t := 52) ?hr ?_;(case hd => rfl);(case hg => rfl);(case hr => first | (go_simp;done) | (go_simp;rfl));intro gb329 hg w10 hbox hb;have n0_ := Aside0.mk (below_step au0 hb);have n1_ := Aside0.mk (hbox);have n2_ := Aside0.mk ((by rw [hg];exact (below_size au0) : w.heap.size ≤ gb329));have n3_ := Aside0.mk ((by rw [hg];exact (below_size au0) : w.heap.size ≤ gb329));clear HB;have HB := n0_;have BK329 := n1_;have GW329 := n2_;have GE329 := n3_;clear n0_ n1_ n2_ n3_;clear hb hbox hg;have hcz11_0 : w10.cell? ⟨gb329,0,none⟩ = some (.string a0_0) := (blk_cell BK329.out 0).trans rfl;have hcz11_1 : w10.cell? ⟨gb329,1,none⟩ = some (.int .i64 a0_1) := (blk_cell BK329.out 1).trans rfl;have hcz11_2 : w10.cell? ⟨gb329,2,none⟩ = some (.int .i64 a0_2) := (blk_cell BK329.out 2).trans rfl;have hcz11_3 : w10.cell? ⟨gb329,3,none⟩ = some (.int .i64 a0_3) := (blk_cell BK329.out 3).trans rfl;have hfz11_0 := blk_frozen BK329.out 0;have hfz11_1 := blk_frozen BK329.out 1;have hfz11_2 := blk_frozen BK329.out 2;have hfz11_3 := blk_frozen BK329.out 3)))
   go_ret3
   exact ⟨by first | rfl | (simp [errW_none,errW_some] <;> rfl) | (simp only [← hji8,← hji9];first | rfl | (simp [errW_none,errW_some] <;> rfl)) | (simp [*,errW_none,errW_some] <;> rfl),by repeat (first | (with_reducible first | exact HB.out | apply below_alloc | apply pw_below_drewN | apply below_drew1 | refine below_set ?_ GE329.out) | exact HB.out)⟩
end Go.Proofs.YtfmnmjoofnbnfaaDoor.U
end
section
namespace Go.Proofs.YtfmnmjoofnbnfaaDoor.U
open Go.RowKit Go.Proofs.YtfmnmjoofnbnfaaDoorW.PrintWords Go.Proofs.YtfmnmjoofnbnfaaDoorW.PrintLast Go.Proofs.YtfmnmjoofnbnfaaDoorW.PrintMore
attribute [local go_sem] max2_int min2_int max_two min_two max_three min_three max_four min_four   -- for this text's walks alone
set_option linter.unusedVariables false
set_option linter.unusedSimpArgs false
def change_work_killRegion.f (a0_0 : ByteArray) (a0_1 : Int) (a0_2 : Int) (a0_3 : Int) : Option (Int × Int × ByteArray × Int × ByteArray × Bool × Int) := (change_work_between.f a0_0 a0_1 a0_2 a0_3).bind fun bt332 => (if bt332.2.2 = 0 then (if 0 ≤ bt332.1 then (if bt332.1 ≤ bt332.2.1 then (if bt332.2.1 ≤ (a0_0.size : Int) then (some (bt332.1,wrap64 (bt332.2.1 - bt332.1),(⟨#[]⟩ : ByteArray),bt332.1,a0_0.extract (bt332.1 : Int).toNat (bt332.2.1 : Int).toNat,(a0_2 == bt332.1),0)) else (none)) else (none)) else (none)) else (some (0,0,(⟨#[]⟩ : ByteArray),0,(⟨#[]⟩ : ByteArray),false,bt332.2.2)))
def change_work_killRegion.T4 : Bool × List (List Nat × List Nat) := (true,[([],[]),([],[]),([],[]),([1,2],[1,2]),([0,3],[0,3]),([],[]),([],[]),([6],[6]),([],[]),([],[]),([7,8,9],[7,8,9]),([],[]),([11],[11]),([],[]),([12,13],[12,13]),([4,5,10,14],[4,5,10,14]),([15,0,1,2,3,4,5,6,7,8,9,10,11,12,13,14,15],[15]),([16,0,1,2,3,4,5,6,7,8,9,10,11,12,13,14,15,16],[])])
def change_work_killRegion.B4 : List Nat := [0,0,0,6,15,0,0,64,0,0,960,0,2048,0,14336,32767,65535,131071]
theorem change_work_killRegion.tab4 : rtab .any (opsOf Tryd.f55 4) = change_work_killRegion.T4 := by kernel_rfl
theorem change_work_killRegion.bits4 : waitsOk change_work_killRegion.T4.2 change_work_killRegion.B4 = true := by kernel_rfl
set_option maxHeartbeats 8000000 in
set_option maxRecDepth 100000 in
theorem change_work_killRegion.calls (a0_0 : ByteArray) (a0_1 : Int) (a0_2 : Int) (a0_3 : Int) (r1 : Int) (r2 : Int) (r3 : ByteArray) (r4 : Int) (r5 : ByteArray) (r6 : Bool) (r7 : Int) (w : World) (h : change_work_killRegion.f a0_0 a0_1 a0_2 a0_3 = some (r1,r2,r3,r4,r5,r6,r7)) :
  Calls Tryd.prog 55 #[.agg #[.string a0_0,.int .i64 a0_1,.int .i64 a0_2,.int .i64 a0_3]] w fun e w' => e = .returned (.tuple #[.agg #[.int .i64 r1,.int .i64 r2,.string r3,.int .i64 r4,.string r5,.bool r6],.int .i64 r7]) ∧ Below w.heap.size w w' := by
 have hu52 := Tryd.underlying52
 have hu30 := Tryd.underlying30
 have hu28 := Tryd.underlying28
 have HB := Aside0.mk (Below.refl w.heap.size w)
 have H : ((change_work_between.f a0_0 a0_1 a0_2 a0_3).bind fun bt332 => (if bt332.2.2 = 0 then (if 0 ≤ bt332.1 then (if bt332.1 ≤ bt332.2.1 then (if bt332.2.1 ≤ (a0_0.size : Int) then (some (bt332.1,wrap64 (bt332.2.1 - bt332.1),(⟨#[]⟩ : ByteArray),bt332.1,a0_0.extract (bt332.1 : Int).toNat (bt332.2.1 : Int).toNat,(a0_2 == bt332.1),0)) else (none)) else (none)) else (none)) else (some (0,0,(⟨#[]⟩ : ByteArray),0,(⟨#[]⟩ : ByteArray),false,bt332.2.2)))) = some (r1,r2,r3,r4,r5,r6,r7) := h
 clear h
 replace H := Option.bind_eq_some_iff.mp H
 obtain ⟨⟨t332,t333,t334⟩,A20,H⟩ := H
 replace H : (if t334 = 0 then (if 0 ≤ t332 then (if t332 ≤ t333 then (if t333 ≤ (a0_0.size : Int) then (some (t332,wrap64 (t333 - t332),(⟨#[]⟩ : ByteArray),t332,a0_0.extract (t332 : Int).toNat (t333 : Int).toNat,(a0_2 == t332),0)) else (none)) else (none)) else (none)) else (some (0,0,(⟨#[]⟩ : ByteArray),0,(⟨#[]⟩ : ByteArray),false,t334))) = some (r1,r2,r3,r4,r5,r6,r7) := H
 have A2 := Aside0.mk A20
 clear A20
 by_cases c3 : t334 = 0
 ·rw [if_pos c3] at H
  have c3b0 : (t334 == 0) = true := beq_iff_eq.mpr c3
  have c3b1 : (t334 != 0) = false := bne_eq_false_iff_eq.mpr c3
  clear c3
  by_cases c4 : 0 ≤ t332
  ·rw [if_pos c4] at H
   have c4b0 := eq_true c4
   have c4b1 : decide (0 ≤ t332) = true := decide_eq_true c4
   clear c4
   by_cases c5 : t332 ≤ t333
   ·rw [if_pos c5] at H
    have c5b0 := eq_true c5
    have c5b1 : decide (t332 ≤ t333) = true := decide_eq_true c5
    clear c5
    by_cases c6 : t333 ≤ (a0_0.size : Int)
    ·rw [if_pos c6] at H
     have c6b0 := eq_true c6
     have c6b1 : decide (t333 ≤ (a0_0.size : Int)) = true := decide_eq_true c6
     clear c6
     simp only [Option.some.injEq,Prod.mk.injEq] at H
     obtain ⟨rfl,rfl,rfl,rfl,rfl,rfl,rfl⟩ := H
     go_enter Tryd.func55,Tryd.ntmps55
     try go_wp2_with (first | ((with_reducible refine gate_dst (N := 1) rfl ?_);refine box_event ?hg (N := 1) ?hd (cs := #[.string a0_0,.int .i64 a0_1,.int .i64 a0_2,.int .i64 a0_3]) (t := 52) ?hr ?_;(case hd => rfl);(case hg => rfl);(case hr => first | (go_simp;done) | (go_simp;rfl));intro gb330 hg w7 hbox hb;have n0_ := Aside0.mk (below_step au0 hb);have n1_ := Aside0.mk (hbox);have n2_ := Aside0.mk ((by rw [hg];exact (below_size au0) : w.heap.size ≤ gb330));have n3_ := Aside0.mk ((by rw [hg];exact (below_size au0) : w.heap.size ≤ gb330));clear HB;have HB := n0_;have BK330 := n1_;have GW330 := n2_;have GE330 := n3_;clear n0_ n1_ n2_ n3_;clear hb hbox hg) | ((with_reducible refine gate_dst (N := 2) rfl ?_);refine box_event ?hg (N := 2) ?hd (cs := #[.int .i64 0,.int .i64 0,.string (⟨#[]⟩ : ByteArray),.int .i64 0,.string (⟨#[]⟩ : ByteArray),.bool false]) (t := 30) ?hr ?_;(case hd => rfl);(case hg => rfl);(case hr => first | (go_simp;done) | (go_simp;rfl));intro gb331 hg w8 hbox hb;have n0_ := Aside0.mk (blk_below (g := gb330) (o := .cells #[.string a0_0,.int .i64 a0_1,.int .i64 a0_2,.int .i64 a0_3] 52 (0,0)) au35 hb);have n1_ := Aside0.mk (below_step au33 hb);have n2_ := Aside0.mk (hbox);have n3_ := Aside0.mk ((by rw [hg];exact (below_size au33) : w.heap.size ≤ gb331));have n4_ := Aside0.mk ((by rw [hg];exact (below_size au33) : w.heap.size ≤ gb331));have n5_ := Aside0.mk ((by rw [hg];exact Nat.ne_of_lt (blk_lt (g := gb330) (o := .cells #[.string a0_0,.int .i64 a0_1,.int .i64 a0_2,.int .i64 a0_3] 52 (0,0)) au35) : gb330 ≠ gb331));have n6_ := Aside0.mk ((by rw [hg];exact Nat.ne_of_gt (blk_lt (g := gb330) (o := .cells #[.string a0_0,.int .i64 a0_1,.int .i64 a0_2,.int .i64 a0_3] 52 (0,0)) au35) : gb331 ≠ gb330));clear BK330;clear HB;have BK330 := n0_;have HB := n1_;have BK331 := n2_;have GW331 := n3_;have GE331 := n4_;have NB330_331 := n5_;have NB331_330 := n6_;clear n0_ n1_ n2_ n3_ n4_ n5_ n6_;clear hb hbox hg;have hnb9 := NB330_331.out;have hnc9 := NB331_330.out;have hcz10_0 : w8.cell? ⟨gb330,0,none⟩ = some (.string a0_0) := (blk_cell BK330.out 0).trans rfl;have hcz10_1 : w8.cell? ⟨gb330,1,none⟩ = some (.int .i64 a0_1) := (blk_cell BK330.out 1).trans rfl;have hcz10_2 : w8.cell? ⟨gb330,2,none⟩ = some (.int .i64 a0_2) := (blk_cell BK330.out 2).trans rfl;have hcz10_3 : w8.cell? ⟨gb330,3,none⟩ = some (.int .i64 a0_3) := (blk_cell BK330.out 3).trans rfl;have hfz10_0 := blk_frozen BK330.out 0;have hfz10_1 := blk_frozen BK330.out 1;have hfz10_2 := blk_frozen BK330.out 2;have hfz10_3 := blk_frozen BK330.out 3) | ((with_reducible refine gate_callee (f := 71) rfl ?_);refine goesL_ (some 9) rfl rfl Tryd.func71 (by kernel_rfl) rfl #[.agg #[.string a0_0,.int .i64 a0_1,.int .i64 a0_2,.int .i64 a0_3]] rfl au1 ?_;(with_reducible refine (change_work_between.calls a0_0 a0_1 a0_2 a0_3 t332 t333 t334 _ A2.out).mono ?_);rintro e w11 ⟨rfl,hb⟩;refine ⟨_,rfl,?_⟩;have n0_ := Aside0.mk (blk_below (g := gb330) (o := .cells #[.string a0_0,.int .i64 a0_1,.int .i64 a0_2,.int .i64 a0_3] 52 (0,0)) au35 hb);have n1_ := Aside0.mk (blk_below (g := gb331) (o := .cells #[.int .i64 0,.int .i64 0,.string (⟨#[]⟩ : ByteArray),.int .i64 0,.string (⟨#[]⟩ : ByteArray),.bool false] 30 (0,0)) (by (with_reducible repeat (first | refine blk_drewN ?_ _ | refine blk_drew ?_ | refine blk_alloc ?_ _));exact BK331.out) hb);have n2_ := Aside0.mk (below_step (by repeat (first | (with_reducible first | exact HB.out | apply below_alloc | apply pw_below_drewN | apply below_drew1 | refine below_set ?_ GE330.out | refine below_set ?_ GE331.out) | exact HB.out)) hb);clear BK330;clear BK331;clear HB;have BK330 := n0_;have BK331 := n1_;have HB := n2_;clear n0_ n1_ n2_;(try clear hb);(try clear hb2);(try clear hk);(try clear hi)))
     have n0_ := Aside0.mk (blk_drew BK330.out)
     have n1_ := Aside0.mk (blk_drew BK331.out)
     have n2_ := Aside0.mk (below_drew1 HB.out)
     clear BK330
     clear BK331
     clear HB
     have BK330 := n0_
     have BK331 := n1_
     have HB := n2_
     clear n0_ n1_ n2_
     refine start_ (n := 18) (S := fun w' => w'.cell? ⟨gb330,0,none⟩ = some (.string a0_0) ∧ w'.cell? ⟨gb330,1,none⟩ = some (.int .i64 a0_1) ∧ w'.cell? ⟨gb330,2,none⟩ = some (.int .i64 a0_2) ∧ w'.cell? ⟨gb330,3,none⟩ = some (.int .i64 a0_3)) (ds := []) #[false,false,false,false,false,false,false,false,false,false,false,false,false,false,false,false,false,false] (by kernel_rfl) rfl rfl ⟨(blk_cell BK330.out 0).trans rfl,(blk_cell BK330.out 1).trans rfl,(blk_cell BK330.out 2).trans rfl,(blk_cell BK330.out 3).trans rfl⟩ (fun hHeld => ?_);refine with_tabW change_work_killRegion.tab4 change_work_killRegion.bits4 (fun HT_ HW_ => ?_)
     generalize w11.drew = w12 at BK330 BK331 HB hHeld ⊢
     refine pure_ (i := 0) (N := some 17) (v := ?_) (a' := ?_) #[true,false,false,false,false,false,false,false,false,false,false,false,false,false,false,false,false,false] rfl rfl (any_of HT_.out (by kernel_rfl)) (fun _ _ _ h => h) (Or.inl ⟨by rfl,?_⟩) ?_ ?_
     rotate_left
     ·intro w'
      go_simp
      with_reducible rfl
     rotate_left
     ·simp only [Act.put,List.setIfInBounds_toArray,List.set_cons_zero,List.set_cons_succ,i64_w,i32_w]
      rfl
     refine pure_ (i := 1) (N := some 18) (v := ?_) (a' := ?_) #[true,true,false,false,false,false,false,false,false,false,false,false,false,false,false,false,false,false] rfl rfl (any_of HT_.out (by kernel_rfl)) (fun _ _ _ h => h) (Or.inl ⟨by rfl,?_⟩) ?_ ?_
     rotate_left
     ·intro w'
      go_simp
      with_reducible rfl
     rotate_left
     ·simp only [Act.put,List.setIfInBounds_toArray,List.set_cons_zero,List.set_cons_succ,i64_w,i32_w]
      rfl
     refine pure_ (i := 2) (N := some 19) (v := ?_) (a' := ?_) #[true,true,true,false,false,false,false,false,false,false,false,false,false,false,false,false,false,false] rfl rfl (any_of HT_.out (by kernel_rfl)) (fun _ _ _ h => h) (Or.inl ⟨by rfl,?_⟩) ?_ ?_
     rotate_left
     ·intro w'
      go_simp
      with_reducible rfl
     rotate_left
     ·simp only [Act.put,List.setIfInBounds_toArray,List.set_cons_zero,List.set_cons_succ,i64_w,i32_w]
      rfl
     refine pure_ (i := 3) (N := some 20) (v := ?_) (a' := ?_) #[true,true,true,true,false,false,false,false,false,false,false,false,false,false,false,false,false,false] rfl rfl (any_of HT_.out (by kernel_rfl)) (fun _ _ _ h => h) (Or.inl ⟨by rfl,?_⟩) ?_ ?_
     rotate_left
     ·intro w'
      go_simp
      with_reducible rfl
     rotate_left
     ·simp only [Act.put,List.setIfInBounds_toArray,List.set_cons_zero,List.set_cons_succ,i64_w,i32_w]
      rfl
     refine pure_ (i := 4) (N := some 21) (v := ?_) (a' := ?_) #[true,true,true,true,true,false,false,false,false,false,false,false,false,false,false,false,false,false] rfl rfl (any_of HT_.out (by kernel_rfl)) (fun _ _ _ h => h) (Or.inl ⟨by rfl,?_⟩) ?_ ?_
     rotate_left
     ·intro w'
      go_simp
      with_reducible rfl
     rotate_left
     ·simp only [Act.put,List.setIfInBounds_toArray,List.set_cons_zero,List.set_cons_succ,i64_w,i32_w]
      rfl
     refine pure_ (i := 5) (N := some 22) (v := ?_) (a' := ?_) #[true,true,true,true,true,true,false,false,false,false,false,false,false,false,false,false,false,false] rfl rfl (any_of HT_.out (by kernel_rfl)) (fun _ _ _ h => h) (Or.inl ⟨by rfl,?_⟩) ?_ ?_
     rotate_left
     ·intro w'
      go_simp
      with_reducible rfl
     rotate_left
     ·simp only [Act.put,List.setIfInBounds_toArray,List.set_cons_zero,List.set_cons_succ,i64_w,i32_w]
      rfl
     refine pure_ (i := 6) (N := some 23) (v := ?_) (a' := ?_) #[true,true,true,true,true,true,true,false,false,false,false,false,false,false,false,false,false,false] rfl rfl (any_of HT_.out (by kernel_rfl)) (fun _ _ _ h => h) (Or.inl ⟨by rfl,?_⟩) ?_ ?_
     rotate_left
     ·intro w'
      go_simp
      with_reducible rfl
     rotate_left
     ·simp only [Act.put,List.setIfInBounds_toArray,List.set_cons_zero,List.set_cons_succ,i64_w,i32_w]
      rfl
     refine pure_ (i := 8) (N := some 25) (v := ?_) (a' := ?_) #[true,true,true,true,true,true,true,false,true,false,false,false,false,false,false,false,false,false] rfl rfl (any_of HT_.out (by kernel_rfl)) (fun _ _ _ h => h) (Or.inl ⟨by rfl,?_⟩) ?_ ?_
     rotate_left
     ·intro w'
      go_simp
      with_reducible rfl
     rotate_left
     ·simp only [Act.put,List.setIfInBounds_toArray,List.set_cons_zero,List.set_cons_succ,i64_w,i32_w]
      rfl
     refine pure_ (i := 9) (N := some 26) (v := ?_) (a' := ?_) #[true,true,true,true,true,true,true,false,true,true,false,false,false,false,false,false,false,false] rfl rfl (any_of HT_.out (by kernel_rfl)) (fun _ _ _ h => h) (Or.inl ⟨by rfl,?_⟩) ?_ ?_
     rotate_left
     ·intro w'
      go_simp
      with_reducible rfl
     rotate_left
     ·simp only [Act.put,List.setIfInBounds_toArray,List.set_cons_zero,List.set_cons_succ,i64_w,i32_w]
      rfl
     refine pure_ (i := 11) (N := some 28) (v := ?_) (a' := ?_) #[true,true,true,true,true,true,true,false,true,true,false,true,false,false,false,false,false,false] rfl rfl (any_of HT_.out (by kernel_rfl)) (fun _ _ _ h => h) (Or.inl ⟨by rfl,?_⟩) ?_ ?_
     rotate_left
     ·intro w'
      go_simp
      with_reducible rfl
     rotate_left
     ·simp only [Act.put,List.setIfInBounds_toArray,List.set_cons_zero,List.set_cons_succ,i64_w,i32_w]
      rfl
     refine pure_ (i := 13) (N := some 30) (v := ?_) (a' := ?_) #[true,true,true,true,true,true,true,false,true,true,false,true,false,true,false,false,false,false] rfl rfl (any_of HT_.out (by kernel_rfl)) (fun _ _ _ h => h) (Or.inl ⟨by rfl,?_⟩) ?_ ?_
     rotate_left
     ·intro w'
      go_simp
      with_reducible rfl
     rotate_left
     ·simp only [Act.put,List.setIfInBounds_toArray,List.set_cons_zero,List.set_cons_succ,i64_w,i32_w]
      rfl
     refine take_ (i := 7) (N := some 24) (v := ?_) (a' := ?_) #[true,true,true,true,true,true,true,true,true,true,false,true,false,true,false,false,false,false] rfl rfl (take_ofW HT_.out HW_.out (by kernel_rfl)) (fun _ _ _ h => h) (Or.inl ⟨by rfl,?_⟩) hHeld ?_ ?_
     rotate_left
     ·rintro w' ⟨s0,s1,s2,s3⟩
      go_simp
      with_reducible rfl
     rotate_left
     ·simp only [Act.put,List.setIfInBounds_toArray,List.set_cons_zero,List.set_cons_succ,i64_w,i32_w]
      rfl
     refine pure_ (i := 10) (N := some 27) (v := ?_) (a' := ?_) #[true,true,true,true,true,true,true,true,true,true,true,true,false,true,false,false,false,false] rfl rfl (any_of HT_.out (by kernel_rfl)) (fun _ _ _ h => h) (Or.inl ⟨by rfl,?_⟩) ?_ ?_
     rotate_left
     ·intro w'
      go_simp
      with_reducible rfl
     rotate_left
     ·simp only [Act.put,List.setIfInBounds_toArray,List.set_cons_zero,List.set_cons_succ,i64_w,i32_w]
      rfl
     refine take_ (i := 12) (N := some 29) (v := ?_) (a' := ?_) #[true,true,true,true,true,true,true,true,true,true,true,true,true,true,false,false,false,false] rfl rfl (take_ofW HT_.out HW_.out (by kernel_rfl)) (fun _ _ _ h => h) (Or.inl ⟨by rfl,?_⟩) hHeld ?_ ?_
     rotate_left
     ·rintro w' ⟨s0,s1,s2,s3⟩
      go_simp
      with_reducible rfl
     rotate_left
     ·simp only [Act.put,List.setIfInBounds_toArray,List.set_cons_zero,List.set_cons_succ,i64_w,i32_w]
      rfl
     refine pure_ (i := 14) (N := some 31) (v := ?_) (a' := ?_) #[true,true,true,true,true,true,true,true,true,true,true,true,true,true,true,false,false,false] rfl rfl (any_of HT_.out (by kernel_rfl)) (fun _ _ _ h => h) (Or.inl ⟨by rfl,?_⟩) ?_ ?_
     rotate_left
     ·intro w'
      go_simp
      with_reducible rfl
     rotate_left
     ·simp only [Act.put,List.setIfInBounds_toArray,List.set_cons_zero,List.set_cons_succ,i64_w,i32_w]
      rfl
     refine pure_ (i := 15) (N := some 32) (v := ?_) (a' := ?_) #[true,true,true,true,true,true,true,true,true,true,true,true,true,true,true,true,false,false] rfl rfl (any_of HT_.out (by kernel_rfl)) (fun _ _ _ h => h) (Or.inl ⟨by rfl,?_⟩) ?_ ?_
     rotate_left
     ·intro w'
      go_simp
      with_reducible rfl
     rotate_left
     ·simp only [Act.put,List.setIfInBounds_toArray,List.set_cons_zero,List.set_cons_succ,i64_w,i32_w]
      rfl
     refine one_ (i := 16) (N := none) #[true,true,true,true,true,true,true,true,true,true,true,true,true,true,true,true,true,false] rfl rfl (one_of HT_.out (by kernel_rfl)) (by decide) (fun K hK => ?_)
     have hs13 : w12.cell? ⟨gb331,0,none⟩ = some (.int .i64 0) := (blk_cell BK331.out 0).trans rfl
     have hfs13 := blk_frozen BK331.out 0
     have hns13_0 := NB330_331.out
     have hms13_0 := NB331_330.out
     have hs14 : w12.cell? ⟨gb331,1,none⟩ = some (.int .i64 0) := (blk_cell BK331.out 1).trans rfl
     have hfs14 := blk_frozen BK331.out 1
     have hns14_0 := NB330_331.out
     have hms14_0 := NB331_330.out
     have hs15 : w12.cell? ⟨gb331,2,none⟩ = some (.string (⟨#[]⟩ : ByteArray)) := (blk_cell BK331.out 2).trans rfl
     have hfs15 := blk_frozen BK331.out 2
     have hns15_0 := NB330_331.out
     have hms15_0 := NB331_330.out
     have hs16 : w12.cell? ⟨gb331,3,none⟩ = some (.int .i64 0) := (blk_cell BK331.out 3).trans rfl
     have hfs16 := blk_frozen BK331.out 3
     have hns16_0 := NB330_331.out
     have hms16_0 := NB331_330.out
     have hs17 : w12.cell? ⟨gb331,4,none⟩ = some (.string (⟨#[]⟩ : ByteArray)) := (blk_cell BK331.out 4).trans rfl
     have hfs17 := blk_frozen BK331.out 4
     have hns17_0 := NB330_331.out
     have hms17_0 := NB331_330.out
     have hs18 : w12.cell? ⟨gb331,5,none⟩ = some (.bool false) := (blk_cell BK331.out 5).trans rfl
     have hfs18 := blk_frozen BK331.out 5
     have hns18_0 := NB330_331.out
     have hms18_0 := NB331_330.out
     refine skip_ (w1 := ?_) (by rfl) rfl ?_ ?_
     rotate_left
     ·go_simp
      rfl
     refine hK.out _ _ ⟨((cell_far (p := ⟨gb331,_,none⟩) NB330_331.out _).trans (((cell_far (p := ⟨gb331,_,none⟩) NB330_331.out _).trans (((cell_far (p := ⟨gb331,_,none⟩) NB330_331.out _).trans (((cell_far (p := ⟨gb331,_,none⟩) NB330_331.out _).trans (((cell_far (p := ⟨gb331,_,none⟩) NB330_331.out _).trans (((cell_far (p := ⟨gb331,_,none⟩) NB330_331.out _).trans (hHeld.1)))))))))))),((cell_far (p := ⟨gb331,_,none⟩) NB330_331.out _).trans (((cell_far (p := ⟨gb331,_,none⟩) NB330_331.out _).trans (((cell_far (p := ⟨gb331,_,none⟩) NB330_331.out _).trans (((cell_far (p := ⟨gb331,_,none⟩) NB330_331.out _).trans (((cell_far (p := ⟨gb331,_,none⟩) NB330_331.out _).trans (((cell_far (p := ⟨gb331,_,none⟩) NB330_331.out _).trans (hHeld.2.1)))))))))))),((cell_far (p := ⟨gb331,_,none⟩) NB330_331.out _).trans (((cell_far (p := ⟨gb331,_,none⟩) NB330_331.out _).trans (((cell_far (p := ⟨gb331,_,none⟩) NB330_331.out _).trans (((cell_far (p := ⟨gb331,_,none⟩) NB330_331.out _).trans (((cell_far (p := ⟨gb331,_,none⟩) NB330_331.out _).trans (((cell_far (p := ⟨gb331,_,none⟩) NB330_331.out _).trans (hHeld.2.2.1)))))))))))),((cell_far (p := ⟨gb331,_,none⟩) NB330_331.out _).trans (((cell_far (p := ⟨gb331,_,none⟩) NB330_331.out _).trans (((cell_far (p := ⟨gb331,_,none⟩) NB330_331.out _).trans (((cell_far (p := ⟨gb331,_,none⟩) NB330_331.out _).trans (((cell_far (p := ⟨gb331,_,none⟩) NB330_331.out _).trans (((cell_far (p := ⟨gb331,_,none⟩) NB330_331.out _).trans (hHeld.2.2.2))))))))))))⟩ (fun hHeld => ?_)
     clear hK K
     refine pure_ (i := 17) (N := some 3) (v := ?_) (a' := ?_) #[true,true,true,true,true,true,true,true,true,true,true,true,true,true,true,true,true,true] rfl rfl (any_of HT_.out (by kernel_rfl)) (fun _ _ _ h => h) (Or.inl ⟨by rfl,?_⟩) ?_ ?_
     rotate_left
     ·intro w'
      go_simp
      with_reducible rfl
     rotate_left
     ·simp only [Act.put,List.setIfInBounds_toArray,List.set_cons_zero,List.set_cons_succ,i64_w,i32_w]
      rfl
     refine done_ (done_of HT_.out (by kernel_rfl)) ?_
     try go_wp2
     refine bodyPost_ret (results_ct rfl _ _ gb331 30 #[.int .i64 t332,.int .i64 (wrap64 (t333 - t332)),.string (⟨#[]⟩ : ByteArray),.int .i64 t332,.string (a0_0.extract (t332 : Int).toNat (t333 : Int).toNat),.bool (a0_2 == t332)] (0,0) _ rfl (by (with_reducible repeat (first | refine blk_drewN ?_ _ | refine blk_drew ?_ | refine blk_alloc ?_ _));refine blk_put (cs := #[.int .i64 t332,.int .i64 (wrap64 (t333 - t332)),.string (⟨#[]⟩ : ByteArray),.int .i64 t332,.string (a0_0.extract (t332 : Int).toNat (t333 : Int).toNat),.bool false]) ?_ 5 _ rfl;(with_reducible repeat (first | refine blk_drewN ?_ _ | refine blk_drew ?_ | refine blk_alloc ?_ _));refine blk_put (cs := #[.int .i64 t332,.int .i64 (wrap64 (t333 - t332)),.string (⟨#[]⟩ : ByteArray),.int .i64 t332,.string (⟨#[]⟩ : ByteArray),.bool false]) ?_ 4 _ rfl;(with_reducible repeat (first | refine blk_drewN ?_ _ | refine blk_drew ?_ | refine blk_alloc ?_ _));refine blk_put (cs := #[.int .i64 t332,.int .i64 (wrap64 (t333 - t332)),.string (⟨#[]⟩ : ByteArray),.int .i64 0,.string (⟨#[]⟩ : ByteArray),.bool false]) ?_ 3 _ rfl;(with_reducible repeat (first | refine blk_drewN ?_ _ | refine blk_drew ?_ | refine blk_alloc ?_ _));refine blk_put (cs := #[.int .i64 t332,.int .i64 (wrap64 (t333 - t332)),.string (⟨#[]⟩ : ByteArray),.int .i64 0,.string (⟨#[]⟩ : ByteArray),.bool false]) ?_ 2 _ rfl;(with_reducible repeat (first | refine blk_drewN ?_ _ | refine blk_drew ?_ | refine blk_alloc ?_ _));refine blk_put (cs := #[.int .i64 t332,.int .i64 0,.string (⟨#[]⟩ : ByteArray),.int .i64 0,.string (⟨#[]⟩ : ByteArray),.bool false]) ?_ 1 _ rfl;(with_reducible repeat (first | refine blk_drewN ?_ _ | refine blk_drew ?_ | refine blk_alloc ?_ _));refine blk_put (cs := #[.int .i64 0,.int .i64 0,.string (⟨#[]⟩ : ByteArray),.int .i64 0,.string (⟨#[]⟩ : ByteArray),.bool false]) ?_ 0 _ rfl;(with_reducible repeat (first | refine blk_drewN ?_ _ | refine blk_drew ?_ | refine blk_alloc ?_ _));exact BK331.out) Tryd.underlying30 rfl (by kernel_rfl)) rfl ?_
     exact ⟨au2,by repeat (first | (with_reducible first | exact HB.out | apply below_alloc | apply pw_below_drewN | apply below_drew1 | refine below_set ?_ GE330.out | refine below_set ?_ GE331.out) | exact HB.out)⟩
    ·rw [if_neg c6] at H
     exact absurd H (by simp)
   ·rw [if_neg c5] at H
    exact absurd H (by simp)
  ·rw [if_neg c4] at H
   exact absurd H (by simp)
 ·rw [if_neg c3] at H
  have c3b0 : (t334 == 0) = false := beq_eq_false_iff_ne.mpr c3
  have c3b1 : (t334 != 0) = true := bne_iff_ne.mpr c3
  simp only [Option.some.injEq,Prod.mk.injEq] at H
  obtain ⟨rfl,rfl,rfl,rfl,rfl,rfl,rfl⟩ := H
  go_enter Tryd.func55,Tryd.ntmps55
  go_wp2_with (first | ((with_reducible refine gate_dst (N := 1) rfl ?_);refine box_event ?hg (N := 1) ?hd (cs := #[.string a0_0,.int .i64 a0_1,.int .i64 a0_2,.int .i64 a0_3]) (t := 52) ?hr ?_;(case hd => rfl);(case hg => rfl);(case hr => first | (go_simp;done) | (go_simp;rfl));intro gb330 hg w19 hbox hb;have n0_ := Aside0.mk (below_step au0 hb);have n1_ := Aside0.mk (hbox);have n2_ := Aside0.mk ((by rw [hg];exact (below_size au0) : w.heap.size ≤ gb330));have n3_ := Aside0.mk ((by rw [hg];exact (below_size au0) : w.heap.size ≤ gb330));clear HB;have HB := n0_;have BK330 := n1_;have GW330 := n2_;have GE330 := n3_;clear n0_ n1_ n2_ n3_;clear hb hbox hg) | ((with_reducible refine gate_dst (N := 2) rfl ?_);refine box_event ?hg (N := 2) ?hd (cs := #[.int .i64 0,.int .i64 0,.string (⟨#[]⟩ : ByteArray),.int .i64 0,.string (⟨#[]⟩ : ByteArray),.bool false]) (t := 30) ?hr ?_;(case hd => rfl);(case hg => rfl);(case hr => first | (go_simp;done) | (go_simp;rfl));intro gb331 hg w20 hbox hb;have n0_ := Aside0.mk (blk_below (g := gb330) (o := .cells #[.string a0_0,.int .i64 a0_1,.int .i64 a0_2,.int .i64 a0_3] 52 (0,0)) au35 hb);have n1_ := Aside0.mk (below_step au33 hb);have n2_ := Aside0.mk (hbox);have n3_ := Aside0.mk ((by rw [hg];exact (below_size au33) : w.heap.size ≤ gb331));have n4_ := Aside0.mk ((by rw [hg];exact (below_size au33) : w.heap.size ≤ gb331));have n5_ := Aside0.mk ((by rw [hg];exact Nat.ne_of_lt (blk_lt (g := gb330) (o := .cells #[.string a0_0,.int .i64 a0_1,.int .i64 a0_2,.int .i64 a0_3] 52 (0,0)) au35) : gb330 ≠ gb331));have n6_ := Aside0.mk ((by rw [hg];exact Nat.ne_of_gt (blk_lt (g := gb330) (o := .cells #[.string a0_0,.int .i64 a0_1,.int .i64 a0_2,.int .i64 a0_3] 52 (0,0)) au35) : gb331 ≠ gb330));clear BK330;clear HB;have BK330 := n0_;have HB := n1_;have BK331 := n2_;have GW331 := n3_;have GE331 := n4_;have NB330_331 := n5_;have NB331_330 := n6_;clear n0_ n1_ n2_ n3_ n4_ n5_ n6_;clear hb hbox hg;have hnb21 := NB330_331.out;have hnc21 := NB331_330.out;have hcz22_0 : w20.cell? ⟨gb330,0,none⟩ = some (.string a0_0) := (blk_cell BK330.out 0).trans rfl;have hcz22_1 : w20.cell? ⟨gb330,1,none⟩ = some (.int .i64 a0_1) := (blk_cell BK330.out 1).trans rfl;have hcz22_2 : w20.cell? ⟨gb330,2,none⟩ = some (.int .i64 a0_2) := (blk_cell BK330.out 2).trans rfl;have hcz22_3 : w20.cell? ⟨gb330,3,none⟩ = some (.int .i64 a0_3) := (blk_cell BK330.out 3).trans rfl;have hfz22_0 := blk_frozen BK330.out 0;have hfz22_1 := blk_frozen BK330.out 1;have hfz22_2 := blk_frozen BK330.out 2;have hfz22_3 := blk_frozen BK330.out 3) | ((with_reducible refine gate_callee (f := 71) rfl ?_);refine goesL_ (some 9) rfl rfl Tryd.func71 (by kernel_rfl) rfl #[.agg #[.string a0_0,.int .i64 a0_1,.int .i64 a0_2,.int .i64 a0_3]] rfl au1 ?_;(with_reducible refine (change_work_between.calls a0_0 a0_1 a0_2 a0_3 t332 t333 t334 _ A2.out).mono ?_);rintro e w23 ⟨rfl,hb⟩;refine ⟨_,rfl,?_⟩;have n0_ := Aside0.mk (blk_below (g := gb330) (o := .cells #[.string a0_0,.int .i64 a0_1,.int .i64 a0_2,.int .i64 a0_3] 52 (0,0)) au35 hb);have n1_ := Aside0.mk (blk_below (g := gb331) (o := .cells #[.int .i64 0,.int .i64 0,.string (⟨#[]⟩ : ByteArray),.int .i64 0,.string (⟨#[]⟩ : ByteArray),.bool false] 30 (0,0)) (by (with_reducible repeat (first | refine blk_drewN ?_ _ | refine blk_drew ?_ | refine blk_alloc ?_ _));exact BK331.out) hb);have n2_ := Aside0.mk (below_step (by repeat (first | (with_reducible first | exact HB.out | apply below_alloc | apply pw_below_drewN | apply below_drew1 | refine below_set ?_ GE330.out | refine below_set ?_ GE331.out) | exact HB.out)) hb);clear BK330;clear BK331;clear HB;have BK330 := n0_;have BK331 := n1_;have HB := n2_;clear n0_ n1_ n2_;(try clear hb);(try clear hb2);(try clear hk);(try clear hi);have hcz24_0 : w23.cell? ⟨gb331,0,none⟩ = some (.int .i64 0) := (blk_cell BK331.out 0).trans rfl;have hcz24_1 : w23.cell? ⟨gb331,1,none⟩ = some (.int .i64 0) := (blk_cell BK331.out 1).trans rfl;have hcz24_2 : w23.cell? ⟨gb331,2,none⟩ = some (.string (⟨#[]⟩ : ByteArray)) := (blk_cell BK331.out 2).trans rfl;have hcz24_3 : w23.cell? ⟨gb331,3,none⟩ = some (.int .i64 0) := (blk_cell BK331.out 3).trans rfl;have hcz24_4 : w23.cell? ⟨gb331,4,none⟩ = some (.string (⟨#[]⟩ : ByteArray)) := (blk_cell BK331.out 4).trans rfl;have hcz24_5 : w23.cell? ⟨gb331,5,none⟩ = some (.bool false) := (blk_cell BK331.out 5).trans rfl;have hfz24_0 := blk_frozen BK331.out 0;have hfz24_1 := blk_frozen BK331.out 1;have hfz24_2 := blk_frozen BK331.out 2;have hfz24_3 := blk_frozen BK331.out 3;have hfz24_4 := blk_frozen BK331.out 4;have hfz24_5 := blk_frozen BK331.out 5))
  refine bodyPost_ret (results_ct rfl _ _ gb331 30 #[.int .i64 0,.int .i64 0,.string (⟨#[]⟩ : ByteArray),.int .i64 0,.string (⟨#[]⟩ : ByteArray),.bool false] (0,0) _ rfl (by (with_reducible repeat (first | refine blk_drewN ?_ _ | refine blk_drew ?_ | refine blk_alloc ?_ _));refine blk_put (cs := #[.int .i64 0,.int .i64 0,.string (⟨#[]⟩ : ByteArray),.int .i64 0,.string (⟨#[]⟩ : ByteArray),.bool false]) ?_ 5 _ rfl;(with_reducible repeat (first | refine blk_drewN ?_ _ | refine blk_drew ?_ | refine blk_alloc ?_ _));refine blk_put (cs := #[.int .i64 0,.int .i64 0,.string (⟨#[]⟩ : ByteArray),.int .i64 0,.string (⟨#[]⟩ : ByteArray),.bool false]) ?_ 4 _ rfl;(with_reducible repeat (first | refine blk_drewN ?_ _ | refine blk_drew ?_ | refine blk_alloc ?_ _));refine blk_put (cs := #[.int .i64 0,.int .i64 0,.string (⟨#[]⟩ : ByteArray),.int .i64 0,.string (⟨#[]⟩ : ByteArray),.bool false]) ?_ 3 _ rfl;(with_reducible repeat (first | refine blk_drewN ?_ _ | refine blk_drew ?_ | refine blk_alloc ?_ _));refine blk_put (cs := #[.int .i64 0,.int .i64 0,.string (⟨#[]⟩ : ByteArray),.int .i64 0,.string (⟨#[]⟩ : ByteArray),.bool false]) ?_ 2 _ rfl;(with_reducible repeat (first | refine blk_drewN ?_ _ | refine blk_drew ?_ | refine blk_alloc ?_ _));refine blk_put (cs := #[.int .i64 0,.int .i64 0,.string (⟨#[]⟩ : ByteArray),.int .i64 0,.string (⟨#[]⟩ : ByteArray),.bool false]) ?_ 1 _ rfl;(with_reducible repeat (first | refine blk_drewN ?_ _ | refine blk_drew ?_ | refine blk_alloc ?_ _));refine blk_put (cs := #[.int .i64 0,.int .i64 0,.string (⟨#[]⟩ : ByteArray),.int .i64 0,.string (⟨#[]⟩ : ByteArray),.bool false]) ?_ 0 _ rfl;(with_reducible repeat (first | refine blk_drewN ?_ _ | refine blk_drew ?_ | refine blk_alloc ?_ _));exact BK331.out) Tryd.underlying30 rfl (by kernel_rfl)) rfl ?_
  exact ⟨au2,by repeat (first | (with_reducible first | exact HB.out | apply below_alloc | apply pw_below_drewN | apply below_drew1 | refine below_set ?_ GE330.out | refine below_set ?_ GE331.out) | exact HB.out)⟩
end Go.Proofs.YtfmnmjoofnbnfaaDoor.U
end
section
namespace Go.Proofs.YtfmnmjoofnbnfaaDoor.U
open Go.RowKit Go.Proofs.YtfmnmjoofnbnfaaDoorW.PrintWords Go.Proofs.YtfmnmjoofnbnfaaDoorW.PrintLast Go.Proofs.YtfmnmjoofnbnfaaDoorW.PrintMore
attribute [local go_sem] max2_int min2_int max_two min_two max_three min_three max_four min_four   -- for this text's walks alone
set_option linter.unusedVariables false
set_option linter.unusedSimpArgs false
def change_work_copyRegion.f (a0_0 : ByteArray) (a0_1 : Int) (a0_2 : Int) (a0_3 : Int) : Option (Int × Int × ByteArray × Int × ByteArray × Bool × Int) := (change_work_between.f a0_0 a0_1 a0_2 a0_3).bind fun bt337 => (if bt337.2.2 = 0 then (if 0 ≤ bt337.1 then (if bt337.1 ≤ bt337.2.1 then (if bt337.2.1 ≤ (a0_0.size : Int) then (some (0,0,(⟨#[]⟩ : ByteArray),a0_1,a0_0.extract (bt337.1 : Int).toNat (bt337.2.1 : Int).toNat,false,0)) else (none)) else (none)) else (none)) else (some (0,0,(⟨#[]⟩ : ByteArray),0,(⟨#[]⟩ : ByteArray),false,bt337.2.2)))
def change_work_copyRegion.T4 : Bool × List (List Nat × List Nat) := (true,[([],[]),([0],[0]),([],[]),([2],[2]),([],[]),([],[]),([3,4,5],[3,4,5]),([1,6],[1,6]),([7,0,1,2,3,4,5,6,7],[7]),([8,0,1,2,3,4,5,6,7,8],[])])
def change_work_copyRegion.B4 : List Nat := [0,1,0,4,0,0,60,127,255,511]
theorem change_work_copyRegion.tab4 : rtab .any (opsOf Tryd.f56 4) = change_work_copyRegion.T4 := by kernel_rfl
theorem change_work_copyRegion.bits4 : waitsOk change_work_copyRegion.T4.2 change_work_copyRegion.B4 = true := by kernel_rfl
set_option maxHeartbeats 8000000 in
set_option maxRecDepth 100000 in
theorem change_work_copyRegion.calls (a0_0 : ByteArray) (a0_1 : Int) (a0_2 : Int) (a0_3 : Int) (r1 : Int) (r2 : Int) (r3 : ByteArray) (r4 : Int) (r5 : ByteArray) (r6 : Bool) (r7 : Int) (w : World) (h : change_work_copyRegion.f a0_0 a0_1 a0_2 a0_3 = some (r1,r2,r3,r4,r5,r6,r7)) :
  Calls Tryd.prog 56 #[.agg #[.string a0_0,.int .i64 a0_1,.int .i64 a0_2,.int .i64 a0_3]] w fun e w' => e = .returned (.tuple #[.agg #[.int .i64 r1,.int .i64 r2,.string r3,.int .i64 r4,.string r5,.bool r6],.int .i64 r7]) ∧ Below w.heap.size w w' := by
 have hu52 := Tryd.underlying52
 have hu30 := Tryd.underlying30
 have HB := Aside0.mk (Below.refl w.heap.size w)
 have H : ((change_work_between.f a0_0 a0_1 a0_2 a0_3).bind fun bt337 => (if bt337.2.2 = 0 then (if 0 ≤ bt337.1 then (if bt337.1 ≤ bt337.2.1 then (if bt337.2.1 ≤ (a0_0.size : Int) then (some (0,0,(⟨#[]⟩ : ByteArray),a0_1,a0_0.extract (bt337.1 : Int).toNat (bt337.2.1 : Int).toNat,false,0)) else (none)) else (none)) else (none)) else (some (0,0,(⟨#[]⟩ : ByteArray),0,(⟨#[]⟩ : ByteArray),false,bt337.2.2)))) = some (r1,r2,r3,r4,r5,r6,r7) := h
 clear h
 replace H := Option.bind_eq_some_iff.mp H
 obtain ⟨⟨t337,t338,t339⟩,A20,H⟩ := H
 replace H : (if t339 = 0 then (if 0 ≤ t337 then (if t337 ≤ t338 then (if t338 ≤ (a0_0.size : Int) then (some (0,0,(⟨#[]⟩ : ByteArray),a0_1,a0_0.extract (t337 : Int).toNat (t338 : Int).toNat,false,0)) else (none)) else (none)) else (none)) else (some (0,0,(⟨#[]⟩ : ByteArray),0,(⟨#[]⟩ : ByteArray),false,t339))) = some (r1,r2,r3,r4,r5,r6,r7) := H
 have A2 := Aside0.mk A20
 clear A20
 by_cases c3 : t339 = 0
 ·rw [if_pos c3] at H
  have c3b0 : (t339 == 0) = true := beq_iff_eq.mpr c3
  have c3b1 : (t339 != 0) = false := bne_eq_false_iff_eq.mpr c3
  clear c3
  by_cases c4 : 0 ≤ t337
  ·rw [if_pos c4] at H
   have c4b0 := eq_true c4
   have c4b1 : decide (0 ≤ t337) = true := decide_eq_true c4
   clear c4
   by_cases c5 : t337 ≤ t338
   ·rw [if_pos c5] at H
    have c5b0 := eq_true c5
    have c5b1 : decide (t337 ≤ t338) = true := decide_eq_true c5
    clear c5
    by_cases c6 : t338 ≤ (a0_0.size : Int)
    ·rw [if_pos c6] at H
     have c6b0 := eq_true c6
     have c6b1 : decide (t338 ≤ (a0_0.size : Int)) = true := decide_eq_true c6
     clear c6
     simp only [Option.some.injEq,Prod.mk.injEq] at H
     obtain ⟨rfl,rfl,rfl,rfl,rfl,rfl,rfl⟩ := H
     go_enter Tryd.func56,Tryd.ntmps56
     try go_wp2_with (first | ((with_reducible refine gate_dst (N := 1) rfl ?_);refine box_event ?hg (N := 1) ?hd (cs := #[.string a0_0,.int .i64 a0_1,.int .i64 a0_2,.int .i64 a0_3]) (t := 52) ?hr ?_;(case hd => rfl);(case hg => rfl);(case hr => first | (go_simp;done) | (go_simp;rfl));intro gb335 hg w7 hbox hb;have n0_ := Aside0.mk (below_step au0 hb);have n1_ := Aside0.mk (hbox);have n2_ := Aside0.mk ((by rw [hg];exact (below_size au0) : w.heap.size ≤ gb335));have n3_ := Aside0.mk ((by rw [hg];exact (below_size au0) : w.heap.size ≤ gb335));clear HB;have HB := n0_;have BK335 := n1_;have GW335 := n2_;have GE335 := n3_;clear n0_ n1_ n2_ n3_;clear hb hbox hg) | ((with_reducible refine gate_dst (N := 2) rfl ?_);refine box_event ?hg (N := 2) ?hd (cs := #[.int .i64 0,.int .i64 0,.string (⟨#[]⟩ : ByteArray),.int .i64 0,.string (⟨#[]⟩ : ByteArray),.bool false]) (t := 30) ?hr ?_;(case hd => rfl);(case hg => rfl);(case hr => first | (go_simp;done) | (go_simp;rfl));intro gb336 hg w8 hbox hb;have n0_ := Aside0.mk (blk_below (g := gb335) (o := .cells #[.string a0_0,.int .i64 a0_1,.int .i64 a0_2,.int .i64 a0_3] 52 (0,0)) au36 hb);have n1_ := Aside0.mk (below_step au34 hb);have n2_ := Aside0.mk (hbox);have n3_ := Aside0.mk ((by rw [hg];exact (below_size au34) : w.heap.size ≤ gb336));have n4_ := Aside0.mk ((by rw [hg];exact (below_size au34) : w.heap.size ≤ gb336));have n5_ := Aside0.mk ((by rw [hg];exact Nat.ne_of_lt (blk_lt (g := gb335) (o := .cells #[.string a0_0,.int .i64 a0_1,.int .i64 a0_2,.int .i64 a0_3] 52 (0,0)) au36) : gb335 ≠ gb336));have n6_ := Aside0.mk ((by rw [hg];exact Nat.ne_of_gt (blk_lt (g := gb335) (o := .cells #[.string a0_0,.int .i64 a0_1,.int .i64 a0_2,.int .i64 a0_3] 52 (0,0)) au36) : gb336 ≠ gb335));clear BK335;clear HB;have BK335 := n0_;have HB := n1_;have BK336 := n2_;have GW336 := n3_;have GE336 := n4_;have NB335_336 := n5_;have NB336_335 := n6_;clear n0_ n1_ n2_ n3_ n4_ n5_ n6_;clear hb hbox hg;have hnb9 := NB335_336.out;have hnc9 := NB336_335.out;have hcz10_0 : w8.cell? ⟨gb335,0,none⟩ = some (.string a0_0) := (blk_cell BK335.out 0).trans rfl;have hcz10_1 : w8.cell? ⟨gb335,1,none⟩ = some (.int .i64 a0_1) := (blk_cell BK335.out 1).trans rfl;have hcz10_2 : w8.cell? ⟨gb335,2,none⟩ = some (.int .i64 a0_2) := (blk_cell BK335.out 2).trans rfl;have hcz10_3 : w8.cell? ⟨gb335,3,none⟩ = some (.int .i64 a0_3) := (blk_cell BK335.out 3).trans rfl;have hfz10_0 := blk_frozen BK335.out 0;have hfz10_1 := blk_frozen BK335.out 1;have hfz10_2 := blk_frozen BK335.out 2;have hfz10_3 := blk_frozen BK335.out 3) | ((with_reducible refine gate_callee (f := 71) rfl ?_);refine goesL_ (some 9) rfl rfl Tryd.func71 (by kernel_rfl) rfl #[.agg #[.string a0_0,.int .i64 a0_1,.int .i64 a0_2,.int .i64 a0_3]] rfl au1 ?_;(with_reducible refine (change_work_between.calls a0_0 a0_1 a0_2 a0_3 t337 t338 t339 _ A2.out).mono ?_);rintro e w11 ⟨rfl,hb⟩;refine ⟨_,rfl,?_⟩;have n0_ := Aside0.mk (blk_below (g := gb335) (o := .cells #[.string a0_0,.int .i64 a0_1,.int .i64 a0_2,.int .i64 a0_3] 52 (0,0)) au36 hb);have n1_ := Aside0.mk (blk_below (g := gb336) (o := .cells #[.int .i64 0,.int .i64 0,.string (⟨#[]⟩ : ByteArray),.int .i64 0,.string (⟨#[]⟩ : ByteArray),.bool false] 30 (0,0)) (by (with_reducible repeat (first | refine blk_drewN ?_ _ | refine blk_drew ?_ | refine blk_alloc ?_ _));exact BK336.out) hb);have n2_ := Aside0.mk (below_step (by repeat (first | (with_reducible first | exact HB.out | apply below_alloc | apply pw_below_drewN | apply below_drew1 | refine below_set ?_ GE335.out | refine below_set ?_ GE336.out) | exact HB.out)) hb);clear BK335;clear BK336;clear HB;have BK335 := n0_;have BK336 := n1_;have HB := n2_;clear n0_ n1_ n2_;(try clear hb);(try clear hb2);(try clear hk);(try clear hi)))
     have n0_ := Aside0.mk (blk_drew BK335.out)
     have n1_ := Aside0.mk (blk_drew BK336.out)
     have n2_ := Aside0.mk (below_drew1 HB.out)
     clear BK335
     clear BK336
     clear HB
     have BK335 := n0_
     have BK336 := n1_
     have HB := n2_
     clear n0_ n1_ n2_
     refine start_ (n := 10) (S := fun w' => w'.cell? ⟨gb335,0,none⟩ = some (.string a0_0) ∧ w'.cell? ⟨gb335,1,none⟩ = some (.int .i64 a0_1) ∧ w'.cell? ⟨gb335,2,none⟩ = some (.int .i64 a0_2) ∧ w'.cell? ⟨gb335,3,none⟩ = some (.int .i64 a0_3)) (ds := []) #[false,false,false,false,false,false,false,false,false,false] (by kernel_rfl) rfl rfl ⟨(blk_cell BK335.out 0).trans rfl,(blk_cell BK335.out 1).trans rfl,(blk_cell BK335.out 2).trans rfl,(blk_cell BK335.out 3).trans rfl⟩ (fun hHeld => ?_);refine with_tabW change_work_copyRegion.tab4 change_work_copyRegion.bits4 (fun HT_ HW_ => ?_)
     generalize w11.drew = w12 at BK335 BK336 HB hHeld ⊢
     refine pure_ (i := 0) (N := some 17) (v := ?_) (a' := ?_) #[true,false,false,false,false,false,false,false,false,false] rfl rfl (any_of HT_.out (by kernel_rfl)) (fun _ _ _ h => h) (Or.inl ⟨by rfl,?_⟩) ?_ ?_
     rotate_left
     ·intro w'
      go_simp
      with_reducible rfl
     rotate_left
     ·simp only [Act.put,List.setIfInBounds_toArray,List.set_cons_zero,List.set_cons_succ,i64_w,i32_w]
      rfl
     refine pure_ (i := 2) (N := some 19) (v := ?_) (a' := ?_) #[true,false,true,false,false,false,false,false,false,false] rfl rfl (any_of HT_.out (by kernel_rfl)) (fun _ _ _ h => h) (Or.inl ⟨by rfl,?_⟩) ?_ ?_
     rotate_left
     ·intro w'
      go_simp
      with_reducible rfl
     rotate_left
     ·simp only [Act.put,List.setIfInBounds_toArray,List.set_cons_zero,List.set_cons_succ,i64_w,i32_w]
      rfl
     refine pure_ (i := 4) (N := some 21) (v := ?_) (a' := ?_) #[true,false,true,false,true,false,false,false,false,false] rfl rfl (any_of HT_.out (by kernel_rfl)) (fun _ _ _ h => h) (Or.inl ⟨by rfl,?_⟩) ?_ ?_
     rotate_left
     ·intro w'
      go_simp
      with_reducible rfl
     rotate_left
     ·simp only [Act.put,List.setIfInBounds_toArray,List.set_cons_zero,List.set_cons_succ,i64_w,i32_w]
      rfl
     refine pure_ (i := 5) (N := some 22) (v := ?_) (a' := ?_) #[true,false,true,false,true,true,false,false,false,false] rfl rfl (any_of HT_.out (by kernel_rfl)) (fun _ _ _ h => h) (Or.inl ⟨by rfl,?_⟩) ?_ ?_
     rotate_left
     ·intro w'
      go_simp
      with_reducible rfl
     rotate_left
     ·simp only [Act.put,List.setIfInBounds_toArray,List.set_cons_zero,List.set_cons_succ,i64_w,i32_w]
      rfl
     refine take_ (i := 1) (N := some 18) (v := ?_) (a' := ?_) #[true,true,true,false,true,true,false,false,false,false] rfl rfl (take_ofW HT_.out HW_.out (by kernel_rfl)) (fun _ _ _ h => h) (Or.inl ⟨by rfl,?_⟩) hHeld ?_ ?_
     rotate_left
     ·rintro w' ⟨s0,s1,s2,s3⟩
      go_simp
      with_reducible rfl
     rotate_left
     ·simp only [Act.put,List.setIfInBounds_toArray,List.set_cons_zero,List.set_cons_succ,i64_w,i32_w]
      rfl
     refine take_ (i := 3) (N := some 20) (v := ?_) (a' := ?_) #[true,true,true,true,true,true,false,false,false,false] rfl rfl (take_ofW HT_.out HW_.out (by kernel_rfl)) (fun _ _ _ h => h) (Or.inl ⟨by rfl,?_⟩) hHeld ?_ ?_
     rotate_left
     ·rintro w' ⟨s0,s1,s2,s3⟩
      go_simp
      with_reducible rfl
     rotate_left
     ·simp only [Act.put,List.setIfInBounds_toArray,List.set_cons_zero,List.set_cons_succ,i64_w,i32_w]
      rfl
     refine pure_ (i := 6) (N := some 23) (v := ?_) (a' := ?_) #[true,true,true,true,true,true,true,false,false,false] rfl rfl (any_of HT_.out (by kernel_rfl)) (fun _ _ _ h => h) (Or.inl ⟨by rfl,?_⟩) ?_ ?_
     rotate_left
     ·intro w'
      go_simp
      with_reducible rfl
     rotate_left
     ·simp only [Act.put,List.setIfInBounds_toArray,List.set_cons_zero,List.set_cons_succ,i64_w,i32_w]
      rfl
     refine pure_ (i := 7) (N := some 24) (v := ?_) (a' := ?_) #[true,true,true,true,true,true,true,true,false,false] rfl rfl (any_of HT_.out (by kernel_rfl)) (fun _ _ _ h => h) (Or.inl ⟨by rfl,?_⟩) ?_ ?_
     rotate_left
     ·intro w'
      go_simp
      with_reducible rfl
     rotate_left
     ·simp only [Act.put,List.setIfInBounds_toArray,List.set_cons_zero,List.set_cons_succ,i64_w,i32_w]
      rfl
     refine one_ (i := 8) (N := none) #[true,true,true,true,true,true,true,true,true,false] rfl rfl (one_of HT_.out (by kernel_rfl)) (by decide) (fun K hK => ?_)
     have hs13 : w12.cell? ⟨gb336,0,none⟩ = some (.int .i64 0) := (blk_cell BK336.out 0).trans rfl
     have hfs13 := blk_frozen BK336.out 0
     have hns13_0 := NB335_336.out
     have hms13_0 := NB336_335.out
     have hs14 : w12.cell? ⟨gb336,1,none⟩ = some (.int .i64 0) := (blk_cell BK336.out 1).trans rfl
     have hfs14 := blk_frozen BK336.out 1
     have hns14_0 := NB335_336.out
     have hms14_0 := NB336_335.out
     have hs15 : w12.cell? ⟨gb336,2,none⟩ = some (.string (⟨#[]⟩ : ByteArray)) := (blk_cell BK336.out 2).trans rfl
     have hfs15 := blk_frozen BK336.out 2
     have hns15_0 := NB335_336.out
     have hms15_0 := NB336_335.out
     have hs16 : w12.cell? ⟨gb336,3,none⟩ = some (.int .i64 0) := (blk_cell BK336.out 3).trans rfl
     have hfs16 := blk_frozen BK336.out 3
     have hns16_0 := NB335_336.out
     have hms16_0 := NB336_335.out
     have hs17 : w12.cell? ⟨gb336,4,none⟩ = some (.string (⟨#[]⟩ : ByteArray)) := (blk_cell BK336.out 4).trans rfl
     have hfs17 := blk_frozen BK336.out 4
     have hns17_0 := NB335_336.out
     have hms17_0 := NB336_335.out
     have hs18 : w12.cell? ⟨gb336,5,none⟩ = some (.bool false) := (blk_cell BK336.out 5).trans rfl
     have hfs18 := blk_frozen BK336.out 5
     have hns18_0 := NB335_336.out
     have hms18_0 := NB336_335.out
     refine skip_ (w1 := ?_) (by rfl) rfl ?_ ?_
     rotate_left
     ·go_simp
      rfl
     refine hK.out _ _ ⟨((cell_far (p := ⟨gb336,_,none⟩) NB335_336.out _).trans (((cell_far (p := ⟨gb336,_,none⟩) NB335_336.out _).trans (((cell_far (p := ⟨gb336,_,none⟩) NB335_336.out _).trans (((cell_far (p := ⟨gb336,_,none⟩) NB335_336.out _).trans (((cell_far (p := ⟨gb336,_,none⟩) NB335_336.out _).trans (((cell_far (p := ⟨gb336,_,none⟩) NB335_336.out _).trans (hHeld.1)))))))))))),((cell_far (p := ⟨gb336,_,none⟩) NB335_336.out _).trans (((cell_far (p := ⟨gb336,_,none⟩) NB335_336.out _).trans (((cell_far (p := ⟨gb336,_,none⟩) NB335_336.out _).trans (((cell_far (p := ⟨gb336,_,none⟩) NB335_336.out _).trans (((cell_far (p := ⟨gb336,_,none⟩) NB335_336.out _).trans (((cell_far (p := ⟨gb336,_,none⟩) NB335_336.out _).trans (hHeld.2.1)))))))))))),((cell_far (p := ⟨gb336,_,none⟩) NB335_336.out _).trans (((cell_far (p := ⟨gb336,_,none⟩) NB335_336.out _).trans (((cell_far (p := ⟨gb336,_,none⟩) NB335_336.out _).trans (((cell_far (p := ⟨gb336,_,none⟩) NB335_336.out _).trans (((cell_far (p := ⟨gb336,_,none⟩) NB335_336.out _).trans (((cell_far (p := ⟨gb336,_,none⟩) NB335_336.out _).trans (hHeld.2.2.1)))))))))))),((cell_far (p := ⟨gb336,_,none⟩) NB335_336.out _).trans (((cell_far (p := ⟨gb336,_,none⟩) NB335_336.out _).trans (((cell_far (p := ⟨gb336,_,none⟩) NB335_336.out _).trans (((cell_far (p := ⟨gb336,_,none⟩) NB335_336.out _).trans (((cell_far (p := ⟨gb336,_,none⟩) NB335_336.out _).trans (((cell_far (p := ⟨gb336,_,none⟩) NB335_336.out _).trans (hHeld.2.2.2))))))))))))⟩ (fun hHeld => ?_)
     clear hK K
     refine pure_ (i := 9) (N := some 3) (v := ?_) (a' := ?_) #[true,true,true,true,true,true,true,true,true,true] rfl rfl (any_of HT_.out (by kernel_rfl)) (fun _ _ _ h => h) (Or.inl ⟨by rfl,?_⟩) ?_ ?_
     rotate_left
     ·intro w'
      go_simp
      with_reducible rfl
     rotate_left
     ·simp only [Act.put,List.setIfInBounds_toArray,List.set_cons_zero,List.set_cons_succ,i64_w,i32_w]
      rfl
     refine done_ (done_of HT_.out (by kernel_rfl)) ?_
     try go_wp2
     refine bodyPost_ret (results_ct rfl _ _ gb336 30 #[.int .i64 0,.int .i64 0,.string (⟨#[]⟩ : ByteArray),.int .i64 a0_1,.string (a0_0.extract (t337 : Int).toNat (t338 : Int).toNat),.bool false] (0,0) _ rfl (by (with_reducible repeat (first | refine blk_drewN ?_ _ | refine blk_drew ?_ | refine blk_alloc ?_ _));refine blk_put (cs := #[.int .i64 0,.int .i64 0,.string (⟨#[]⟩ : ByteArray),.int .i64 a0_1,.string (a0_0.extract (t337 : Int).toNat (t338 : Int).toNat),.bool false]) ?_ 5 _ rfl;(with_reducible repeat (first | refine blk_drewN ?_ _ | refine blk_drew ?_ | refine blk_alloc ?_ _));refine blk_put (cs := #[.int .i64 0,.int .i64 0,.string (⟨#[]⟩ : ByteArray),.int .i64 a0_1,.string (⟨#[]⟩ : ByteArray),.bool false]) ?_ 4 _ rfl;(with_reducible repeat (first | refine blk_drewN ?_ _ | refine blk_drew ?_ | refine blk_alloc ?_ _));refine blk_put (cs := #[.int .i64 0,.int .i64 0,.string (⟨#[]⟩ : ByteArray),.int .i64 0,.string (⟨#[]⟩ : ByteArray),.bool false]) ?_ 3 _ rfl;(with_reducible repeat (first | refine blk_drewN ?_ _ | refine blk_drew ?_ | refine blk_alloc ?_ _));refine blk_put (cs := #[.int .i64 0,.int .i64 0,.string (⟨#[]⟩ : ByteArray),.int .i64 0,.string (⟨#[]⟩ : ByteArray),.bool false]) ?_ 2 _ rfl;(with_reducible repeat (first | refine blk_drewN ?_ _ | refine blk_drew ?_ | refine blk_alloc ?_ _));refine blk_put (cs := #[.int .i64 0,.int .i64 0,.string (⟨#[]⟩ : ByteArray),.int .i64 0,.string (⟨#[]⟩ : ByteArray),.bool false]) ?_ 1 _ rfl;(with_reducible repeat (first | refine blk_drewN ?_ _ | refine blk_drew ?_ | refine blk_alloc ?_ _));refine blk_put (cs := #[.int .i64 0,.int .i64 0,.string (⟨#[]⟩ : ByteArray),.int .i64 0,.string (⟨#[]⟩ : ByteArray),.bool false]) ?_ 0 _ rfl;(with_reducible repeat (first | refine blk_drewN ?_ _ | refine blk_drew ?_ | refine blk_alloc ?_ _));exact BK336.out) Tryd.underlying30 rfl (by kernel_rfl)) rfl ?_
     exact ⟨au2,by repeat (first | (with_reducible first | exact HB.out | apply below_alloc | apply pw_below_drewN | apply below_drew1 | refine below_set ?_ GE335.out | refine below_set ?_ GE336.out) | exact HB.out)⟩
    ·rw [if_neg c6] at H
     exact absurd H (by simp)
   ·rw [if_neg c5] at H
    exact absurd H (by simp)
  ·rw [if_neg c4] at H
   exact absurd H (by simp)
 ·rw [if_neg c3] at H
  have c3b0 : (t339 == 0) = false := beq_eq_false_iff_ne.mpr c3
  have c3b1 : (t339 != 0) = true := bne_iff_ne.mpr c3
  simp only [Option.some.injEq,Prod.mk.injEq] at H
  obtain ⟨rfl,rfl,rfl,rfl,rfl,rfl,rfl⟩ := H
  go_enter Tryd.func56,Tryd.ntmps56
  go_wp2_with (first | ((with_reducible refine gate_dst (N := 1) rfl ?_);refine box_event ?hg (N := 1) ?hd (cs := #[.string a0_0,.int .i64 a0_1,.int .i64 a0_2,.int .i64 a0_3]) (t := 52) ?hr ?_;(case hd => rfl);(case hg => rfl);(case hr => first | (go_simp;done) | (go_simp;rfl));intro gb335 hg w19 hbox hb;have n0_ := Aside0.mk (below_step au0 hb);have n1_ := Aside0.mk (hbox);have n2_ := Aside0.mk ((by rw [hg];exact (below_size au0) : w.heap.size ≤ gb335));have n3_ := Aside0.mk ((by rw [hg];exact (below_size au0) : w.heap.size ≤ gb335));clear HB;have HB := n0_;have BK335 := n1_;have GW335 := n2_;have GE335 := n3_;clear n0_ n1_ n2_ n3_;clear hb hbox hg) | ((with_reducible refine gate_dst (N := 2) rfl ?_);refine box_event ?hg (N := 2) ?hd (cs := #[.int .i64 0,.int .i64 0,.string (⟨#[]⟩ : ByteArray),.int .i64 0,.string (⟨#[]⟩ : ByteArray),.bool false]) (t := 30) ?hr ?_;(case hd => rfl);(case hg => rfl);(case hr => first | (go_simp;done) | (go_simp;rfl));intro gb336 hg w20 hbox hb;have n0_ := Aside0.mk (blk_below (g := gb335) (o := .cells #[.string a0_0,.int .i64 a0_1,.int .i64 a0_2,.int .i64 a0_3] 52 (0,0)) au36 hb);have n1_ := Aside0.mk (below_step au34 hb);have n2_ := Aside0.mk (hbox);have n3_ := Aside0.mk ((by rw [hg];exact (below_size au34) : w.heap.size ≤ gb336));have n4_ := Aside0.mk ((by rw [hg];exact (below_size au34) : w.heap.size ≤ gb336));have n5_ := Aside0.mk ((by rw [hg];exact Nat.ne_of_lt (blk_lt (g := gb335) (o := .cells #[.string a0_0,.int .i64 a0_1,.int .i64 a0_2,.int .i64 a0_3] 52 (0,0)) au36) : gb335 ≠ gb336));have n6_ := Aside0.mk ((by rw [hg];exact Nat.ne_of_gt (blk_lt (g := gb335) (o := .cells #[.string a0_0,.int .i64 a0_1,.int .i64 a0_2,.int .i64 a0_3] 52 (0,0)) au36) : gb336 ≠ gb335));clear BK335;clear HB;have BK335 := n0_;have HB := n1_;have BK336 := n2_;have GW336 := n3_;have GE336 := n4_;have NB335_336 := n5_;have NB336_335 := n6_;clear n0_ n1_ n2_ n3_ n4_ n5_ n6_;clear hb hbox hg;have hnb21 := NB335_336.out;have hnc21 := NB336_335.out;have hcz22_0 : w20.cell? ⟨gb335,0,none⟩ = some (.string a0_0) := (blk_cell BK335.out 0).trans rfl;have hcz22_1 : w20.cell? ⟨gb335,1,none⟩ = some (.int .i64 a0_1) := (blk_cell BK335.out 1).trans rfl;have hcz22_2 : w20.cell? ⟨gb335,2,none⟩ = some (.int .i64 a0_2) := (blk_cell BK335.out 2).trans rfl;have hcz22_3 : w20.cell? ⟨gb335,3,none⟩ = some (.int .i64 a0_3) := (blk_cell BK335.out 3).trans rfl;have hfz22_0 := blk_frozen BK335.out 0;have hfz22_1 := blk_frozen BK335.out 1;have hfz22_2 := blk_frozen BK335.out 2;have hfz22_3 := blk_frozen BK335.out 3) | ((with_reducible refine gate_callee (f := 71) rfl ?_);refine goesL_ (some 9) rfl rfl Tryd.func71 (by kernel_rfl) rfl #[.agg #[.string a0_0,.int .i64 a0_1,.int .i64 a0_2,.int .i64 a0_3]] rfl au1 ?_;(with_reducible refine (change_work_between.calls a0_0 a0_1 a0_2 a0_3 t337 t338 t339 _ A2.out).mono ?_);rintro e w23 ⟨rfl,hb⟩;refine ⟨_,rfl,?_⟩;have n0_ := Aside0.mk (blk_below (g := gb335) (o := .cells #[.string a0_0,.int .i64 a0_1,.int .i64 a0_2,.int .i64 a0_3] 52 (0,0)) au36 hb);have n1_ := Aside0.mk (blk_below (g := gb336) (o := .cells #[.int .i64 0,.int .i64 0,.string (⟨#[]⟩ : ByteArray),.int .i64 0,.string (⟨#[]⟩ : ByteArray),.bool false] 30 (0,0)) (by (with_reducible repeat (first | refine blk_drewN ?_ _ | refine blk_drew ?_ | refine blk_alloc ?_ _));exact BK336.out) hb);have n2_ := Aside0.mk (below_step (by repeat (first | (with_reducible first | exact HB.out | apply below_alloc | apply pw_below_drewN | apply below_drew1 | refine below_set ?_ GE335.out | refine below_set ?_ GE336.out) | exact HB.out)) hb);clear BK335;clear BK336;clear HB;have BK335 := n0_;have BK336 := n1_;have HB := n2_;clear n0_ n1_ n2_;(try clear hb);(try clear hb2);(try clear hk);(try clear hi);have hcz24_0 : w23.cell? ⟨gb336,0,none⟩ = some (.int .i64 0) := (blk_cell BK336.out 0).trans rfl;have hcz24_1 : w23.cell? ⟨gb336,1,none⟩ = some (.int .i64 0) := (blk_cell BK336.out 1).trans rfl;have hcz24_2 : w23.cell? ⟨gb336,2,none⟩ = some (.string (⟨#[]⟩ : ByteArray)) := (blk_cell BK336.out 2).trans rfl;have hcz24_3 : w23.cell? ⟨gb336,3,none⟩ = some (.int .i64 0) := (blk_cell BK336.out 3).trans rfl;have hcz24_4 : w23.cell? ⟨gb336,4,none⟩ = some (.string (⟨#[]⟩ : ByteArray)) := (blk_cell BK336.out 4).trans rfl;have hcz24_5 : w23.cell? ⟨gb336,5,none⟩ = some (.bool false) := (blk_cell BK336.out 5).trans rfl;have hfz24_0 := blk_frozen BK336.out 0;have hfz24_1 := blk_frozen BK336.out 1;have hfz24_2 := blk_frozen BK336.out 2;have hfz24_3 := blk_frozen BK336.out 3;have hfz24_4 := blk_frozen BK336.out 4;have hfz24_5 := blk_frozen BK336.out 5))
  refine bodyPost_ret (results_ct rfl _ _ gb336 30 #[.int .i64 0,.int .i64 0,.string (⟨#[]⟩ : ByteArray),.int .i64 0,.string (⟨#[]⟩ : ByteArray),.bool false] (0,0) _ rfl (by (with_reducible repeat (first | refine blk_drewN ?_ _ | refine blk_drew ?_ | refine blk_alloc ?_ _));refine blk_put (cs := #[.int .i64 0,.int .i64 0,.string (⟨#[]⟩ : ByteArray),.int .i64 0,.string (⟨#[]⟩ : ByteArray),.bool false]) ?_ 5 _ rfl;(with_reducible repeat (first | refine blk_drewN ?_ _ | refine blk_drew ?_ | refine blk_alloc ?_ _));refine blk_put (cs := #[.int .i64 0,.int .i64 0,.string (⟨#[]⟩ : ByteArray),.int .i64 0,.string (⟨#[]⟩ : ByteArray),.bool false]) ?_ 4 _ rfl;(with_reducible repeat (first | refine blk_drewN ?_ _ | refine blk_drew ?_ | refine blk_alloc ?_ _));refine blk_put (cs := #[.int .i64 0,.int .i64 0,.string (⟨#[]⟩ : ByteArray),.int .i64 0,.string (⟨#[]⟩ : ByteArray),.bool false]) ?_ 3 _ rfl;(with_reducible repeat (first | refine blk_drewN ?_ _ | refine blk_drew ?_ | refine blk_alloc ?_ _));refine blk_put (cs := #[.int .i64 0,.int .i64 0,.string (⟨#[]⟩ : ByteArray),.int .i64 0,.string (⟨#[]⟩ : ByteArray),.bool false]) ?_ 2 _ rfl;(with_reducible repeat (first | refine blk_drewN ?_ _ | refine blk_drew ?_ | refine blk_alloc ?_ _));refine blk_put (cs := #[.int .i64 0,.int .i64 0,.string (⟨#[]⟩ : ByteArray),.int .i64 0,.string (⟨#[]⟩ : ByteArray),.bool false]) ?_ 1 _ rfl;(with_reducible repeat (first | refine blk_drewN ?_ _ | refine blk_drew ?_ | refine blk_alloc ?_ _));refine blk_put (cs := #[.int .i64 0,.int .i64 0,.string (⟨#[]⟩ : ByteArray),.int .i64 0,.string (⟨#[]⟩ : ByteArray),.bool false]) ?_ 0 _ rfl;(with_reducible repeat (first | refine blk_drewN ?_ _ | refine blk_drew ?_ | refine blk_alloc ?_ _));exact BK336.out) Tryd.underlying30 rfl (by kernel_rfl)) rfl ?_
  exact ⟨au2,by repeat (first | (with_reducible first | exact HB.out | apply below_alloc | apply pw_below_drewN | apply below_drew1 | refine below_set ?_ GE335.out | refine below_set ?_ GE336.out) | exact HB.out)⟩
end Go.Proofs.YtfmnmjoofnbnfaaDoor.U
end
section
namespace Go.Proofs.YtfmnmjoofnbnfaaDoor.U
open Go.RowKit Go.Proofs.YtfmnmjoofnbnfaaDoorW.PrintWords Go.Proofs.YtfmnmjoofnbnfaaDoorW.PrintLast Go.Proofs.YtfmnmjoofnbnfaaDoorW.PrintMore
attribute [local go_sem] max2_int min2_int max_two min_two max_three min_three max_four min_four   -- for this text's walks alone
set_option linter.unusedVariables false
set_option linter.unusedSimpArgs false
def change_lineStart.f (a0 : ByteArray) (a1 : Int) : Option (Int) := if 0 ≤ a1 then (if a1 ≤ (a0.size : Int) then ((strings_LastIndexByte.f (a0.extract 0 (a1 : Int).toNat) 10).bind fun t325 => (some (wrap64 (t325 + 1)))) else (none)) else (none)
set_option maxHeartbeats 8000000 in
set_option maxRecDepth 100000 in
theorem change_lineStart.calls (a0 : ByteArray) (a1 : Int) (r : Int) (w : World) (h : change_lineStart.f a0 a1 = some r) :
  Calls Tryd.prog 54 #[.string a0,.int .i64 a1] w fun e w' => e = .returned (.int .i64 r) ∧ Below w.heap.size w w' := by
 have HB := Aside0.mk (Below.refl w.heap.size w)
 have H : (if 0 ≤ a1 then (if a1 ≤ (a0.size : Int) then ((strings_LastIndexByte.f (a0.extract 0 (a1 : Int).toNat) 10).bind fun t325 => (some (wrap64 (t325 + 1)))) else (none)) else (none)) = some r := h
 clear h
 by_cases c3 : 0 ≤ a1
 ·rw [if_pos c3] at H
  have c3b0 := eq_true c3
  have c3b1 : decide (0 ≤ a1) = true := decide_eq_true c3
  clear c3
  by_cases c4 : a1 ≤ (a0.size : Int)
  ·rw [if_pos c4] at H
   have c4b0 := eq_true c4
   have c4b1 : decide (a1 ≤ (a0.size : Int)) = true := decide_eq_true c4
   clear c4
   replace H := Option.bind_eq_some_iff.mp H
   obtain ⟨t325,A50,H⟩ := H
   replace H : (some (wrap64 (t325 + 1))) = some r := H
   have A5 := Aside0.mk A50
   clear A50
   obtain rfl := Option.some.inj H
   go_enter Tryd.func54,Tryd.ntmps54
   go_wp2_with (first | ((with_reducible refine gate_callee (f := 70) rfl ?_);refine goesL_ (some 8) rfl rfl Tryd.func70 (by kernel_rfl) rfl #[.string (a0.extract 0 (a1 : Int).toNat),.int .u8 10] rfl au1 ?_;(with_reducible refine (strings_LastIndexByte.calls (a0.extract 0 (a1 : Int).toNat) 10 t325 _ A5.out).mono ?_);rintro e w6 ⟨rfl,hb⟩;refine ⟨_,rfl,?_⟩;have n0_ := Aside0.mk (below_step au0 hb);clear HB;have HB := n0_;clear n0_;(try clear hb);(try clear hb2);(try clear hk);(try clear hi)))
   go_ret
   exact ⟨au2,au0⟩
  ·rw [if_neg c4] at H
   exact absurd H (by simp)
 ·rw [if_neg c3] at H
  exact absurd H (by simp)
end Go.Proofs.YtfmnmjoofnbnfaaDoor.U
end
