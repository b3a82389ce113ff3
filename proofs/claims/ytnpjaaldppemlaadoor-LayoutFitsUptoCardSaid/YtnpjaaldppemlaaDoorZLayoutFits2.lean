/- What the law LayoutFits reaches of this seat's own texts, merged; what nothing uses is left out. -/
import Derived.Test.YtnpjaaldppemlaaDoorZLayoutFits0
import Derived.Test.YtnpjaaldppemlaaDoorZLayoutFits1
section
namespace Go.Proofs.YtnpjaaldppemlaaDoor.U
open Go.RowKit Go.Proofs.YtnpjaaldppemlaaDoorW.PrintWords Go.Proofs.YtnpjaaldppemlaaDoorW.PrintLast Go.Proofs.YtnpjaaldppemlaaDoorW.PrintMore
attribute [local go_sem] max2_int min2_int max_two min_two max_three min_three max_four min_four   -- for this text's walks alone
set_option linter.unusedVariables false
set_option linter.unusedSimpArgs false
def unit_first.f (a0 : ByteArray) : Option (Int × Int) := (utf8_DecodeRuneInString.f a0).bind fun bt102 => (if bt102.1 = 65533 then (if bt102.2 = 1 then (some ((-1),1)) else (some (bt102.1,bt102.2))) else (some (bt102.1,bt102.2)))
set_option maxHeartbeats 8000000 in
set_option maxRecDepth 100000 in
theorem unit_first.calls (a0 : ByteArray) (r1 : Int) (r2 : Int) (w : World) (hT : Lib.Utf8Tabs 0 1 w) (h : unit_first.f a0 = some (r1,r2)) :
  Calls Tryd.prog 75 #[.string a0] w fun e w' => e = .returned (.agg #[.int .i32 r1,.int .i64 r2]) ∧ Below w.heap.size w w' := by
 have hu87 := Tryd.underlying87
 have HT := Aside0.mk hT
 clear hT
 have HB := Aside0.mk (Below.refl w.heap.size w)
 have H : ((utf8_DecodeRuneInString.f a0).bind fun bt102 => (if bt102.1 = 65533 then (if bt102.2 = 1 then (some ((-1),1)) else (some (bt102.1,bt102.2))) else (some (bt102.1,bt102.2)))) = some (r1,r2) := h
 clear h
 replace H := Option.bind_eq_some_iff.mp H
 obtain ⟨⟨t102,t103⟩,A20,H⟩ := H
 replace H : (if t102 = 65533 then (if t103 = 1 then (some ((-1),1)) else (some (t102,t103))) else (some (t102,t103))) = some (r1,r2) := H
 have A2 := Aside0.mk A20
 clear A20
 by_cases c3 : t102 = 65533
 ·rw [if_pos c3] at H
  have c3b0 : (t102 == 65533) = true := beq_iff_eq.mpr c3
  have c3b1 : (t102 != 65533) = false := bne_eq_false_iff_eq.mpr c3
  clear c3
  by_cases c4 : t103 = 1
  ·rw [if_pos c4] at H
   have c4b0 : (t103 == 1) = true := beq_iff_eq.mpr c4
   have c4b1 : (t103 != 1) = false := bne_eq_false_iff_eq.mpr c4
   clear c4
   simp only [Option.some.injEq,Prod.mk.injEq] at H
   obtain ⟨rfl,rfl⟩ := H
   go_enter Tryd.func75,Tryd.ntmps75
   go_wp2_with (first | ((with_reducible refine gate_dst (N := 2) rfl ?_);refine box_event ?hg (N := 2) ?hd (cs := #[.int .i32 0,.int .i64 0]) (t := 87) ?hr ?_;(case hd => rfl);(case hg => rfl);(case hr => first | (go_simp;done) | (go_simp;rfl));intro gb101 hg w5 hbox hb;have n0_ := Aside0.mk (below_step au0 hb);have n1_ := Aside0.mk (hbox);have n2_ := Aside0.mk ((by rw [hg];exact (below_size au0) : w.heap.size ≤ gb101));have n3_ := Aside0.mk ((by rw [hg];exact (below_size au0) : w.heap.size ≤ gb101));clear HB;have HB := n0_;have BK101 := n1_;have GW101 := n2_;have GE101 := n3_;clear n0_ n1_ n2_ n3_;clear hb hbox hg) | ((with_reducible refine gate_callee (f := 56) rfl ?_);refine goesL_ (some 7) rfl rfl Tryd.func56 (by kernel_rfl) rfl #[.string a0] rfl au1 ?_;(with_reducible refine (utf8_DecodeRuneInString.calls a0 t102 t103 _ ?side1 A2.out).mono ?_);(case side1 => exact tabs_below HT.out au18);rintro e w6 ⟨rfl,hb⟩;refine ⟨_,rfl,?_⟩;have n0_ := Aside0.mk (blk_below (g := gb101) (o := .cells #[.int .i32 0,.int .i64 0] 87 (0,0)) (by (with_reducible repeat (first | refine blk_drewN ?_ _ | refine blk_drew ?_ | refine blk_alloc ?_ _));exact BK101.out) hb);have n1_ := Aside0.mk (below_step au18 hb);clear BK101;clear HB;have BK101 := n0_;have HB := n1_;clear n0_ n1_;(try clear hb);(try clear hb2);(try clear hk);(try clear hi);have hcz7_0 : w6.cell? ⟨gb101,0,none⟩ = some (.int .i32 0) := (blk_cell BK101.out 0).trans rfl;have hcz7_1 : w6.cell? ⟨gb101,1,none⟩ = some (.int .i64 0) := (blk_cell BK101.out 1).trans rfl;have hfz7_0 := blk_frozen BK101.out 0;have hfz7_1 := blk_frozen BK101.out 1))
   refine bodyPost_ret (results_cell_row rfl _ _ gb101 87 #[.int .i32 (-1),.int .i64 1] (0,0) _ rfl (by (with_reducible repeat (first | refine blk_drewN ?_ _ | refine blk_drew ?_ | refine blk_alloc ?_ _));refine blk_put (cs := #[.int .i32 (-1),.int .i64 0]) ?_ 1 _ rfl;(with_reducible repeat (first | refine blk_drewN ?_ _ | refine blk_drew ?_ | refine blk_alloc ?_ _));refine blk_put (cs := #[.int .i32 0,.int .i64 0]) ?_ 0 _ rfl;(with_reducible repeat (first | refine blk_drewN ?_ _ | refine blk_drew ?_ | refine blk_alloc ?_ _));exact BK101.out) Tryd.underlying87 rfl (by kernel_rfl)) rfl ?_
   exact ⟨au2,by repeat (first | (with_reducible first | exact HB.out | apply below_alloc | apply pw_below_drewN | apply below_drew1 | refine below_set ?_ GE101.out) | exact HB.out)⟩
  ·rw [if_neg c4] at H
   have c4b0 : (t103 == 1) = false := beq_eq_false_iff_ne.mpr c4
   have c4b1 : (t103 != 1) = true := bne_iff_ne.mpr c4
   simp only [Option.some.injEq,Prod.mk.injEq] at H
   obtain ⟨rfl,rfl⟩ := H
   go_enter Tryd.func75,Tryd.ntmps75
   go_wp2_with (first | ((with_reducible refine gate_dst (N := 2) rfl ?_);refine box_event ?hg (N := 2) ?hd (cs := #[.int .i32 0,.int .i64 0]) (t := 87) ?hr ?_;(case hd => rfl);(case hg => rfl);(case hr => first | (go_simp;done) | (go_simp;rfl));intro gb101 hg w8 hbox hb;have n0_ := Aside0.mk (below_step au0 hb);have n1_ := Aside0.mk (hbox);have n2_ := Aside0.mk ((by rw [hg];exact (below_size au0) : w.heap.size ≤ gb101));have n3_ := Aside0.mk ((by rw [hg];exact (below_size au0) : w.heap.size ≤ gb101));clear HB;have HB := n0_;have BK101 := n1_;have GW101 := n2_;have GE101 := n3_;clear n0_ n1_ n2_ n3_;clear hb hbox hg) | ((with_reducible refine gate_callee (f := 56) rfl ?_);refine goesL_ (some 7) rfl rfl Tryd.func56 (by kernel_rfl) rfl #[.string a0] rfl au1 ?_;(with_reducible refine (utf8_DecodeRuneInString.calls a0 t102 t103 _ ?side1 A2.out).mono ?_);(case side1 => exact tabs_below HT.out au18);rintro e w9 ⟨rfl,hb⟩;refine ⟨_,rfl,?_⟩;have n0_ := Aside0.mk (blk_below (g := gb101) (o := .cells #[.int .i32 0,.int .i64 0] 87 (0,0)) (by (with_reducible repeat (first | refine blk_drewN ?_ _ | refine blk_drew ?_ | refine blk_alloc ?_ _));exact BK101.out) hb);have n1_ := Aside0.mk (below_step au18 hb);clear BK101;clear HB;have BK101 := n0_;have HB := n1_;clear n0_ n1_;(try clear hb);(try clear hb2);(try clear hk);(try clear hi);have hcz10_0 : w9.cell? ⟨gb101,0,none⟩ = some (.int .i32 0) := (blk_cell BK101.out 0).trans rfl;have hcz10_1 : w9.cell? ⟨gb101,1,none⟩ = some (.int .i64 0) := (blk_cell BK101.out 1).trans rfl;have hfz10_0 := blk_frozen BK101.out 0;have hfz10_1 := blk_frozen BK101.out 1))
   refine bodyPost_ret (results_cell_row rfl _ _ gb101 87 #[.int .i32 t102,.int .i64 t103] (0,0) _ rfl au26 Tryd.underlying87 rfl (by kernel_rfl)) rfl ?_
   exact ⟨au2,by repeat (first | (with_reducible first | exact HB.out | apply below_alloc | apply pw_below_drewN | apply below_drew1 | refine below_set ?_ GE101.out) | exact HB.out)⟩
 ·rw [if_neg c3] at H
  have c3b0 : (t102 == 65533) = false := beq_eq_false_iff_ne.mpr c3
  have c3b1 : (t102 != 65533) = true := bne_iff_ne.mpr c3
  simp only [Option.some.injEq,Prod.mk.injEq] at H
  obtain ⟨rfl,rfl⟩ := H
  go_enter Tryd.func75,Tryd.ntmps75
  go_wp2_with (first | ((with_reducible refine gate_dst (N := 2) rfl ?_);refine box_event ?hg (N := 2) ?hd (cs := #[.int .i32 0,.int .i64 0]) (t := 87) ?hr ?_;(case hd => rfl);(case hg => rfl);(case hr => first | (go_simp;done) | (go_simp;rfl));intro gb101 hg w11 hbox hb;have n0_ := Aside0.mk (below_step au0 hb);have n1_ := Aside0.mk (hbox);have n2_ := Aside0.mk ((by rw [hg];exact (below_size au0) : w.heap.size ≤ gb101));have n3_ := Aside0.mk ((by rw [hg];exact (below_size au0) : w.heap.size ≤ gb101));clear HB;have HB := n0_;have BK101 := n1_;have GW101 := n2_;have GE101 := n3_;clear n0_ n1_ n2_ n3_;clear hb hbox hg) | ((with_reducible refine gate_callee (f := 56) rfl ?_);refine goesL_ (some 7) rfl rfl Tryd.func56 (by kernel_rfl) rfl #[.string a0] rfl au1 ?_;(with_reducible refine (utf8_DecodeRuneInString.calls a0 t102 t103 _ ?side1 A2.out).mono ?_);(case side1 => exact tabs_below HT.out au18);rintro e w12 ⟨rfl,hb⟩;refine ⟨_,rfl,?_⟩;have n0_ := Aside0.mk (blk_below (g := gb101) (o := .cells #[.int .i32 0,.int .i64 0] 87 (0,0)) (by (with_reducible repeat (first | refine blk_drewN ?_ _ | refine blk_drew ?_ | refine blk_alloc ?_ _));exact BK101.out) hb);have n1_ := Aside0.mk (below_step au18 hb);clear BK101;clear HB;have BK101 := n0_;have HB := n1_;clear n0_ n1_;(try clear hb);(try clear hb2);(try clear hk);(try clear hi);have hcz13_0 : w12.cell? ⟨gb101,0,none⟩ = some (.int .i32 0) := (blk_cell BK101.out 0).trans rfl;have hcz13_1 : w12.cell? ⟨gb101,1,none⟩ = some (.int .i64 0) := (blk_cell BK101.out 1).trans rfl;have hfz13_0 := blk_frozen BK101.out 0;have hfz13_1 := blk_frozen BK101.out 1))
  refine bodyPost_ret (results_cell_row rfl _ _ gb101 87 #[.int .i32 t102,.int .i64 t103] (0,0) _ rfl au26 Tryd.underlying87 rfl (by kernel_rfl)) rfl ?_
  exact ⟨au2,by repeat (first | (with_reducible first | exact HB.out | apply below_alloc | apply pw_below_drewN | apply below_drew1 | refine below_set ?_ GE101.out) | exact HB.out)⟩
def unit_around.l0 : Nat → ByteArray → Int → Int → Option (Int × Int)
 | 0,_,_,_ => none
 | k + 1,x0,x1,x6 => if x6 < x1 then (if 0 ≤ x6 then (if x6 ≤ (x0.size : Int) then ((unit_first.f (x0.extract (x6 : Int).toNat x0.size)).bind fun bt104 => (if (wrap64 (x6 + bt104.2)) > x1 then (some (x6,wrap64 (x6 + bt104.2))) else (unit_around.l0 k x0 x1 (wrap64 (x6 + 1))))) else (none)) else (none)) else (if x1 = (x0.size : Int) then (some (x1,x1)) else (if 0 ≤ x1 then (if x1 ≤ (x0.size : Int) then ((unit_first.f (x0.extract (x1 : Int).toNat x0.size)).bind fun bt107 => (some (x1,wrap64 (x1 + bt107.2)))) else (none)) else (none)))
def unit_around.f (k : Nat) (a0 : ByteArray) (a1 : Int) : Option (Int × Int) := unit_around.l0 k a0 a1 (mx 0 (wrap64 (a1 - 3)))
theorem unit_around.mono_l : ∀ k,(∀ y0 y1 y2,LeO (unit_around.l0 k y0 y1 y2) (unit_around.l0 (k + 1) y0 y1 y2))
 | 0 => fun _ _ _ r h => by simp [unit_around.l0] at h
 | k + 1 => by
  have ih0 := unit_around.mono_l k
  ·intro y0 y1 y2
   unfold unit_around.l0
   repeat' first
   | (with_reducible exact ih0 _ _ _)
   | (with_reducible exact LeO.refl _)
   | (with_reducible exact LeO.none _)
   | (with_reducible refine LeO.ite ?_ ?_)
   | (with_reducible refine LeO.bind ?_ (fun _ => ?_))
   | exact ih0 _ _ _
   | exact LeO.none _
   | refine LeO.ite ?_ ?_
   | refine LeO.bind ?_ (fun _ => ?_)
theorem unit_around.mono : ∀ a0 a1 k,LeO (unit_around.f k a0 a1) (unit_around.f (k + 1) a0 a1) := by
 intro a0 a1 k
 have ih0 := unit_around.mono_l k
 unfold unit_around.f
 repeat' first
   | (with_reducible exact ih0 _ _ _)
   | (with_reducible exact LeO.refl _)
   | (with_reducible exact LeO.none _)
   | (with_reducible refine LeO.ite ?_ ?_)
   | (with_reducible refine LeO.bind ?_ (fun _ => ?_))
   | exact ih0 _ _ _
   | exact LeO.none _
   | refine LeO.ite ?_ ?_
   | refine LeO.bind ?_ (fun _ => ?_)
set_option maxHeartbeats 8000000 in
set_option maxRecDepth 100000 in
theorem unit_around.calls (k : Nat) (a0 : ByteArray) (a1 : Int) (r1 : Int) (r2 : Int) (w : World) (hT : Lib.Utf8Tabs 0 1 w) (h : unit_around.f k a0 a1 = some (r1,r2)) :
  Calls Tryd.prog 59 #[.string a0,.int .i64 a1] w fun e w' => e = .returned (.tuple #[.int .i64 r1,.int .i64 r2]) ∧ Below w.heap.size w w' := by
 have hu87 := Tryd.underlying87
 have hfd87_1 : ∀ (x0 x1 : Value) (W : World),(Instr.field 87 (.agg #[x0,x1]) 1).run Tryd.prog W = .ok (x1) W := fun _ _ _ => by kernel_rfl
 have HT := Aside0.mk hT
 clear hT
 have HB := Aside0.mk (Below.refl w.heap.size w)
 have H : (unit_around.l0 k a0 a1 (mx 0 (wrap64 (a1 - 3)))) = some (r1,r2) := h
 clear h
 obtain ⟨ji3,hji3⟩ : ∃ j_ : Int,(mx 0 (wrap64 (a1 - 3))) = j_ := ⟨_,rfl⟩
 replace H : (unit_around.l0 k a0 a1 ji3) = some (r1,r2) := by first | (rw [hji3] at H;exact H) | (simp only [hji3] at H ⊢;exact H)
 (try (have hji3l : 0 ≤ ji3 := by (rw [← hji3];unfold mx;(repeat' split) <;> omega)))
 (try (have hji3m : 0 ≤ ji3 := by omega))
 have hji3_ : (if 0 < (wrap64 (a1 - 3)) then (wrap64 (a1 - 3)) else 0) = ji3 := hji3
 have H' := Aside0.mk H
 clear H
 go_enter Tryd.func59,Tryd.ntmps59
 go_wp2
 repeat (go_quiet (fail);try go_wp2)
 go_loopg [6] k (fun kq v6 w' => ∃ (x6_1 : Int),v6 = .int .i64 x6_1 ∧ Aside0 (unit_around.l0 kq a0 a1 x6_1 = some (r1,r2)) ∧ Aside0 (kq ≤ k) ∧ Aside0 (Below w.heap.size w w'))
 case atStart => exact ⟨(ji3),(by first | rfl | (simp;done) | (simp only [← hji3] <;> (first | rfl | simp)) | (simp [*];done)),H',⟨Nat.le_refl _⟩,⟨au0⟩⟩
 case round =>
  clear H'
  try clear p2
  obtain ⟨x6_1,rfl,HA,HK1,HB⟩ := hrel
  cases gk with
  | zero => exact absurd HA.out (by simp [unit_around.l0])
  | succ k1 =>
   have H := HA.out
   clear HA
   simp only [unit_around.l0] at H
   by_cases c4 : x6_1 < a1
   ·rw [if_pos c4] at H
    have c4b0 : decide (x6_1 < a1) = true := decide_eq_true c4
    clear c4
    by_cases c5 : 0 ≤ x6_1
    ·rw [if_pos c5] at H
     have c5b0 := eq_true c5
     have c5b1 : decide (0 ≤ x6_1) = true := decide_eq_true c5
     clear c5
     by_cases c6 : x6_1 ≤ (a0.size : Int)
     ·rw [if_pos c6] at H
      have c6b0 := eq_true c6
      have c6b1 : decide (x6_1 ≤ (a0.size : Int)) = true := decide_eq_true c6
      clear c6
      replace H := Option.bind_eq_some_iff.mp H
      obtain ⟨⟨t104,t105⟩,A70,H⟩ := H
      replace H : (if (wrap64 (x6_1 + t105)) > a1 then (some (x6_1,wrap64 (x6_1 + t105))) else (unit_around.l0 k1 a0 a1 (wrap64 (x6_1 + 1)))) = some (r1,r2) := H
      have A7 := Aside0.mk A70
      clear A70
      by_cases c8 : (wrap64 (x6_1 + t105)) > a1
      ·rw [if_pos c8] at H
       have c8b0 : decide (a1 < (wrap64 (x6_1 + t105))) = true := decide_eq_true c8
       clear c8
       simp only [Option.some.injEq,Prod.mk.injEq] at H
       obtain ⟨rfl,rfl⟩ := H
       go_wp2_with (first | (go_at_call 75;(with_reducible refine (unit_first.calls (a0.extract (x6_1 : Int).toNat a0.size) t104 t105 _ ?side1 A7.out).mono ?_);(case side1 => exact tabs_below HT.out au0);rintro e w9 ⟨rfl,hb⟩;have n0_ := Aside0.mk (below_step au0 hb);clear HB;have HB := n0_;clear n0_;(try clear hb);(try clear hb2);(try clear hk);(try clear hi)) | ((with_reducible refine gate_dst (N := 7) rfl ?_);refine box_event ?hg (N := 7) ?hd (cs := #[.int .i32 0,.int .i64 0]) (t := 87) ?hr ?_;(case hd => rfl);(case hg => rfl);(case hr => first | (go_simp;done) | (go_simp;rfl));intro gb106 hg w10 hbox hb;have n0_ := Aside0.mk (below_step au0 hb);have n1_ := Aside0.mk (hbox);have n2_ := Aside0.mk ((by rw [hg];exact (below_size au0) : w.heap.size ≤ gb106));have n3_ := Aside0.mk ((by rw [hg];exact (below_size au0) : w.heap.size ≤ gb106));clear HB;have HB := n0_;have BK106 := n1_;have GW106 := n2_;have GE106 := n3_;clear n0_ n1_ n2_ n3_;clear hb hbox hg;have hcz11_0 : w10.cell? ⟨gb106,0,none⟩ = some (.int .i32 0) := (blk_cell BK106.out 0).trans rfl;have hcz11_1 : w10.cell? ⟨gb106,1,none⟩ = some (.int .i64 0) := (blk_cell BK106.out 1).trans rfl;have hfz11_0 := blk_frozen BK106.out 0;have hfz11_1 := blk_frozen BK106.out 1))
       repeat (go_quiet (first | (go_at_call 75;(with_reducible refine (unit_first.calls (a0.extract (x6_1 : Int).toNat a0.size) t104 t105 _ ?side1 A7.out).mono ?_);(case side1 => exact tabs_below HT.out au0);rintro e w9 ⟨rfl,hb⟩;have n0_ := Aside0.mk (below_step au0 hb);clear HB;have HB := n0_;clear n0_;(try clear hb);(try clear hb2);(try clear hk);(try clear hi)) | ((with_reducible refine gate_dst (N := 7) rfl ?_);refine box_event ?hg (N := 7) ?hd (cs := #[.int .i32 0,.int .i64 0]) (t := 87) ?hr ?_;(case hd => rfl);(case hg => rfl);(case hr => first | (go_simp;done) | (go_simp;rfl));intro gb106 hg w10 hbox hb;have n0_ := Aside0.mk (below_step au0 hb);have n1_ := Aside0.mk (hbox);have n2_ := Aside0.mk ((by rw [hg];exact (below_size au0) : w.heap.size ≤ gb106));have n3_ := Aside0.mk ((by rw [hg];exact (below_size au0) : w.heap.size ≤ gb106));clear HB;have HB := n0_;have BK106 := n1_;have GW106 := n2_;have GE106 := n3_;clear n0_ n1_ n2_ n3_;clear hb hbox hg;have hcz11_0 : w10.cell? ⟨gb106,0,none⟩ = some (.int .i32 0) := (blk_cell BK106.out 0).trans rfl;have hcz11_1 : w10.cell? ⟨gb106,1,none⟩ = some (.int .i64 0) := (blk_cell BK106.out 1).trans rfl;have hfz11_0 := blk_frozen BK106.out 0;have hfz11_1 := blk_frozen BK106.out 1));try go_wp2_with (first | (go_at_call 75;(with_reducible refine (unit_first.calls (a0.extract (x6_1 : Int).toNat a0.size) t104 t105 _ ?side1 A7.out).mono ?_);(case side1 => exact tabs_below HT.out au0);rintro e w9 ⟨rfl,hb⟩;have n0_ := Aside0.mk (below_step au0 hb);clear HB;have HB := n0_;clear n0_;(try clear hb);(try clear hb2);(try clear hk);(try clear hi)) | ((with_reducible refine gate_dst (N := 7) rfl ?_);refine box_event ?hg (N := 7) ?hd (cs := #[.int .i32 0,.int .i64 0]) (t := 87) ?hr ?_;(case hd => rfl);(case hg => rfl);(case hr => first | (go_simp;done) | (go_simp;rfl));intro gb106 hg w10 hbox hb;have n0_ := Aside0.mk (below_step au0 hb);have n1_ := Aside0.mk (hbox);have n2_ := Aside0.mk ((by rw [hg];exact (below_size au0) : w.heap.size ≤ gb106));have n3_ := Aside0.mk ((by rw [hg];exact (below_size au0) : w.heap.size ≤ gb106));clear HB;have HB := n0_;have BK106 := n1_;have GW106 := n2_;have GE106 := n3_;clear n0_ n1_ n2_ n3_;clear hb hbox hg;have hcz11_0 : w10.cell? ⟨gb106,0,none⟩ = some (.int .i32 0) := (blk_cell BK106.out 0).trans rfl;have hcz11_1 : w10.cell? ⟨gb106,1,none⟩ = some (.int .i64 0) := (blk_cell BK106.out 1).trans rfl;have hfz11_0 := blk_frozen BK106.out 0;have hfz11_1 := blk_frozen BK106.out 1)))
       go_ret2
       exact ⟨by first | rfl | (simp [errW_none,errW_some] <;> rfl) | (simp only [← hji3];first | rfl | (simp [errW_none,errW_some] <;> rfl)) | (simp [*,errW_none,errW_some] <;> rfl),by repeat (first | (with_reducible first | exact HB.out | apply below_alloc | apply pw_below_drewN | apply below_drew1 | refine below_set ?_ GE106.out) | exact HB.out)⟩
      ·rw [if_neg c8] at H
       have c8b0 : decide (a1 < (wrap64 (x6_1 + t105))) = false := decide_eq_false c8
       clear c8
       have H' := Aside0.mk H
       clear H
       go_wp2_with (first | (go_at_call 75;(with_reducible refine (unit_first.calls (a0.extract (x6_1 : Int).toNat a0.size) t104 t105 _ ?side1 A7.out).mono ?_);(case side1 => exact tabs_below HT.out au0);rintro e w12 ⟨rfl,hb⟩;have n0_ := Aside0.mk (below_step au0 hb);clear HB;have HB := n0_;clear n0_;(try clear hb);(try clear hb2);(try clear hk);(try clear hi)) | ((with_reducible refine gate_dst (N := 7) rfl ?_);refine box_event ?hg (N := 7) ?hd (cs := #[.int .i32 0,.int .i64 0]) (t := 87) ?hr ?_;(case hd => rfl);(case hg => rfl);(case hr => first | (go_simp;done) | (go_simp;rfl));intro gb106 hg w13 hbox hb;have n0_ := Aside0.mk (below_step au0 hb);have n1_ := Aside0.mk (hbox);have n2_ := Aside0.mk ((by rw [hg];exact (below_size au0) : w.heap.size ≤ gb106));have n3_ := Aside0.mk ((by rw [hg];exact (below_size au0) : w.heap.size ≤ gb106));clear HB;have HB := n0_;have BK106 := n1_;have GW106 := n2_;have GE106 := n3_;clear n0_ n1_ n2_ n3_;clear hb hbox hg;have hcz14_0 : w13.cell? ⟨gb106,0,none⟩ = some (.int .i32 0) := (blk_cell BK106.out 0).trans rfl;have hcz14_1 : w13.cell? ⟨gb106,1,none⟩ = some (.int .i64 0) := (blk_cell BK106.out 1).trans rfl;have hfz14_0 := blk_frozen BK106.out 0;have hfz14_1 := blk_frozen BK106.out 1))
       repeat (go_quiet (first | (go_at_call 75;(with_reducible refine (unit_first.calls (a0.extract (x6_1 : Int).toNat a0.size) t104 t105 _ ?side1 A7.out).mono ?_);(case side1 => exact tabs_below HT.out au0);rintro e w12 ⟨rfl,hb⟩;have n0_ := Aside0.mk (below_step au0 hb);clear HB;have HB := n0_;clear n0_;(try clear hb);(try clear hb2);(try clear hk);(try clear hi)) | ((with_reducible refine gate_dst (N := 7) rfl ?_);refine box_event ?hg (N := 7) ?hd (cs := #[.int .i32 0,.int .i64 0]) (t := 87) ?hr ?_;(case hd => rfl);(case hg => rfl);(case hr => first | (go_simp;done) | (go_simp;rfl));intro gb106 hg w13 hbox hb;have n0_ := Aside0.mk (below_step au0 hb);have n1_ := Aside0.mk (hbox);have n2_ := Aside0.mk ((by rw [hg];exact (below_size au0) : w.heap.size ≤ gb106));have n3_ := Aside0.mk ((by rw [hg];exact (below_size au0) : w.heap.size ≤ gb106));clear HB;have HB := n0_;have BK106 := n1_;have GW106 := n2_;have GE106 := n3_;clear n0_ n1_ n2_ n3_;clear hb hbox hg;have hcz14_0 : w13.cell? ⟨gb106,0,none⟩ = some (.int .i32 0) := (blk_cell BK106.out 0).trans rfl;have hcz14_1 : w13.cell? ⟨gb106,1,none⟩ = some (.int .i64 0) := (blk_cell BK106.out 1).trans rfl;have hfz14_0 := blk_frozen BK106.out 0;have hfz14_1 := blk_frozen BK106.out 1));try go_wp2_with (first | (go_at_call 75;(with_reducible refine (unit_first.calls (a0.extract (x6_1 : Int).toNat a0.size) t104 t105 _ ?side1 A7.out).mono ?_);(case side1 => exact tabs_below HT.out au0);rintro e w12 ⟨rfl,hb⟩;have n0_ := Aside0.mk (below_step au0 hb);clear HB;have HB := n0_;clear n0_;(try clear hb);(try clear hb2);(try clear hk);(try clear hi)) | ((with_reducible refine gate_dst (N := 7) rfl ?_);refine box_event ?hg (N := 7) ?hd (cs := #[.int .i32 0,.int .i64 0]) (t := 87) ?hr ?_;(case hd => rfl);(case hg => rfl);(case hr => first | (go_simp;done) | (go_simp;rfl));intro gb106 hg w13 hbox hb;have n0_ := Aside0.mk (below_step au0 hb);have n1_ := Aside0.mk (hbox);have n2_ := Aside0.mk ((by rw [hg];exact (below_size au0) : w.heap.size ≤ gb106));have n3_ := Aside0.mk ((by rw [hg];exact (below_size au0) : w.heap.size ≤ gb106));clear HB;have HB := n0_;have BK106 := n1_;have GW106 := n2_;have GE106 := n3_;clear n0_ n1_ n2_ n3_;clear hb hbox hg;have hcz14_0 : w13.cell? ⟨gb106,0,none⟩ = some (.int .i32 0) := (blk_cell BK106.out 0).trans rfl;have hcz14_1 : w13.cell? ⟨gb106,1,none⟩ = some (.int .i64 0) := (blk_cell BK106.out 1).trans rfl;have hfz14_0 := blk_frozen BK106.out 0;have hfz14_1 := blk_frozen BK106.out 1)))
       go_roundg k1
       case measure => have := HK1.out;omega
       case rel => exact ⟨(wrap64 (x6_1 + 1)),au15,H',⟨by have := HK1.out;omega⟩,⟨by repeat (first | (with_reducible first | exact HB.out | apply below_alloc | apply pw_below_drewN | apply below_drew1 | refine below_set ?_ GE106.out) | exact HB.out)⟩⟩
     ·rw [if_neg c6] at H
      exact absurd H (by simp)
    ·rw [if_neg c5] at H
     exact absurd H (by simp)
   ·rw [if_neg c4] at H
    have c4b0 : decide (x6_1 < a1) = false := decide_eq_false c4
    clear c4
    by_cases c15 : a1 = (a0.size : Int)
    ·rw [if_pos c15] at H
     have c15b0 : (a1 == (a0.size : Int)) = true := beq_iff_eq.mpr c15
     have c15b1 : (a1 != (a0.size : Int)) = false := bne_eq_false_iff_eq.mpr c15
     clear c15
     simp only [Option.some.injEq,Prod.mk.injEq] at H
     obtain ⟨rfl,rfl⟩ := H
     go_wp2
     repeat (go_quiet (fail);try go_wp2)
     go_ret2
     exact ⟨by first | rfl | (simp [errW_none,errW_some] <;> rfl) | (simp only [← hji3];first | rfl | (simp [errW_none,errW_some] <;> rfl)) | (simp [*,errW_none,errW_some] <;> rfl),au0⟩
    ·rw [if_neg c15] at H
     have c15b0 : (a1 == (a0.size : Int)) = false := beq_eq_false_iff_ne.mpr c15
     have c15b1 : (a1 != (a0.size : Int)) = true := bne_iff_ne.mpr c15
     by_cases c16 : 0 ≤ a1
     ·rw [if_pos c16] at H
      have c16b0 := eq_true c16
      have c16b1 : decide (0 ≤ a1) = true := decide_eq_true c16
      clear c16
      by_cases c17 : a1 ≤ (a0.size : Int)
      ·rw [if_pos c17] at H
       have c17b0 := eq_true c17
       have c17b1 : decide (a1 ≤ (a0.size : Int)) = true := decide_eq_true c17
       clear c17
       replace H := Option.bind_eq_some_iff.mp H
       obtain ⟨⟨t107,t108⟩,A180,H⟩ := H
       replace H : (some (a1,wrap64 (a1 + t108))) = some (r1,r2) := H
       have A18 := Aside0.mk A180
       clear A180
       simp only [Option.some.injEq,Prod.mk.injEq] at H
       obtain ⟨rfl,rfl⟩ := H
       go_wp2_with (first | (go_at_call 75;(with_reducible refine (unit_first.calls (a0.extract (a1 : Int).toNat a0.size) t107 t108 _ ?side1 A18.out).mono ?_);(case side1 => exact tabs_below HT.out au0);rintro e w19 ⟨rfl,hb⟩;have n0_ := Aside0.mk (below_step au0 hb);clear HB;have HB := n0_;clear n0_;(try clear hb);(try clear hb2);(try clear hk);(try clear hi)))
       repeat (go_quiet (first | (go_at_call 75;(with_reducible refine (unit_first.calls (a0.extract (a1 : Int).toNat a0.size) t107 t108 _ ?side1 A18.out).mono ?_);(case side1 => exact tabs_below HT.out au0);rintro e w19 ⟨rfl,hb⟩;have n0_ := Aside0.mk (below_step au0 hb);clear HB;have HB := n0_;clear n0_;(try clear hb);(try clear hb2);(try clear hk);(try clear hi)));try go_wp2_with (first | (go_at_call 75;(with_reducible refine (unit_first.calls (a0.extract (a1 : Int).toNat a0.size) t107 t108 _ ?side1 A18.out).mono ?_);(case side1 => exact tabs_below HT.out au0);rintro e w19 ⟨rfl,hb⟩;have n0_ := Aside0.mk (below_step au0 hb);clear HB;have HB := n0_;clear n0_;(try clear hb);(try clear hb2);(try clear hk);(try clear hi))))
       go_ret2
       exact ⟨by first | rfl | (simp [errW_none,errW_some] <;> rfl) | (simp only [← hji3];first | rfl | (simp [errW_none,errW_some] <;> rfl)) | (simp [*,errW_none,errW_some] <;> rfl),au0⟩
      ·rw [if_neg c17] at H
       exact absurd H (by simp)
     ·rw [if_neg c16] at H
      exact absurd H (by simp)
def unit_Next.f (k : Nat) (a0 : ByteArray) (a1 : Int) : Option (Int) := if a1 < 0 then (some 0) else ((unit_around.f k a0 (mn a1 (a0.size : Int))).bind fun bt109 => (some bt109.2))
theorem unit_Next.mono : ∀ a0 a1 k,LeO (unit_Next.f k a0 a1) (unit_Next.f (k + 1) a0 a1) := by
 intro a0 a1 k
 unfold unit_Next.f
 repeat' first
   | (with_reducible exact unit_around.mono _ _ _)
   | (with_reducible exact LeO.refl _)
   | (with_reducible exact LeO.none _)
   | (with_reducible refine LeO.ite ?_ ?_)
   | (with_reducible refine LeO.bind ?_ (fun _ => ?_))
   | exact unit_around.mono _ _ _
   | exact LeO.none _
   | refine LeO.ite ?_ ?_
   | refine LeO.bind ?_ (fun _ => ?_)
set_option maxHeartbeats 8000000 in
set_option maxRecDepth 100000 in
theorem unit_Next.calls (k : Nat) (a0 : ByteArray) (a1 : Int) (r : Int) (w : World) (hT : Lib.Utf8Tabs 0 1 w) (h : unit_Next.f k a0 a1 = some r) :
  Calls Tryd.prog 39 #[.string a0,.int .i64 a1] w fun e w' => e = .returned (.int .i64 r) ∧ Below w.heap.size w w' := by
 have HT := Aside0.mk hT
 clear hT
 have HB := Aside0.mk (Below.refl w.heap.size w)
 have H : (if a1 < 0 then (some 0) else ((unit_around.f k a0 (mn a1 (a0.size : Int))).bind fun bt109 => (some bt109.2))) = some r := h
 clear h
 by_cases c3 : a1 < 0
 ·rw [if_pos c3] at H
  have c3b0 : decide (a1 < 0) = true := decide_eq_true c3
  clear c3
  obtain rfl := Option.some.inj H
  go_enter Tryd.func39,Tryd.ntmps39
  go_wp2
  go_ret
  exact ⟨au2,au0⟩
 ·rw [if_neg c3] at H
  have c3b0 : decide (a1 < 0) = false := decide_eq_false c3
  clear c3
  obtain ⟨ji4,hji4⟩ : ∃ j_ : Int,(mn a1 (a0.size : Int)) = j_ := ⟨_,rfl⟩
  replace H : ((unit_around.f k a0 (ji4)).bind fun bt109 => (some bt109.2)) = some r := by first | (rw [hji4] at H;exact H) | (simp only [hji4] at H ⊢;exact H)
  have hji4_ : (if (a0.size : Int) < a1 then (a0.size : Int) else a1) = ji4 := hji4
  replace H := Option.bind_eq_some_iff.mp H
  obtain ⟨⟨t109,t110⟩,A50,H⟩ := H
  replace H : (some t110) = some r := H
  have A5 := Aside0.mk A50
  clear A50
  obtain rfl := Option.some.inj H
  go_enter Tryd.func39,Tryd.ntmps39
  go_wp2_with (first | ((with_reducible refine gate_callee (f := 59) rfl ?_);refine goesL_ (some 15) rfl rfl Tryd.func59 (by kernel_rfl) rfl #[.string a0,.int .i64 ji4] rfl (by (try simp only [List.map_toArray,List.map_cons,List.map_nil]);first | done | (simp only [hji4];rfl) | rfl | (simp only [List.length_drop,List.length_take];rfl)) ?_;(with_reducible refine (unit_around.calls k a0 ji4 t109 t110 _ ?side1 A5.out).mono ?_);(case side1 => exact tabs_below HT.out au0);rintro e w6 ⟨rfl,hb⟩;refine ⟨_,rfl,?_⟩;have n0_ := Aside0.mk (below_step au0 hb);clear HB;have HB := n0_;clear n0_;(try clear hb);(try clear hb2);(try clear hk);(try clear hi)))
  go_ret
  exact ⟨by first | rfl | (simp [errW_none,errW_some] <;> rfl) | (simp only [← hji4];first | rfl | (simp [errW_none,errW_some] <;> rfl)) | (simp [*,errW_none,errW_some] <;> rfl),au0⟩
def unit_Boundary.f (k : Nat) (a0 : ByteArray) (a1 : Int) : Option (Bool) := if a1 < 0 then (some false) else (if a1 > (a0.size : Int) then (some false) else ((unit_around.f k a0 a1).bind fun bt111 => (some (bt111.1 == a1))))
theorem unit_Boundary.mono : ∀ a0 a1 k,LeO (unit_Boundary.f k a0 a1) (unit_Boundary.f (k + 1) a0 a1) := by
 intro a0 a1 k
 unfold unit_Boundary.f
 repeat' first
   | (with_reducible exact unit_around.mono _ _ _)
   | (with_reducible exact LeO.refl _)
   | (with_reducible exact LeO.none _)
   | (with_reducible refine LeO.ite ?_ ?_)
   | (with_reducible refine LeO.bind ?_ (fun _ => ?_))
   | exact unit_around.mono _ _ _
   | exact LeO.none _
   | refine LeO.ite ?_ ?_
   | refine LeO.bind ?_ (fun _ => ?_)
set_option maxHeartbeats 8000000 in
set_option maxRecDepth 100000 in
theorem unit_Boundary.calls (k : Nat) (a0 : ByteArray) (a1 : Int) (r : Bool) (w : World) (hT : Lib.Utf8Tabs 0 1 w) (h : unit_Boundary.f k a0 a1 = some r) :
  Calls Tryd.prog 60 #[.string a0,.int .i64 a1] w fun e w' => e = .returned (.bool r) ∧ Below w.heap.size w w' := by
 have HT := Aside0.mk hT
 clear hT
 have HB := Aside0.mk (Below.refl w.heap.size w)
 have H : (if a1 < 0 then (some false) else (if a1 > (a0.size : Int) then (some false) else ((unit_around.f k a0 a1).bind fun bt111 => (some (bt111.1 == a1))))) = some r := h
 clear h
 by_cases c3 : a1 < 0
 ·rw [if_pos c3] at H
  have c3b0 : decide (a1 < 0) = true := decide_eq_true c3
  clear c3
  obtain rfl := Option.some.inj H
  go_enter Tryd.func60,Tryd.ntmps60
  go_wp2
  go_ret
  exact ⟨au2,au0⟩
 ·rw [if_neg c3] at H
  have c3b0 : decide (a1 < 0) = false := decide_eq_false c3
  clear c3
  by_cases c4 : a1 > (a0.size : Int)
  ·rw [if_pos c4] at H
   have c4b0 : decide ((a0.size : Int) < a1) = true := decide_eq_true c4
   clear c4
   obtain rfl := Option.some.inj H
   go_enter Tryd.func60,Tryd.ntmps60
   go_wp2
   go_ret
   exact ⟨au2,au0⟩
  ·rw [if_neg c4] at H
   have c4b0 : decide ((a0.size : Int) < a1) = false := decide_eq_false c4
   clear c4
   replace H := Option.bind_eq_some_iff.mp H
   obtain ⟨⟨t111,t112⟩,A50,H⟩ := H
   replace H : (some (t111 == a1)) = some r := H
   have A5 := Aside0.mk A50
   clear A50
   obtain rfl := Option.some.inj H
   go_enter Tryd.func60,Tryd.ntmps60
   go_wp2_with (first | ((with_reducible refine gate_callee (f := 59) rfl ?_);refine goesL_ (some 18) rfl rfl Tryd.func59 (by kernel_rfl) rfl #[.string a0,.int .i64 a1] rfl au1 ?_;(with_reducible refine (unit_around.calls k a0 a1 t111 t112 _ ?side1 A5.out).mono ?_);(case side1 => exact tabs_below HT.out au0);rintro e w6 ⟨rfl,hb⟩;refine ⟨_,rfl,?_⟩;have n0_ := Aside0.mk (below_step au0 hb);clear HB;have HB := n0_;clear n0_;(try clear hb);(try clear hb2);(try clear hk);(try clear hi)))
   go_ret
   exact ⟨au2,au0⟩
def unit_Down.f (k : Nat) (a0 : ByteArray) (a1 : Int) : Option (Int) := (unit_around.f k a0 (mn (mx a1 0) (a0.size : Int))).bind fun bt117 => (some bt117.1)
theorem unit_Down.mono : ∀ a0 a1 k,LeO (unit_Down.f k a0 a1) (unit_Down.f (k + 1) a0 a1) := by
 intro a0 a1 k
 unfold unit_Down.f
 repeat' first
   | (with_reducible exact unit_around.mono _ _ _)
   | (with_reducible exact LeO.refl _)
   | (with_reducible exact LeO.none _)
   | (with_reducible refine LeO.ite ?_ ?_)
   | (with_reducible refine LeO.bind ?_ (fun _ => ?_))
   | exact unit_around.mono _ _ _
   | exact LeO.none _
   | refine LeO.ite ?_ ?_
   | refine LeO.bind ?_ (fun _ => ?_)
set_option maxHeartbeats 8000000 in
set_option maxRecDepth 100000 in
theorem unit_Down.calls (k : Nat) (a0 : ByteArray) (a1 : Int) (r : Int) (w : World) (hT : Lib.Utf8Tabs 0 1 w) (h : unit_Down.f k a0 a1 = some r) :
  Calls Tryd.prog 76 #[.string a0,.int .i64 a1] w fun e w' => e = .returned (.int .i64 r) ∧ Below w.heap.size w w' := by
 have HT := Aside0.mk hT
 clear hT
 have HB := Aside0.mk (Below.refl w.heap.size w)
 have H : ((unit_around.f k a0 (mn (mx a1 0) (a0.size : Int))).bind fun bt117 => (some bt117.1)) = some r := h
 clear h
 obtain ⟨ji3,hji3⟩ : ∃ j_ : Int,(mx a1 0) = j_ := ⟨_,rfl⟩
 replace H : ((unit_around.f k a0 (mn (ji3) (a0.size : Int))).bind fun bt117 => (some bt117.1)) = some r := by first | (rw [hji3] at H;exact H) | (simp only [hji3] at H ⊢;exact H)
 (try (have hji3l : 0 ≤ ji3 := by (rw [← hji3];unfold mx;(repeat' split) <;> omega)))
 (try (have hji3m : 0 ≤ ji3 := by omega))
 have hji3_ : (if a1 < 0 then 0 else a1) = ji3 := hji3
 obtain ⟨ji4,hji4⟩ : ∃ j_ : Int,(mn (ji3) (a0.size : Int)) = j_ := ⟨_,rfl⟩
 replace H : ((unit_around.f k a0 (ji4)).bind fun bt117 => (some bt117.1)) = some r := by first | (rw [hji4] at H;exact H) | (simp only [hji4] at H ⊢;exact H)
 have hji4_ : (if (a0.size : Int) < (ji3) then (a0.size : Int) else (ji3)) = ji4 := hji4
 replace H := Option.bind_eq_some_iff.mp H
 obtain ⟨⟨t117,t118⟩,A50,H⟩ := H
 replace H : (some t117) = some r := H
 have A5 := Aside0.mk A50
 clear A50
 obtain rfl := Option.some.inj H
 go_enter Tryd.func76,Tryd.ntmps76
 go_wp2_with (first | ((with_reducible refine gate_callee (f := 59) rfl ?_);refine goesL_ (some 14) rfl rfl Tryd.func59 (by kernel_rfl) rfl #[.string a0,.int .i64 ji4] rfl (by (try simp only [List.map_toArray,List.map_cons,List.map_nil]);first | done | (simp only [hji4];rfl) | rfl | (simp only [List.length_drop,List.length_take];rfl)) ?_;(with_reducible refine (unit_around.calls k a0 ji4 t117 t118 _ ?side1 A5.out).mono ?_);(case side1 => exact tabs_below HT.out au0);rintro e w6 ⟨rfl,hb⟩;refine ⟨_,rfl,?_⟩;have n0_ := Aside0.mk (below_step au0 hb);clear HB;have HB := n0_;clear n0_;(try clear hb);(try clear hb2);(try clear hk);(try clear hi)))
 go_ret
 exact ⟨by first | rfl | (simp [errW_none,errW_some] <;> rfl) | (simp only [← hji3,← hji4];first | rfl | (simp [errW_none,errW_some] <;> rfl)) | (simp [*,errW_none,errW_some] <;> rfl),au0⟩
end Go.Proofs.YtnpjaaldppemlaaDoor.U
end
section
namespace Go.Proofs.YtnpjaaldppemlaaDoor.U
open Go.RowKit Go.Proofs.YtnpjaaldppemlaaDoorW.PrintWords Go.Proofs.YtnpjaaldppemlaaDoorW.PrintLast Go.Proofs.YtnpjaaldppemlaaDoorW.PrintMore
attribute [local go_sem] max2_int min2_int max_two min_two max_three min_three max_four min_four   -- for this text's walks alone
set_option linter.unusedVariables false
set_option linter.unusedSimpArgs false
def unit_At.f (k : Nat) (a0 : ByteArray) (a1 : Int) : Option (Int × Int × Bool) := if a1 < 0 then (some (0,0,false)) else (if a1 ≥ (a0.size : Int) then (some (0,0,false)) else ((unit_Boundary.f k a0 a1).bind fun t114 => (if t114 = true then (if 0 ≤ a1 then (if a1 ≤ (a0.size : Int) then ((unit_first.f (a0.extract (a1 : Int).toNat a0.size)).bind fun bt115 => (some (bt115.1,bt115.2,true))) else (none)) else (none)) else (some (0,0,false)))))
theorem unit_At.mono : ∀ a0 a1 k,LeO (unit_At.f k a0 a1) (unit_At.f (k + 1) a0 a1) := by
 intro a0 a1 k
 unfold unit_At.f
 repeat' first
   | (with_reducible exact unit_Boundary.mono _ _ _)
   | (with_reducible exact LeO.refl _)
   | (with_reducible exact LeO.none _)
   | (with_reducible refine LeO.ite ?_ ?_)
   | (with_reducible refine LeO.bind ?_ (fun _ => ?_))
   | exact unit_Boundary.mono _ _ _
   | exact LeO.none _
   | refine LeO.ite ?_ ?_
   | refine LeO.bind ?_ (fun _ => ?_)
set_option maxHeartbeats 8000000 in
set_option maxRecDepth 100000 in
theorem unit_At.calls (k : Nat) (a0 : ByteArray) (a1 : Int) (r1 : Int) (r2 : Int) (r3 : Bool) (w : World) (hT : Lib.Utf8Tabs 0 1 w) (h : unit_At.f k a0 a1 = some (r1,r2,r3)) :
  Calls Tryd.prog 61 #[.string a0,.int .i64 a1] w fun e w' => e = .returned (.tuple #[.agg #[.int .i32 r1,.int .i64 r2],.bool r3]) ∧ Below w.heap.size w w' := by
 have hu87 := Tryd.underlying87
 have HT := Aside0.mk hT
 clear hT
 have HB := Aside0.mk (Below.refl w.heap.size w)
 have H : (if a1 < 0 then (some (0,0,false)) else (if a1 ≥ (a0.size : Int) then (some (0,0,false)) else ((unit_Boundary.f k a0 a1).bind fun t114 => (if t114 = true then (if 0 ≤ a1 then (if a1 ≤ (a0.size : Int) then ((unit_first.f (a0.extract (a1 : Int).toNat a0.size)).bind fun bt115 => (some (bt115.1,bt115.2,true))) else (none)) else (none)) else (some (0,0,false)))))) = some (r1,r2,r3) := h
 clear h
 by_cases c3 : a1 < 0
 ·rw [if_pos c3] at H
  have c3b0 : decide (a1 < 0) = true := decide_eq_true c3
  clear c3
  simp only [Option.some.injEq,Prod.mk.injEq] at H
  obtain ⟨rfl,rfl,rfl⟩ := H
  go_enter Tryd.func61,Tryd.ntmps61
  go_wp2_with (first | ((with_reducible refine gate_dst (N := 4) rfl ?_);(try (refine gate_guard (by rfl) ?_;dsimp only));refine box_event ?hg (N := 4) ?hd (cs := #[.int .i32 0,.int .i64 0]) (t := 87) ?hr ?_;(case hd => rfl);(case hg => rfl);(case hr => first | (go_simp;done) | (go_simp;rfl));intro gb113 hg w4 hbox hb;have n0_ := Aside0.mk (below_step au0 hb);have n1_ := Aside0.mk (hbox);have n2_ := Aside0.mk ((by rw [hg];exact (below_size au0) : w.heap.size ≤ gb113));have n3_ := Aside0.mk ((by rw [hg];exact (below_size au0) : w.heap.size ≤ gb113));clear HB;have HB := n0_;have BK113 := n1_;have GW113 := n2_;have GE113 := n3_;clear n0_ n1_ n2_ n3_;clear hb hbox hg;have hcz5_0 : w4.cell? ⟨gb113,0,none⟩ = some (.int .i32 0) := (blk_cell BK113.out 0).trans rfl;have hcz5_1 : w4.cell? ⟨gb113,1,none⟩ = some (.int .i64 0) := (blk_cell BK113.out 1).trans rfl;have hfz5_0 := blk_frozen BK113.out 0;have hfz5_1 := blk_frozen BK113.out 1))
  refine bodyPost_ret (results_ct rfl _ _ gb113 87 #[.int .i32 0,.int .i64 0] (0,0) _ rfl au16 Tryd.underlying87 rfl (by kernel_rfl)) rfl ?_
  exact ⟨au2,by repeat (first | (with_reducible first | exact HB.out | apply below_alloc | apply pw_below_drewN | apply below_drew1 | refine below_set ?_ GE113.out) | exact HB.out)⟩
 ·rw [if_neg c3] at H
  have c3b0 : decide (a1 < 0) = false := decide_eq_false c3
  clear c3
  by_cases c6 : a1 ≥ (a0.size : Int)
  ·rw [if_pos c6] at H
   have c6b0 : decide ((a0.size : Int) ≤ a1) = true := decide_eq_true c6
   clear c6
   simp only [Option.some.injEq,Prod.mk.injEq] at H
   obtain ⟨rfl,rfl,rfl⟩ := H
   go_enter Tryd.func61,Tryd.ntmps61
   go_wp2_with (first | ((with_reducible refine gate_dst (N := 4) rfl ?_);(try (refine gate_guard (by rfl) ?_;dsimp only));refine box_event ?hg (N := 4) ?hd (cs := #[.int .i32 0,.int .i64 0]) (t := 87) ?hr ?_;(case hd => rfl);(case hg => rfl);(case hr => first | (go_simp;done) | (go_simp;rfl));intro gb113 hg w7 hbox hb;have n0_ := Aside0.mk (below_step au0 hb);have n1_ := Aside0.mk (hbox);have n2_ := Aside0.mk ((by rw [hg];exact (below_size au0) : w.heap.size ≤ gb113));have n3_ := Aside0.mk ((by rw [hg];exact (below_size au0) : w.heap.size ≤ gb113));clear HB;have HB := n0_;have BK113 := n1_;have GW113 := n2_;have GE113 := n3_;clear n0_ n1_ n2_ n3_;clear hb hbox hg;have hcz8_0 : w7.cell? ⟨gb113,0,none⟩ = some (.int .i32 0) := (blk_cell BK113.out 0).trans rfl;have hcz8_1 : w7.cell? ⟨gb113,1,none⟩ = some (.int .i64 0) := (blk_cell BK113.out 1).trans rfl;have hfz8_0 := blk_frozen BK113.out 0;have hfz8_1 := blk_frozen BK113.out 1))
   refine bodyPost_ret (results_ct rfl _ _ gb113 87 #[.int .i32 0,.int .i64 0] (0,0) _ rfl au16 Tryd.underlying87 rfl (by kernel_rfl)) rfl ?_
   exact ⟨au2,by repeat (first | (with_reducible first | exact HB.out | apply below_alloc | apply pw_below_drewN | apply below_drew1 | refine below_set ?_ GE113.out) | exact HB.out)⟩
  ·rw [if_neg c6] at H
   have c6b0 : decide ((a0.size : Int) ≤ a1) = false := decide_eq_false c6
   clear c6
   replace H := Option.bind_eq_some_iff.mp H
   obtain ⟨t114,A90,H⟩ := H
   replace H : (if t114 = true then (if 0 ≤ a1 then (if a1 ≤ (a0.size : Int) then ((unit_first.f (a0.extract (a1 : Int).toNat a0.size)).bind fun bt115 => (some (bt115.1,bt115.2,true))) else (none)) else (none)) else (some (0,0,false))) = some (r1,r2,r3) := H
   have A9 := Aside0.mk A90
   clear A90
   by_cases c10 : t114 = true
   ·subst c10
    have H1 : (if 0 ≤ a1 then (if a1 ≤ (a0.size : Int) then ((unit_first.f (a0.extract (a1 : Int).toNat a0.size)).bind fun bt115 => (some (bt115.1,bt115.2,true))) else (none)) else (none)) = some (r1,r2,r3) := by rw [if_pos rfl] at H;exact H
    clear H
    have H := H1
    clear H1
    by_cases c11 : 0 ≤ a1
    ·rw [if_pos c11] at H
     have c11b0 := eq_true c11
     have c11b1 : decide (0 ≤ a1) = true := decide_eq_true c11
     clear c11
     by_cases c12 : a1 ≤ (a0.size : Int)
     ·rw [if_pos c12] at H
      have c12b0 := eq_true c12
      have c12b1 : decide (a1 ≤ (a0.size : Int)) = true := decide_eq_true c12
      clear c12
      replace H := Option.bind_eq_some_iff.mp H
      obtain ⟨⟨t115,t116⟩,A130,H⟩ := H
      replace H : (some (t115,t116,true)) = some (r1,r2,r3) := H
      have A13 := Aside0.mk A130
      clear A130
      simp only [Option.some.injEq,Prod.mk.injEq] at H
      obtain ⟨rfl,rfl,rfl⟩ := H
      go_enter Tryd.func61,Tryd.ntmps61
      go_wp2_with (first | ((with_reducible refine gate_dst (N := 4) rfl ?_);(try (refine gate_guard (by rfl) ?_;dsimp only));refine box_event ?hg (N := 4) ?hd (cs := #[.int .i32 0,.int .i64 0]) (t := 87) ?hr ?_;(case hd => rfl);(case hg => rfl);(case hr => first | (go_simp;done) | (go_simp;rfl));intro gb113 hg w14 hbox hb;have n0_ := Aside0.mk (below_step au0 hb);have n1_ := Aside0.mk (hbox);have n2_ := Aside0.mk ((by rw [hg];exact (below_size au0) : w.heap.size ≤ gb113));have n3_ := Aside0.mk ((by rw [hg];exact (below_size au0) : w.heap.size ≤ gb113));clear HB;have HB := n0_;have BK113 := n1_;have GW113 := n2_;have GE113 := n3_;clear n0_ n1_ n2_ n3_;clear hb hbox hg) | (go_at_call 60;(with_reducible refine (unit_Boundary.calls k a0 a1 true _ ?side1 A9.out).mono ?_);(case side1 => exact tabs_below HT.out au19);rintro e w15 ⟨rfl,hb⟩;have n0_ := Aside0.mk (blk_below (g := gb113) (o := .cells #[.int .i32 0,.int .i64 0] 87 (0,0)) (by (with_reducible repeat (first | refine blk_drewN ?_ _ | refine blk_drew ?_ | refine blk_alloc ?_ _));exact BK113.out) hb);have n1_ := Aside0.mk (below_step au19 hb);clear BK113;clear HB;have BK113 := n0_;have HB := n1_;clear n0_ n1_;(try clear hb);(try clear hb2);(try clear hk);(try clear hi)) | ((with_reducible refine gate_callee (f := 75) rfl ?_);refine goesL_ (some 24) rfl rfl Tryd.func75 (by kernel_rfl) rfl #[.string (a0.extract (a1 : Int).toNat a0.size)] rfl au1 ?_;(with_reducible refine (unit_first.calls (a0.extract (a1 : Int).toNat a0.size) t115 t116 _ ?side1 A13.out).mono ?_);(case side1 => exact tabs_below HT.out au19);rintro e w16 ⟨rfl,hb⟩;refine ⟨_,rfl,?_⟩;have n0_ := Aside0.mk (blk_below (g := gb113) (o := .cells #[.int .i32 0,.int .i64 0] 87 (0,0)) (by (with_reducible repeat (first | refine blk_drewN ?_ _ | refine blk_drew ?_ | refine blk_alloc ?_ _));exact BK113.out) hb);have n1_ := Aside0.mk (below_step au19 hb);clear BK113;clear HB;have BK113 := n0_;have HB := n1_;clear n0_ n1_;(try clear hb);(try clear hb2);(try clear hk);(try clear hi);have hcz17_0 : w16.cell? ⟨gb113,0,none⟩ = some (.int .i32 0) := (blk_cell BK113.out 0).trans rfl;have hcz17_1 : w16.cell? ⟨gb113,1,none⟩ = some (.int .i64 0) := (blk_cell BK113.out 1).trans rfl;have hfz17_0 := blk_frozen BK113.out 0;have hfz17_1 := blk_frozen BK113.out 1))
      refine bodyPost_ret (results_ct rfl _ _ gb113 87 #[.int .i32 t115,.int .i64 t116] (0,0) _ rfl (by (with_reducible repeat (first | refine blk_drewN ?_ _ | refine blk_drew ?_ | refine blk_alloc ?_ _));refine blk_put (cs := #[.int .i32 t115,.int .i64 0]) ?_ 1 _ rfl;(with_reducible repeat (first | refine blk_drewN ?_ _ | refine blk_drew ?_ | refine blk_alloc ?_ _));refine blk_put (cs := #[.int .i32 0,.int .i64 0]) ?_ 0 _ rfl;(with_reducible repeat (first | refine blk_drewN ?_ _ | refine blk_drew ?_ | refine blk_alloc ?_ _));exact BK113.out) Tryd.underlying87 rfl (by kernel_rfl)) rfl ?_
      exact ⟨au2,by repeat (first | (with_reducible first | exact HB.out | apply below_alloc | apply pw_below_drewN | apply below_drew1 | refine below_set ?_ GE113.out) | exact HB.out)⟩
     ·rw [if_neg c12] at H
      exact absurd H (by simp)
    ·rw [if_neg c11] at H
     exact absurd H (by simp)
   ·replace c10 := Bool.eq_false_iff.mpr c10
    subst c10
    have H1 : (some (0,0,false)) = some (r1,r2,r3) := by rw [if_neg (show ¬ (false = true) by decide)] at H;exact H
    clear H
    have H := H1
    clear H1
    simp only [Option.some.injEq,Prod.mk.injEq] at H
    obtain ⟨rfl,rfl,rfl⟩ := H
    go_enter Tryd.func61,Tryd.ntmps61
    go_wp2_with (first | ((with_reducible refine gate_dst (N := 4) rfl ?_);(try (refine gate_guard (by rfl) ?_;dsimp only));refine box_event ?hg (N := 4) ?hd (cs := #[.int .i32 0,.int .i64 0]) (t := 87) ?hr ?_;(case hd => rfl);(case hg => rfl);(case hr => first | (go_simp;done) | (go_simp;rfl));intro gb113 hg w18 hbox hb;have n0_ := Aside0.mk (below_step au0 hb);have n1_ := Aside0.mk (hbox);have n2_ := Aside0.mk ((by rw [hg];exact (below_size au0) : w.heap.size ≤ gb113));have n3_ := Aside0.mk ((by rw [hg];exact (below_size au0) : w.heap.size ≤ gb113));clear HB;have HB := n0_;have BK113 := n1_;have GW113 := n2_;have GE113 := n3_;clear n0_ n1_ n2_ n3_;clear hb hbox hg) | (go_at_call 60;(with_reducible refine (unit_Boundary.calls k a0 a1 false _ ?side1 A9.out).mono ?_);(case side1 => exact tabs_below HT.out au19);rintro e w19 ⟨rfl,hb⟩;have n0_ := Aside0.mk (blk_below (g := gb113) (o := .cells #[.int .i32 0,.int .i64 0] 87 (0,0)) (by (with_reducible repeat (first | refine blk_drewN ?_ _ | refine blk_drew ?_ | refine blk_alloc ?_ _));exact BK113.out) hb);have n1_ := Aside0.mk (below_step au19 hb);clear BK113;clear HB;have BK113 := n0_;have HB := n1_;clear n0_ n1_;(try clear hb);(try clear hb2);(try clear hk);(try clear hi);have hcz20_0 : w19.cell? ⟨gb113,0,none⟩ = some (.int .i32 0) := (blk_cell BK113.out 0).trans rfl;have hcz20_1 : w19.cell? ⟨gb113,1,none⟩ = some (.int .i64 0) := (blk_cell BK113.out 1).trans rfl;have hfz20_0 := blk_frozen BK113.out 0;have hfz20_1 := blk_frozen BK113.out 1))
    refine bodyPost_ret (results_ct rfl _ _ gb113 87 #[.int .i32 0,.int .i64 0] (0,0) _ rfl au16 Tryd.underlying87 rfl (by kernel_rfl)) rfl ?_
    exact ⟨au2,by repeat (first | (with_reducible first | exact HB.out | apply below_alloc | apply pw_below_drewN | apply below_drew1 | refine below_set ?_ GE113.out) | exact HB.out)⟩
end Go.Proofs.YtnpjaaldppemlaaDoor.U
end
section
namespace Go.Proofs.YtnpjaaldppemlaaDoor.U
open Go.RowKit Go.Proofs.YtnpjaaldppemlaaDoorW.PrintWords Go.Proofs.YtnpjaaldppemlaaDoorW.PrintLast Go.Proofs.YtnpjaaldppemlaaDoorW.PrintMore
attribute [local go_sem] max2_int min2_int max_two min_two max_three min_three max_four min_four   -- for this text's walks alone
set_option linter.unusedVariables false
set_option linter.unusedSimpArgs false
def unit_Prev.f (k : Nat) (a0 : ByteArray) (a1 : Int) : Option (Int) := if a1 ≤ 0 then (some 0) else ((unit_Down.f k a0 (mn (wrap64 (a1 - 1)) (a0.size : Int))).bind fun t119 => (some t119))
theorem unit_Prev.mono : ∀ a0 a1 k,LeO (unit_Prev.f k a0 a1) (unit_Prev.f (k + 1) a0 a1) := by
 intro a0 a1 k
 unfold unit_Prev.f
 repeat' first
   | (with_reducible exact unit_Down.mono _ _ _)
   | (with_reducible exact LeO.refl _)
   | (with_reducible exact LeO.none _)
   | (with_reducible refine LeO.ite ?_ ?_)
   | (with_reducible refine LeO.bind ?_ (fun _ => ?_))
   | exact unit_Down.mono _ _ _
   | exact LeO.none _
   | refine LeO.ite ?_ ?_
   | refine LeO.bind ?_ (fun _ => ?_)
set_option maxHeartbeats 8000000 in
set_option maxRecDepth 100000 in
theorem unit_Prev.calls (k : Nat) (a0 : ByteArray) (a1 : Int) (r : Int) (w : World) (hT : Lib.Utf8Tabs 0 1 w) (h : unit_Prev.f k a0 a1 = some r) :
  Calls Tryd.prog 62 #[.string a0,.int .i64 a1] w fun e w' => e = .returned (.int .i64 r) ∧ Below w.heap.size w w' := by
 have HT := Aside0.mk hT
 clear hT
 have HB := Aside0.mk (Below.refl w.heap.size w)
 have H : (if a1 ≤ 0 then (some 0) else ((unit_Down.f k a0 (mn (wrap64 (a1 - 1)) (a0.size : Int))).bind fun t119 => (some t119))) = some r := h
 clear h
 by_cases c3 : a1 ≤ 0
 ·rw [if_pos c3] at H
  have c3b0 : decide (a1 ≤ 0) = true := decide_eq_true c3
  clear c3
  obtain rfl := Option.some.inj H
  go_enter Tryd.func62,Tryd.ntmps62
  go_wp2
  go_ret
  exact ⟨au2,au0⟩
 ·rw [if_neg c3] at H
  have c3b0 : decide (a1 ≤ 0) = false := decide_eq_false c3
  clear c3
  obtain ⟨ji4,hji4⟩ : ∃ j_ : Int,(mn (wrap64 (a1 - 1)) (a0.size : Int)) = j_ := ⟨_,rfl⟩
  replace H : ((unit_Down.f k a0 (ji4)).bind fun t119 => (some t119)) = some r := by first | (rw [hji4] at H;exact H) | (simp only [hji4] at H ⊢;exact H)
  have hji4_ : (if (a0.size : Int) < (wrap64 (a1 - 1)) then (a0.size : Int) else (wrap64 (a1 - 1))) = ji4 := hji4
  replace H := Option.bind_eq_some_iff.mp H
  obtain ⟨t119,A50,H⟩ := H
  replace H : (some t119) = some r := H
  have A5 := Aside0.mk A50
  clear A50
  obtain rfl := Option.some.inj H
  go_enter Tryd.func62,Tryd.ntmps62
  go_wp2_with (first | ((with_reducible refine gate_callee (f := 76) rfl ?_);refine goesL_ (some 13) rfl rfl Tryd.func76 (by kernel_rfl) rfl #[.string a0,.int .i64 ji4] rfl (by (try simp only [List.map_toArray,List.map_cons,List.map_nil]);first | done | (simp only [hji4];rfl) | rfl | (simp only [List.length_drop,List.length_take];rfl)) ?_;(with_reducible refine (unit_Down.calls k a0 ji4 t119 _ ?side1 A5.out).mono ?_);(case side1 => exact tabs_below HT.out au0);rintro e w6 ⟨rfl,hb⟩;refine ⟨_,rfl,?_⟩;have n0_ := Aside0.mk (below_step au0 hb);clear HB;have HB := n0_;clear n0_;(try clear hb);(try clear hb2);(try clear hk);(try clear hi)))
  go_ret
  exact ⟨by first | rfl | (simp [errW_none,errW_some] <;> rfl) | (simp only [← hji4];first | rfl | (simp [errW_none,errW_some] <;> rfl)) | (simp [*,errW_none,errW_some] <;> rfl),au0⟩
end Go.Proofs.YtnpjaaldppemlaaDoor.U
end
section
namespace Go.Proofs.YtnpjaaldppemlaaDoor.Rf
open Go Go.RowKit
/-- What a round keeps: what lies below n₀;the cells that lie from B on;and the cells of the blocks of Pr (what the iterator has captured). -/
def KeepB (n₀ : Nat) (Pr : Nat → Prop) (B : Nat) (W W' : World) : Prop :=
 Below n₀ W W' ∧ ∀ (k : Nat) (o : Obj),(Pr k ∨ B ≤ k) → W.heap[k]? = some o → o.isCells = true → W'.heap[k]? = some o
theorem KeepB.refl (n₀ : Nat) (Pr : Nat → Prop) (B : Nat) (W : World) : KeepB n₀ Pr B W W := ⟨Below.refl _ _,fun _ _ _ h _ => h⟩
theorem KeepB.trans {n₀ : Nat} {Pr : Nat → Prop} {B : Nat} {X Y Z : World} (h : KeepB n₀ Pr B X Y) (k : KeepB n₀ Pr B Y Z) : KeepB n₀ Pr B X Z :=
 ⟨h.1.trans k.1,fun i o hi ho hc => k.2 i o hi (h.2 i o hi ho hc) hc⟩
theorem KeepB.of_below {n₀ : Nat} {Pr : Nat → Prop} {B : Nat} {X Y : World} (hn : n₀ ≤ X.heap.size) (h : Below X.heap.size X Y) : KeepB n₀ Pr B X Y :=
 ⟨h.mono hn,fun k _o _ ho _ => (h.block k (Array.getElem?_eq_some_iff.1 ho).1).trans ho⟩
theorem KeepB.putObj {n₀ : Nat} {Pr : Nat → Prop} {B : Nat} {W : World} {l : Nat} {o : Obj} (o' : Obj) (hn : n₀ ≤ W.heap.size) (hl : n₀ ≤ l) (h : W.heap[l]? = some o) (ho : o.isCells = false) : KeepB n₀ Pr B W (W.putObj l o') :=
 ⟨(Below.refl n₀ W).grown (grownBy_putObj' W l o') hn (fun k e => by cases e;omega),fun k p _ hk hc => by
  refine (World.putObj_heap_other (fun e => ?_)).trans hk
  subst e;rw [h] at hk;cases hk;rw [ho] at hc;cases hc⟩
/-- The iterator's contract: at each call of yield it tells a world W0 in which the caller's word held,and what it has laid since. -/
def SeqB {α : Type} (F : Fence) (n : Nat) (P : Program) (g : Nat) (lb : Array Value) (encs : α → Array Value) (n₀ : Nat) (Pr : Nat → Prop) (S Sp : List α → Prop) (N : Nat) (w : World) : Prop :=
 ∀ (l : Nat) (J Jx : List α → World → Prop) (W : World),Below w.heap.size w W → AbidesFrom W.heap.size J → AbidesFrom W.heap.size Jx →
  (∀ pre x W0 W1,J pre W0 → Below W0.heap.size W0 W1 → pre.length < N → YieldAt F (n - 1) P l (encs x) W1 fun e W' =>
   (e = .returned (.bool true) ∧ J (pre ++ [x]) W' ∧ KeepB n₀ Pr W0.heap.size W1 W') ∨ (e = .returned (.bool false) ∧ Jx (pre ++ [x]) W')) →
  J [] W →
  CallsIn F n P g (#[.func (.yield l) #[] #[]] ++ lb) W fun e W' => (∃ v,e = .returned v) ∧ ((∃ xs,S xs ∧ J xs W') ∨ (∃ pre,Sp pre ∧ Jx pre W'))
theorem SeqB.inRound {α : Type} {F : Fence} {n : Nat} {P : Program} {g : Nat} {lb : Array Value} {encs : α → Array Value} {n₀ : Nat} {Pr : Nat → Prop} {S Sp : List α → Prop} {N : Nat} {w : World} (l : Nat)
  (h : SeqB F n P g lb encs n₀ Pr S Sp N w) : SeqB (F.inRound l) n P g lb encs n₀ Pr S Sp N w := h
/-- How a round may be left. -/
def PostB {α : Type} (C n₀ : Nat) (Pr : Nat → Prop) (B : Nat) (I : Nat → List α → World → Prop) (Ix : Code → List α → World → Prop) (xs : List α) (W : World) : Exit → Act → World → Prop
 | .normal,_,W' => KeepsFrom C W W' ∧ KeepB n₀ Pr B W W' ∧ I W'.heap.size xs W'
 | .ret,_,W' => KeepsFrom C W W' ∧ Ix .ret xs W'
 | .exit id,_,W' => KeepsFrom C W W' ∧ Ix (.exit id) xs W'
 | .goto t,_,W' => KeepsFrom C W W' ∧ Ix (.goto t) xs W'
 | .panic _,_,_ => False
 | .outgrown,_,_ => False
variable {F : Fence} {n : Nat} {P : Program}
/-- What of a loop's own book-keeping lasts through its rounds: its record,and the block for deferred calls,where there is one. -/
structure Book (dz : Option Nat) (L : Nat) (r : Loop) (W : World) : Prop where
 at_ : W.heap[L]? = some (.loop r)
 dz_ : ∀ d,dz = some d → W.heap[d]? = some (.deferred (some []))
theorem Book.walks {dz : Option Nat} {L : Nat} {r : Loop} {A B : World} {row : Option Nat} (h : Book dz L r A) (hg : A.grownBy B row) (hr : ∀ k,row = some k → ∃ o : Obj,A.heap[k]? = some o ∧ o.isWalk = true) : Book dz L r B :=
 ⟨(grownBy_keeps hg hr h.at_ rfl).trans h.at_,fun d e => (grownBy_keeps hg hr (h.dz_ d e) rfl).trans (h.dz_ d e)⟩
theorem Book.from_ {dz : Option Nat} {L C : Nat} {r : Loop} {A B : World} (h : Book dz L r A) (hL : C ≤ L) (hd : ∀ d,dz = some d → C ≤ d ∧ d ≠ L) (hk : KeepsFrom C A B) : Book dz L r B :=
 ⟨hk.same _ _ hL h.at_ rfl,fun d e => hk.same _ _ (hd d e).1 (h.dz_ d e) rfl⟩
theorem Book.put {dz : Option Nat} {L C : Nat} {r : Loop} {A : World} (h : Book dz L r A) (hd : ∀ d,dz = some d → C ≤ d ∧ d ≠ L) (r' : Loop) : Book dz L r' (A.putObj L (.loop r')) :=
 ⟨World.putObj_heap_same (Array.getElem?_eq_some_iff.1 h.at_).1,fun d e => (World.putObj_heap_other (hd d e).2).trans (h.dz_ d e)⟩
/-- The rounds,whichever way the loop was entered. -/
theorem rounds {α : Type} {fid : FuncId} {ps : Array Tmp} {assign body : Code} {tm : Array Value} {C n₀ L D gf : Nat} {Pr : Nat → Prop} {lb : Array Value} {W1 w0 : World} {dz : Option Nat}
  {encs : α → Array Value} {S Sp : List α → Prop} {N : Nat} (hfid : F.fn fid) (hseq : SeqB F (n - 1) P gf lb encs n₀ Pr S Sp N w0) (hb1 : Below w0.heap.size w0 W1) (hps : ∀ x,(encs x).size = ps.size)
  (rec : LoopState → Option Code → Loop) (hrec : rec = fun st pe => { state := st,pending := pe,fn := fid,tmps := tm,params := ps,assign,body,defers := D })
  (hnC : n₀ ≤ C) (hCL : C ≤ L) (hCW : C ≤ W1.heap.size) (hdz : ∀ d,dz = some d → C ≤ d ∧ d ≠ L) (hbk : Book dz L (rec .ready none) W1)
  (I : Nat → List α → World → Prop) (Ix : Code → List α → World → Prop) (hI : ∀ B,OwnFrom C (I B)) (hm : ∀ B B' pre W,B ≤ B' → I B pre W → I B' pre W) (hIx : ∀ c,OwnFrom C (Ix c)) (h0 : I W1.heap.size [] W1)
  (Ax : α → Act → World → Prop) (hAx : ∀ x a',OwnFrom C (fun (_ : Unit) W => Ax x a' W))
  (hassign : ∀ (B : Nat) (pre : List α) (x : α) (W : World) (K : Act → World → Prop),C ≤ W.heap.size → B ≤ W.heap.size → I B pre W → (∀ a' W',KeepsFrom C W W' → KeepB n₀ Pr B W W' → I B pre W' → Ax x a' W' → K a' W') →
   assign.wpIn (F.inRound L) (n - 1 - 1) P (Exit.then K (fun _ _ _ => False)) { tmps := (ps.zip (encs x)).foldl (fun t (p,v) => t.setIfInBounds p v) tm,defers := [] } W)
  (hbody : ∀ (B : Nat) (pre : List α) (x : α) (a' : Act) (W : World),C ≤ W.heap.size → (∃ r,W.heap[L]? = some (.loop r)) → B ≤ W.heap.size → I B pre W → Ax x a' W → pre.length < N → body.wpIn (F.inRound L) (n - 1 - 1) P (PostB C n₀ Pr B I Ix (pre ++ [x]) W) a' W) :
  CallsIn F (n - 1) P gf (#[.func (.yield L) #[] #[]] ++ lb) W1 fun e W' => (∃ v,e = .returned v) ∧
   ((∃ xs,S xs ∧ C ≤ W'.heap.size ∧ I W'.heap.size xs W' ∧ Book dz L (rec .ready none) W') ∨ (∃ pre c,Sp pre ∧ C ≤ W'.heap.size ∧ Ix c pre W' ∧ Book dz L (rec .done (some c)) W')) := by
 have hC0 : ∀ {A B : World} {row : Option Nat},(∀ r,row = some r → W1.heap.size ≤ r ∧ ∃ o : Obj,A.heap[r]? = some o ∧ o.isWalk = true) → (∀ r,row = some r → C ≤ r ∧ ∃ o : Obj,A.heap[r]? = some o ∧ o.isCells = false) :=
  fun hr r e => by obtain ⟨hB,o,ho,hw⟩ := hr r e;exact ⟨Nat.le_trans hCW hB,o,ho,Obj.not_cells_of_walk hw⟩
 refine (hseq L (fun pre W => I W.heap.size pre W ∧ Book dz L (rec .ready none) W ∧ C ≤ W.heap.size) (fun pre W => ∃ c,Ix c pre W ∧ Book dz L (rec .done (some c)) W ∧ C ≤ W.heap.size) W1 hb1 ?_ ?_ ?_ ⟨h0,hbk,hCW⟩).mono ?_
 ·rintro s A B row ⟨h1,h2,h3⟩ hg hr
  exact ⟨hm _ _ _ _ hg.size (hI _ s A B row h1 hg (hC0 (B := B) hr)),h2.walks hg (fun r e => (hr r e).2),Nat.le_trans h3 hg.size⟩
 ·rintro s A B row ⟨c,h1,h2,h3⟩ hg hr
  exact ⟨c,hIx c s A B row h1 hg (hC0 (B := B) hr),h2.walks hg (fun r e => (hr r e).2),Nat.le_trans h3 hg.size⟩
 ·rintro pre x W0 W ⟨hi0,hb0,hC⟩ hbel hlen
  have hg : W0.grownBy W none := ⟨hbel.os,hbel.tape,hbel.output,hbel.size,fun i hi _ => hbel.block i hi⟩
  have hi : I W0.heap.size pre W := hI _ pre W0 W none hi0 hg (fun r e => by cases e)
  have hb : Book dz L (rec .ready none) W := hb0.walks hg (fun r e => by cases e)
  have hCW' : C ≤ W.heap.size := Nat.le_trans hC hbel.size
  have hy := run_yield (P := P) (args := encs x) hb.at_ (by rw [hrec];exact hps x)
  rw [hrec] at hy
  refine ⟨fid,_,assign,body,hy,roundIn_of_wpIn hfid (hassign W0.heap.size pre x W _ hCW' hbel.size hi ?_)⟩
  intro a' Wa hkf hkb hia hax
  have hba := hb.from_ hCL hdz hkf
  have hCa : C ≤ Wa.heap.size := Nat.le_trans hCW' hkf.size
  refine ⟨_,run_beginRound hba.at_ (by rw [hrec]),?_⟩
  have hba2 := hba.put (C := C) hdz { rec .ready none with state := .busy }
  have hkb2 : KeepB n₀ Pr W0.heap.size Wa (Wa.putObj L (.loop { rec .ready none with state := .busy })) := KeepB.putObj _ (Nat.le_trans hnC hCa) (Nat.le_trans hnC hCL) hba.at_ rfl
  have hsz2 : (Wa.putObj L (.loop { rec .ready none with state := .busy })).heap.size = Wa.heap.size := by simp
  refine wpIn_mono (hbody W0.heap.size pre x a' _ (by rw [hsz2];exact hCa) ⟨_,hba2.at_⟩ (by rw [hsz2];exact Nat.le_trans hbel.size hkf.size) ((hI _).putObj _ hia hCL hba.at_ rfl) ((hAx x a').putObj (s := ()) _ hax hCL hba.at_ rfl) hlen) ?_
  have fin : ∀ (jump : Option Code) (W3 : World),KeepsFrom C (Wa.putObj L (.loop { rec .ready none with state := .busy })) W3 →
    (Instr.endRound L jump).run P W3 = .ok (.bool jump.isNone) (W3.putObj L (.loop (rec (if jump.isNone then .ready else .done) jump))) ∧
    W3.heap[L]? = some (.loop { rec .ready none with state := .busy }) ∧ Book dz L (rec (if jump.isNone then .ready else .done) jump) (W3.putObj L (.loop (rec (if jump.isNone then .ready else .done) jump))) ∧
    C ≤ (W3.putObj L (.loop (rec (if jump.isNone then .ready else .done) jump))).heap.size := fun jump W3 hk3 => by
   have hb3 := hba2.from_ hCL hdz hk3
   have he := run_endRound (P := P) jump hb3.at_
   refine ⟨?_,hb3.at_,hb3.put (C := C) hdz _,by have := hk3.size;rw [hsz2] at this;simp;omega⟩
   rw [hrec] at he ⊢
   exact he
  rintro e a3 W3 hp
  cases e with
  | normal =>
   obtain ⟨hk3,hkp3,hi3⟩ := hp
   obtain ⟨hr,hl3,hb4,hC4⟩ := fin none W3 hk3
   have hsz3 : n₀ ≤ W3.heap.size := Nat.le_trans hnC (by simpa using hC4)
   refine ⟨_,_,hr,.inl ⟨rfl,⟨?_,hb4,hC4⟩,((hkb.trans hkb2).trans hkp3).trans (KeepB.putObj _ hsz3 (Nat.le_trans hnC hCL) hl3 rfl)⟩⟩
   have hx := (hI _).putObj (.loop (rec .ready none)) hi3 hCL hl3 rfl
   simpa using hx
  | ret =>
   obtain ⟨hk3,hi3⟩ := hp
   obtain ⟨hr,hl3,hb4,hC4⟩ := fin (some .ret) W3 hk3
   exact ⟨_,_,hr,.inr ⟨rfl,.ret,(hIx _).putObj _ hi3 hCL hl3 rfl,hb4,hC4⟩⟩
  | exit id =>
   obtain ⟨hk3,hi3⟩ := hp
   obtain ⟨hr,hl3,hb4,hC4⟩ := fin (some (.exit id)) W3 hk3
   exact ⟨_,_,hr,.inr ⟨rfl,.exit id,(hIx _).putObj _ hi3 hCL hl3 rfl,hb4,hC4⟩⟩
  | goto t =>
   obtain ⟨hk3,hi3⟩ := hp
   obtain ⟨hr,hl3,hb4,hC4⟩ := fin (some (.goto t)) W3 hk3
   exact ⟨_,_,hr,.inr ⟨rfl,.goto t,(hIx _).putObj _ hi3 hCL hl3 rfl,hb4,hC4⟩⟩
  | panic ch => exact hp.elim
  | outgrown => exact hp.elim
 ·rintro e W2 ⟨⟨v,rfl⟩,(⟨xs,hS,hi,hb,hC⟩ | ⟨pre,hSp,c,hi,hb,hC⟩)⟩
  ·exact ⟨⟨v,rfl⟩,.inl ⟨xs,hS,hC,hi,hb⟩⟩
  ·exact ⟨⟨v,rfl⟩,.inr ⟨pre,c,hSp,hC,hi,hb⟩⟩
/-- A loop that stands in no round. -/
theorem range_outer {α : Type} {g : Operand} {ps : Array Tmp} {assign body : Code} {Q : Exit → Act → World → Prop} {a : Act} {w : World} {n₀ : Nat} {Pr : Nat → Prop}
  (hro : F.round = none) (h1 : 1 ≤ n) {gf : Nat} {lb : Array Value} (hg : a.eval g = .func (.func gf) #[] lb) (hFg : F.fn gf) (eg : ∀ args w,(callFunc gf args).run P w = .ok (.enter gf args) w)
  {encs : α → Array Value} {S Sp : List α → Prop} {N : Nat} {w0 : World} (hseq : SeqB F (n - 1) P gf lb encs n₀ Pr S Sp N w0) (hb0 : Below w0.heap.size w0 w) (hps : ∀ x,(encs x).size = ps.size) (hn₀ : n₀ ≤ w.heap.size)
  (I : Nat → List α → World → Prop) (Ix : Code → List α → World → Prop) (hI : ∀ B,OwnFrom w.heap.size (I B)) (hm : ∀ B B' pre W,B ≤ B' → I B pre W → I B' pre W) (hIx : ∀ c,OwnFrom w.heap.size (Ix c)) (h0 : I w.heap.size [] w)
  (Ax : α → Act → World → Prop) (hAx : ∀ x a',OwnFrom w.heap.size (fun (_ : Unit) W => Ax x a' W))
  (hassign : ∀ (l B : Nat) (pre : List α) (x : α) (W : World) (K : Act → World → Prop),w.heap.size ≤ W.heap.size → B ≤ W.heap.size → I B pre W → (∀ a' W',KeepsFrom w.heap.size W W' → KeepB n₀ Pr B W W' → I B pre W' → Ax x a' W' → K a' W') →
   assign.wpIn (F.inRound l) (n - 1 - 1) P (Exit.then K (fun _ _ _ => False)) { tmps := (ps.zip (encs x)).foldl (fun t (p,v) => t.setIfInBounds p v) a.tmps,defers := [] } W)
  (hbody : ∀ (l B : Nat) (pre : List α) (x : α) (a' : Act) (W : World),w.heap.size ≤ l → w.heap.size ≤ W.heap.size → (∃ r,W.heap[l]? = some (.loop r)) → B ≤ W.heap.size → I B pre W → Ax x a' W → pre.length < N → body.wpIn (F.inRound l) (n - 1 - 1) P (PostB w.heap.size n₀ Pr B I Ix (pre ++ [x]) W) a' W)
  (hdone : ∀ (D : Nat) (xs : List α) (W : World),w.heap.size ≤ D → S xs → I W.heap.size xs W → W.heap[D]? = some (.deferred (some [])) → Q .normal { a with defers := { target := .collected D,args := #[] } :: a.defers } W)
  (hstop : ∀ (D : Nat) (c : Code) (pre : List α) (W : World),w.heap.size ≤ D → Sp pre → Ix c pre W → W.heap[D]? = some (.deferred (some [])) → c.wpIn F n P Q { a with defers := { target := .collected D,args := #[] } :: a.defers } W) :
  (Code.rangeFunc g ps assign body).wpIn F n P Q a w := by
 refine wpIn_rangeFunc ?_
 intro fid hfid
 rw [hro]
 obtain ⟨rec,hrec⟩ : ∃ rec : LoopState → Option Code → Loop,rec = fun st pe => { state := st,pending := pe,fn := fid,tmps := a.tmps,params := ps,assign,body,defers := w.heap.size } := ⟨_,rfl⟩
 obtain ⟨W1,hW1⟩ : ∃ W1,(w.alloc (.deferred (some []))).alloc (.loop (rec .ready none)) = W1 := ⟨_,rfl⟩
 have hbk : Book (some w.heap.size) (w.heap.size + 1) (rec .ready none) W1 := by
  rw [← hW1]
  refine ⟨?_,fun d e => ?_⟩
  ·have := World.alloc_heap_new (w.alloc (.deferred (some []))) (.loop (rec .ready none));rwa [World.size_alloc] at this
  ·cases e;exact (Below.heap_alloc _ _ _ (by simp)).trans (World.alloc_heap_new w _)
 have hsz : W1.heap.size = w.heap.size + 2 := by rw [← hW1];simp
 have hI1 : I W1.heap.size [] W1 := hm w.heap.size W1.heap.size [] W1 (by omega) (by rw [← hW1];exact (hI w.heap.size).alloc _ ((hI w.heap.size).alloc _ h0))
 have hb1 : Below w0.heap.size w0 W1 := by
  rw [← hW1];exact hb0.trans ((((Below.refl _ w).alloc (Nat.le_refl _) _).alloc (by simp) _).mono hb0.size)
 refine ⟨w.heap.size + 1,[{ target := .collected w.heap.size,args := #[] }],W1,{ target := .fn (.func gf) lb,args := #[.func (.yield (w.heap.size + 1)) #[] #[]] },W1,gf,
  #[.func (.yield (w.heap.size + 1)) #[] #[]] ++ lb,W1,?_,?_,?_,?_,fun _ => h1,?_⟩
 ·rw [← hW1,hrec];exact run_enterLoop_outer _ _ _ _ _
 ·simp only [resolve,hg]
  simp [go_sem]
 ·intro f' hf';simp [Target.leads] at hf';subst hf';exact hFg
 ·simp [invoke,go_sem,eg]
 ·refine (rounds (C := w.heap.size) (dz := some w.heap.size) hfid hseq hb1 hps rec hrec hn₀ (by omega) (by omega) (fun d e => by cases e;exact ⟨Nat.le_refl _,by omega⟩) hbk I Ix hI hm hIx hI1 Ax hAx
   (fun B => hassign _ B) (fun B pre x a' W => hbody _ B pre x a' W (by omega))).mono ?_
  rintro e W2 ⟨⟨v,rfl⟩,(⟨xs,hS,hC,hi,hb⟩ | ⟨pre,c,hSp,hC,hi,hb⟩)⟩
  ·refine ⟨none,_,by have := run_endLoop (P := P) hb.at_ (by rw [hrec];simp);rw [hrec] at this;exact this,hdone w.heap.size xs _ (Nat.le_refl _) hS ?_ ((World.putObj_heap_other (by omega)).trans (hb.dz_ _ rfl))⟩
   have hx := (hI _).putObj (.loop { rec .ready none with state := .exhausted }) hi (by omega : w.heap.size ≤ w.heap.size + 1) hb.at_ rfl
   rw [hrec] at hx
   simpa using hx
  ·exact ⟨some c,_,by have := run_endLoop (P := P) hb.at_ (by rw [hrec];simp);rw [hrec] at this;exact this,hstop w.heap.size c pre _ (Nat.le_refl _) hSp ((hIx c).putObj _ hi (by omega) hb.at_ rfl) ((World.putObj_heap_other (by omega)).trans (hb.dz_ _ rfl))⟩
end Go.Proofs.YtnpjaaldppemlaaDoor.Rf
end
section
namespace Go.Proofs.YtnpjaaldppemlaaDoor.Mu
open Go Go.Lib
def byt (s : ByteArray) (i : Nat) : Nat := (s.get! i).toNat
theorem byt_lt (s : ByteArray) (i : Nat) : byt s i < 256 := (s.get! i).toNat_lt
theorem dec_ascii (n b0 b1 b2 b3 : Nat) (h : b0 < 128) : decodeN n b0 b1 b2 b3 = (b0,1) := by unfold decodeN;rw [if_pos h]
theorem dec_two (n b0 b1 b2 b3 : Nat) (h0 : 192 ≤ b0) (h1 : b0 < 224) (hn : 1 < n) (h2 : b1 / 64 = 2) (hc : 128 ≤ b0 % 32 * 64 + b1 % 64) : decodeN n b0 b1 b2 b3 = (b0 % 32 * 64 + b1 % 64,2) := by
 unfold decodeN;rw [if_neg (by omega),if_pos ⟨by omega,hn,h2⟩,if_pos hc]
theorem dec_three (n b0 b1 b2 b3 : Nat) (h0 : 224 ≤ b0) (h1 : b0 < 240) (hn : 2 < n) (h2 : b1 / 64 = 2) (h3 : b2 / 64 = 2) (hc : 2048 ≤ b0 % 16 * 4096 + b1 % 64 * 64 + b2 % 64)
  (hs : b0 % 16 * 4096 + b1 % 64 * 64 + b2 % 64 < 55296 ∨ 57344 ≤ b0 % 16 * 4096 + b1 % 64 * 64 + b2 % 64) : decodeN n b0 b1 b2 b3 = (b0 % 16 * 4096 + b1 % 64 * 64 + b2 % 64,3) := by
 unfold decodeN;rw [if_neg (by omega),if_neg (by omega),if_pos ⟨by omega,⟨by omega,h2⟩,hn,h3⟩,if_pos ⟨hc,by omega⟩]
theorem dec_four (n b0 b1 b2 b3 : Nat) (h0 : 240 ≤ b0) (h1 : b0 < 248) (hn : 3 < n) (h2 : b1 / 64 = 2) (h3 : b2 / 64 = 2) (h4 : b3 / 64 = 2) (hc : 65536 ≤ b0 % 8 * 262144 + b1 % 64 * 4096 + b2 % 64 * 64 + b3 % 64)
  (hs : b0 % 8 * 262144 + b1 % 64 * 4096 + b2 % 64 * 64 + b3 % 64 ≤ 1114111) : decodeN n b0 b1 b2 b3 = (b0 % 8 * 262144 + b1 % 64 * 4096 + b2 % 64 * 64 + b3 % 64,4) := by
 unfold decodeN;rw [if_neg (by omega),if_neg (by omega),if_neg (by omega),if_pos ⟨by omega,⟨by omega,h2⟩,⟨by omega,h3⟩,hn,h4⟩,if_pos ⟨hc,by omega⟩]
/-- What a decoding can be. -/
theorem dec_cases (n b0 b1 b2 b3 : Nat) (hb : b0 < 256) :
  (b0 < 128 ∧ decodeN n b0 b1 b2 b3 = (b0,1)) ∨
  (128 ≤ b0 ∧ decodeN n b0 b1 b2 b3 = (65533,1)) ∨
  (192 ≤ b0 ∧ b0 < 224 ∧ 1 < n ∧ b1 / 64 = 2 ∧ 128 ≤ b0 % 32 * 64 + b1 % 64 ∧ decodeN n b0 b1 b2 b3 = (b0 % 32 * 64 + b1 % 64,2)) ∨
  (224 ≤ b0 ∧ b0 < 240 ∧ 2 < n ∧ b1 / 64 = 2 ∧ b2 / 64 = 2 ∧ 2048 ≤ b0 % 16 * 4096 + b1 % 64 * 64 + b2 % 64 ∧ (b0 % 16 * 4096 + b1 % 64 * 64 + b2 % 64 < 55296 ∨ 57344 ≤ b0 % 16 * 4096 + b1 % 64 * 64 + b2 % 64) ∧
   decodeN n b0 b1 b2 b3 = (b0 % 16 * 4096 + b1 % 64 * 64 + b2 % 64,3)) ∨
  (240 ≤ b0 ∧ b0 < 248 ∧ 3 < n ∧ b1 / 64 = 2 ∧ b2 / 64 = 2 ∧ b3 / 64 = 2 ∧ 65536 ≤ b0 % 8 * 262144 + b1 % 64 * 4096 + b2 % 64 * 64 + b3 % 64 ∧ b0 % 8 * 262144 + b1 % 64 * 4096 + b2 % 64 * 64 + b3 % 64 ≤ 1114111 ∧
   decodeN n b0 b1 b2 b3 = (b0 % 8 * 262144 + b1 % 64 * 4096 + b2 % 64 * 64 + b3 % 64,4)) := by
 by_cases h1 : b0 < 128
 ·exact .inl ⟨h1,dec_ascii _ _ _ _ _ h1⟩
 ·refine .inr ?_
  by_cases h2 : b0 / 32 = 6 ∧ (1 < n ∧ b1 / 64 = 2)
  ·by_cases hc : 128 ≤ b0 % 32 * 64 + b1 % 64
   ·exact .inr (.inl ⟨by omega,by omega,h2.2.1,h2.2.2,hc,dec_two _ _ _ _ _ (by omega) (by omega) h2.2.1 h2.2.2 hc⟩)
   ·exact .inl ⟨by omega,by unfold decodeN;rw [if_neg h1,if_pos h2,if_neg hc]⟩
  ·by_cases h3 : b0 / 16 = 14 ∧ (1 < n ∧ b1 / 64 = 2) ∧ (2 < n ∧ b2 / 64 = 2)
   ·by_cases hc : b0 % 16 * 4096 + b1 % 64 * 64 + b2 % 64 ≥ 2048 ∧ (b0 % 16 * 4096 + b1 % 64 * 64 + b2 % 64 < 55296 ∨ (57344 ≤ b0 % 16 * 4096 + b1 % 64 * 64 + b2 % 64 ∧ b0 % 16 * 4096 + b1 % 64 * 64 + b2 % 64 ≤ 1114111))
    ·exact .inr (.inr (.inl ⟨by omega,by omega,h3.2.2.1,h3.2.1.2,h3.2.2.2,hc.1,by omega,dec_three _ _ _ _ _ (by omega) (by omega) h3.2.2.1 h3.2.1.2 h3.2.2.2 hc.1 (by omega)⟩))
    ·exact .inl ⟨by omega,by unfold decodeN;rw [if_neg h1,if_neg h2,if_pos h3,if_neg hc]⟩
   ·by_cases h4 : b0 / 8 = 30 ∧ (1 < n ∧ b1 / 64 = 2) ∧ (2 < n ∧ b2 / 64 = 2) ∧ (3 < n ∧ b3 / 64 = 2)
    ·by_cases hc : b0 % 8 * 262144 + b1 % 64 * 4096 + b2 % 64 * 64 + b3 % 64 ≥ 65536 ∧ (b0 % 8 * 262144 + b1 % 64 * 4096 + b2 % 64 * 64 + b3 % 64 < 55296 ∨ (57344 ≤ b0 % 8 * 262144 + b1 % 64 * 4096 + b2 % 64 * 64 + b3 % 64 ∧ b0 % 8 * 262144 + b1 % 64 * 4096 + b2 % 64 * 64 + b3 % 64 ≤ 1114111))
     ·exact .inr (.inr (.inr ⟨by omega,by omega,h4.2.2.2.1,h4.2.1.2,h4.2.2.1.2,h4.2.2.2.2,hc.1,by omega,dec_four _ _ _ _ _ (by omega) (by omega) h4.2.2.2.1 h4.2.1.2 h4.2.2.1.2 h4.2.2.2.2 hc.1 (by omega)⟩))
     ·exact .inl ⟨by omega,by unfold decodeN;rw [if_neg h1,if_neg h2,if_neg h3,if_pos h4,if_neg hc]⟩
    ·exact .inl ⟨by omega,by unfold decodeN;rw [if_neg h1,if_neg h2,if_neg h3,if_neg h4]⟩
theorem dec_cont (n b0 b1 b2 b3 : Nat) (h : b0 / 64 = 2) : decodeN n b0 b1 b2 b3 = (65533,1) := by
 rcases dec_cases n b0 b1 b2 b3 (by omega) with h1 | h1 | h1 | h1 | h1
 ·omega
 ·exact h1.2
 all_goals omega
/-- Its bytes. -/
def uN (s : ByteArray) (i : Nat) : Nat := (Utf8.decode s i).2
/-- Its character,-1 of a bad one. -/
def uC (s : ByteArray) (i : Nat) : Int := if (Utf8.decode s i).1 = 65533 ∧ (Utf8.decode s i).2 = 1 then -1 else ((Utf8.decode s i).1 : Int)
theorem dec_eq (s : ByteArray) (i : Nat) : Utf8.decode s i = decodeN (s.size - i) (byt s i) (byt s (i + 1)) (byt s (i + 2)) (byt s (i + 3)) := decode_at s i
theorem uN_pos (s : ByteArray) (i : Nat) : 1 ≤ uN s i := by unfold uN;rw [dec_eq];exact decodeN_ge1 _ _ _ _ _
theorem uN_le4 (s : ByteArray) (i : Nat) : uN s i ≤ 4 := by unfold uN;rw [dec_eq];exact decodeN_le4 _ _ _ _ _
theorem uN_le (s : ByteArray) (i : Nat) (h : i < s.size) : i + uN s i ≤ s.size := by
 have := decodeN_le_n (s.size - i) (byt s i) (byt s (i + 1)) (byt s (i + 2)) (byt s (i + 3)) (by omega)
 rw [← dec_eq] at this
 unfold uN
 omega
/-- Behind the first byte of a unit of several,each byte goes on an encoding. -/
theorem inner_cont (s : ByteArray) (j i : Nat) (h1 : j < i) (h2 : i < j + uN s j) : byt s i / 64 = 2 := by
 have hc := dec_cases (s.size - j) (byt s j) (byt s (j + 1)) (byt s (j + 2)) (byt s (j + 3)) (byt_lt s j)
 unfold uN at h2
 rw [dec_eq] at h2
 rcases hc with h | h | h | h | h
 ·rw [h.2] at h2;simp only at h2;omega
 ·rw [h.2] at h2;simp only at h2;omega
 ·rw [h.2.2.2.2.2] at h2;simp only at h2
  obtain rfl : i = j + 1 := by omega
  exact h.2.2.2.1
 ·rw [h.2.2.2.2.2.2.2] at h2;simp only at h2
  rcases (by omega : i = j + 1 ∨ i = j + 2) with rfl | rfl
  ·exact h.2.2.2.1
  ·exact h.2.2.2.2.1
 ·rw [h.2.2.2.2.2.2.2.2] at h2;simp only at h2
  rcases (by omega : i = j + 1 ∨ i = j + 2 ∨ i = j + 3) with rfl | rfl | rfl
  ·exact h.2.2.2.1
  ·exact h.2.2.2.2.1
  ·exact h.2.2.2.2.2.1
theorem cont_one (s : ByteArray) (i : Nat) (h : byt s i / 64 = 2) : uN s i = 1 ∧ uC s i = -1 := by
 have e : Utf8.decode s i = (65533,1) := by rw [dec_eq];exact dec_cont _ _ _ _ _ h
 unfold uN uC
 rw [e]
 simp
/-- No two encodings overlap. -/
theorem inner_one (s : ByteArray) (j i : Nat) (h1 : j < i) (h2 : i < j + uN s j) : uN s i = 1 := (cont_one s i (inner_cont s j i h1 h2)).1
def Bd (s : ByteArray) (i : Nat) : Prop := i ≤ s.size ∧ ∀ j,j < i → j + uN s j ≤ i
theorem bd_zero (s : ByteArray) : Bd s 0 := ⟨Nat.zero_le _,fun j h => by omega⟩
theorem bd_size (s : ByteArray) : Bd s s.size := ⟨Nat.le_refl _,fun j h => uN_le s j h⟩
theorem bd_next (s : ByteArray) (i : Nat) (h : Bd s i) (hi : i < s.size) : Bd s (i + uN s i) := by
 refine ⟨uN_le s i hi,fun j hj => ?_⟩
 rcases Nat.lt_trichotomy j i with h1 | h1 | h1
 ·have := h.2 j h1;omega
 ·subst h1;omega
 ·have := inner_one s i j h1 hj;omega
theorem not_bd_inner (s : ByteArray) (i k : Nat) (h1 : i < k) (h2 : k < i + uN s i) : ¬ Bd s k := fun h => by have := h.2 i h1;omega
/-- What begins a unit of several bytes is a boundary. -/
theorem bd_long (s : ByteArray) (i : Nat) (hi : i < s.size) (h : 2 ≤ uN s i) : Bd s i := by
 refine ⟨by omega,fun j hj => ?_⟩
 by_cases h2 : i < j + uN s j
 ·have := inner_one s j i hj h2;omega
 ·omega
/-- What is no boundary lies within just one unit. -/
theorem within (s : ByteArray) (i : Nat) (hi : i ≤ s.size) (h : ¬ Bd s i) : ∃ j,j < i ∧ i < j + uN s j ∧ Bd s j ∧ i ≤ j + 3 := by
 have : ¬ ∀ j,j < i → j + uN s j ≤ i := fun h2 => h ⟨hi,h2⟩
 simp only [Classical.not_forall] at this
 obtain ⟨j,hj,hj2⟩ := this
 have h4 := uN_le4 s j
 exact ⟨j,hj,by omega,bd_long s j (by omega) (by omega),by omega⟩
/-- A unit's bytes decide it: in another text that has the same bytes,it is the same. -/
theorem dec_prefix (s t : ByteArray) (i j : Nat) (h2 : 2 ≤ uN s i) (hs : ∀ k,k < uN s i → byt t (j + k) = byt s (i + k)) (hsz : j + uN s i ≤ t.size) : Utf8.decode t j = Utf8.decode s i := by
 have hc := dec_cases (s.size - i) (byt s i) (byt s (i + 1)) (byt s (i + 2)) (byt s (i + 3)) (byt_lt s i)
 unfold uN at h2 hs hsz
 rw [dec_eq] at h2 hs hsz
 rw [dec_eq s i,dec_eq t j]
 rcases hc with h | h | h | h | h
 ·rw [h.2] at h2;simp only at h2;omega
 ·rw [h.2] at h2;simp only at h2;omega
 ·obtain ⟨h0,h1,_,h3,h4,e⟩ := h
  rw [e] at hs hsz ⊢
  simp only at hs hsz
  have e0 := hs 0 (by omega);have e1 := hs 1 (by omega)
  rw [Nat.add_zero,Nat.add_zero] at e0
  rw [← e0,← e1] at h4 ⊢
  rw [← e0] at h0 h1
  rw [← e1] at h3
  exact dec_two _ _ _ _ _ h0 h1 (by omega) h3 h4
 ·obtain ⟨h0,h1,_,h3,h5,h4,h6,e⟩ := h
  rw [e] at hs hsz ⊢
  simp only at hs hsz
  have e0 := hs 0 (by omega);have e1 := hs 1 (by omega);have e2 := hs 2 (by omega)
  rw [Nat.add_zero,Nat.add_zero] at e0
  rw [← e0,← e1,← e2] at h4 h6 ⊢
  rw [← e0] at h0 h1
  rw [← e1] at h3
  rw [← e2] at h5
  exact dec_three _ _ _ _ _ h0 h1 (by omega) h3 h5 h4 h6
 ·obtain ⟨h0,h1,_,h3,h5,h7,h4,h6,e⟩ := h
  rw [e] at hs hsz ⊢
  simp only at hs hsz
  have e0 := hs 0 (by omega);have e1 := hs 1 (by omega);have e2 := hs 2 (by omega);have e3 := hs 3 (by omega)
  rw [Nat.add_zero,Nat.add_zero] at e0
  rw [← e0,← e1,← e2,← e3] at h4 h6 ⊢
  rw [← e0] at h0 h1
  rw [← e1] at h3
  rw [← e2] at h5
  rw [← e3] at h7
  exact dec_four _ _ _ _ _ h0 h1 (by omega) h3 h5 h7 h4 h6
theorem decodeGo_extract (s : ByteArray) (pos : Nat) (h : pos < s.size) : decodeGo (s.extract pos s.size) = Utf8.decode s pos := by
 have hx : (s.extract pos s.size).data.toList = s.data.toList.drop pos := by
  rw [extract_data,List.take_of_length_le (by rw [List.length_drop,← size_eq];omega)]
 have hsz : (s.extract pos s.size).size ≠ 0 := by rw [size_eq,hx,List.length_drop,← size_eq];omega
 unfold decodeGo
 rw [if_neg hsz,← decodeL_drop s pos,← hx]
 rfl
theorem get!_eq (s : ByteArray) (i : Nat) : s.get! i = s.data.toList.getD i 0 := by
 show s.data[i]! = _
 simp [Array.getElem!_eq_getD]
 rfl
theorem byt_extract (s : ByteArray) (a b i : Nat) (h : a + i < b) (_hb : b ≤ s.size) : byt (s.extract a b) i = byt s (a + i) := by
 unfold byt
 rw [get!_eq,get!_eq,extract_data,List.getD_eq_getElem?_getD,List.getD_eq_getElem?_getD,List.getElem?_take,if_pos (by omega),List.getElem?_drop]
theorem byt_append_left (s t : ByteArray) (i : Nat) (h : i < s.size) : byt (s ++ t) i = byt s i := by
 unfold byt
 rw [get!_eq,get!_eq,List.getD_eq_getElem?_getD,List.getD_eq_getElem?_getD]
 have e : (s ++ t).data.toList = s.data.toList ++ t.data.toList := by simp
 rw [e,List.getElem?_append_left (by rw [← size_eq];exact h)]
theorem byt_append_right (s t : ByteArray) (i : Nat) : byt (s ++ t) (s.size + i) = byt t i := by
 unfold byt
 rw [get!_eq,get!_eq,List.getD_eq_getElem?_getD,List.getD_eq_getElem?_getD]
 have e : (s ++ t).data.toList = s.data.toList ++ t.data.toList := by simp
 rw [e,List.getElem?_append_right (by rw [← size_eq];omega),← size_eq,show s.size + i - s.size = i by omega]
theorem size_extract (s : ByteArray) (a b : Nat) (hb : b ≤ s.size) : (s.extract a b).size = b - a := by simp;omega
end Go.Proofs.YtnpjaaldppemlaaDoor.Mu
end
section
namespace Go.Proofs.YtnpjaaldppemlaaDoor.U
open Go.RowKit Go.Shelf Go.Proofs.YtnpjaaldppemlaaDoor.Mu Go.Proofs.YtnpjaaldppemlaaDoor.Rf Go.Proofs.YtnpjaaldppemlaaDoorW.PrintWords Go.Proofs.YtnpjaaldppemlaaDoorW.PrintLast Go.Proofs.YtnpjaaldppemlaaDoorW.PrintMore
attribute [local go_sem] Oper.semAt_some
set_option linter.unusedVariables false
set_option linter.unusedSimpArgs false
theorem first_at (s : ByteArray) (i : Nat) (h : i < s.size) : unit_first.f (s.extract i s.size) = some (uC s i,(uN s i : Int)) := by
 unfold unit_first.f utf8_DecodeRuneInString.f
 rw [decodeGo_extract s i h]
 unfold uC uN
 simp only [Option.bind_some]
 generalize Utf8.decode s i = d
 obtain ⟨c,m⟩ := d
 by_cases hc : c = 65533
 ·by_cases hm : m = 1
  ·subst hc;subst hm;simp
  ·have : ¬ ((m : Int) = 1) := by omega
   simp [hc,hm,this]
 ·have : ¬ ((c : Int) = 65533) := by omega
  simp [hc,this]
end Go.Proofs.YtnpjaaldppemlaaDoor.U
end
section
namespace Go.Proofs.YtnpjaaldppemlaaDoor.U
open Go.RowKit Go.Shelf Go.Proofs.YtnpjaaldppemlaaDoorW.PrintWords Go.Proofs.YtnpjaaldppemlaaDoorW.PrintLast Go.Proofs.YtnpjaaldppemlaaDoorW.PrintMore
set_option linter.unusedVariables false
set_option linter.unusedSimpArgs false
theorem reads_int_of_C {k : IntKind} {w : World} {A : Option Addr} {n : Nat} {l : List Int} (h : (Kd.int k).C w A n l) : ReadsInt w k A n l :=
 Kd.reads_of_C (enc := Value.int k) (d := (0 : Int)) (h1 := fun _ => rfl) h
set_option maxRecDepth 100000 in
set_option maxHeartbeats 2000000 in
theorem within1_calls (l : List Int) (c : Int) (A : Option Addr) (cp b0 b1 : Nat) (W : World) (i : Nat) (hi : 2 * i + 1 < l.length) (hl : l.length ≤ 100000) (h0 : W.cell? ⟨b0,0,none⟩ = some (.slice A l.length cp)) (h1 : W.cell? ⟨b1,0,none⟩ = some (.int .i32 c)) (hr : ReadsInt W .i32 A l.length l) :
  Calls Tryd.prog 89 #[.int .i64 i,.pointer (some ⟨b0,0,none⟩),.pointer (some ⟨b1,0,none⟩)] W fun e w' => e = .returned (.bool (decide (rd l (2 * i + 1) ≥ c))) ∧ ∃ q,w' = W.drewN q := by
 obtain ⟨ad,rfl,hc⟩ := hr.at_ (2 * i + 1) (by omega) (by omega)
 have e1 : (2 : Int) * (i : Int) + 1 < (l.length : Int) := by omega
 have e2 : (0 : Int) ≤ 2 * (i : Int) + 1 := by omega
 rw [show ((2 : Int) * i + 1).toNat = 2 * i + 1 by omega] at hc
 rw [show ad.add (2 * i + 1) = ⟨ad.block,ad.off + (2 * i + 1),none⟩ by simp [Addr.add]] at hc
 have hw1 : IntKind.i64.wrap (2 * (i : Int)) = 2 * (i : Int) := (i64_w _).trans (by unfold wrap64;omega)
 have hw2 : IntKind.i64.wrap (2 * (i : Int) + 1) = 2 * (i : Int) + 1 := (i64_w _).trans (by unfold wrap64;omega)
 have ht : (2 * (i : Int) + 1).toNat = 2 * i + 1 := by omega
 go_enter Tryd.func89,Tryd.ntmps89
 go_wp2_with (fail)
 go_quiet (fail)
 go_wp2
 go_ret
 exact ⟨rfl,nq,rfl⟩
set_option maxRecDepth 100000 in
set_option maxHeartbeats 4000000 in
theorem search_calls (g : Nat) (cb : Array Value) (n : Nat) (p : Nat → Bool) (w : World) (eg : ∀ args w,(callFunc g args).run Tryd.prog w = .ok (.enter g args) w) (hn : n < 1000000)
  (hf : ∀ (m i : Nat),i < n → Calls Tryd.prog g (#[.int .i64 i] ++ cb) (w.drewN m) fun e w' => e = .returned (.bool (p i)) ∧ ∃ q,w' = w.drewN q)
  (hmono : ∀ a b,a ≤ b → b < n → p a = true → p b = true) :
  Calls Tryd.prog 88 #[.int .i64 n,.func (.func g) #[] cb] w fun e w' => ∃ i : Nat,e = .returned (.int .i64 i) ∧ i ≤ n ∧ (∀ t,t < i → p t = false) ∧ (∀ t,i ≤ t → t < n → p t = true) ∧ ∃ q,w' = w.drewN q := by
 go_enter Tryd.func88,Tryd.ntmps88
 go_wp2
 go_loopw [5,6] (fun v5 v6 wr => ∃ lo hi q : Nat,v5 = .int .i64 lo ∧ v6 = .int .i64 hi ∧ lo ≤ hi ∧ hi ≤ n ∧ wr = w.drewN q ∧ Hid ((∀ t,t < lo → p t = false) ∧ (∀ t,hi ≤ t → t < n → p t = true)))
  (fun v5 v6 _ => (intOf v6).toNat - (intOf v5).toNat)
 case atStart => exact ⟨0,n,0,rfl,rfl,Nat.zero_le _,Nat.le_refl _,rfl,Lib.hid ⟨fun t h => absurd h (Nat.not_lt_zero _),fun t h1 h2 => by omega⟩⟩
 case round =>
  obtain ⟨lo,hi,q,rfl,rfl,hlh,hhn,rfl,hI⟩ := hrel
  by_cases hlt : lo < hi
  ·have hlt' : (lo : Int) < (hi : Int) := by omega
   go_wp2_with (fail)
   obtain ⟨m,hm⟩ : ∃ m : Nat,((lo : Int) + (hi : Int)) / 2 = m := ⟨(lo + hi) / 2,by omega⟩
   rw [hm]
   refine (hf q m (by omega)).mono ?_
   rintro e w1 ⟨rfl,q1,rfl⟩
   have hm64 : IntKind.i64.wrap ((m : Int) + 1) = (m : Int) + 1 := (i64_w _).trans (by unfold wrap64;omega)
   cases hp : p m
   ·have hlow : ∀ t,t < m + 1 → p t = false := by
     intro t ht
     by_cases h : t < lo
     ·exact hI.out.1 t h
     ·cases hpt : p t with
      | false => rfl
      | true => have h5 := hmono t m (by omega) (by omega) hpt;rw [hp] at h5;cases h5
    have hup := hI.out.2
    go_wp2
    go_roundw
    case rel => exact ⟨m + 1,hi,q1,by simp,rfl,by omega,hhn,rfl,Lib.hid ⟨hlow,hup⟩⟩
    case measure => simp [intOf];omega
   ·go_wp2
    go_roundw
    case rel => exact ⟨lo,m,q1,rfl,rfl,by omega,by omega,rfl,Lib.hid ⟨hI.out.1,fun t h1 h2 => hmono m t h1 h2 hp⟩⟩
    case measure => simp [intOf];omega
  ·have hge : ¬ ((lo : Int) < (hi : Int)) := by omega
   go_wp2_with (fail)
   go_ret
   obtain rfl : lo = hi := by omega
   exact ⟨lo,rfl,hhn,hI.out.1,hI.out.2,q,rfl⟩
theorem boxed_below' {X Y : World} {B : Nat} {t : TypeId} {v : Value} (h : Boxed X B t v) (hb : Below X.heap.size X Y) : Boxed Y B t v := (hb.block B h.lt).trans h
def okTab (l : List Int) : Bool := (List.range l.length).all fun b => (List.range b).all fun a => decide (rd l (a : Int) ≤ rd l (b : Int)) && (decide (a % 2 = 0) || decide (rd l (a : Int) < rd l (b : Int)))
theorem okTab_le {l : List Int} (h : okTab l = true) {a b : Nat} (hab : a < b) (hb : b < l.length) : rd l (a : Int) ≤ rd l (b : Int) ∧ (a % 2 = 1 → rd l (a : Int) < rd l (b : Int)) := by
 unfold okTab at h
 rw [List.all_eq_true] at h
 have h1 := h b (List.mem_range.2 hb)
 rw [List.all_eq_true] at h1
 have h2 := h1 a (List.mem_range.2 hab)
 simp only [Bool.and_eq_true,Bool.or_eq_true,decide_eq_true_eq] at h2
 exact ⟨h2.1,fun ho => by rcases h2.2 with h3 | h3;omega;exact h3⟩
def withinB (l : List Int) (c : Int) : Bool := (List.range (l.length / 2)).any fun k => decide (rd l (2 * (k : Int)) ≤ c) && decide (c ≤ rd l (2 * (k : Int) + 1))
theorem withinB_of {l : List Int} (h : okTab l = true) (c : Int) (i : Nat) (h2 : l.length % 2 = 0) (hi : i ≤ l.length / 2) (hlo : ∀ t,t < i → decide (rd l (2 * (t : Int) + 1) ≥ c) = false) (hup : ∀ t,i ≤ t → t < l.length / 2 → decide (rd l (2 * (t : Int) + 1) ≥ c) = true) :
  withinB l c = (decide (i < l.length / 2) && decide (rd l (2 * (i : Int)) ≤ c)) := by
 rw [Bool.eq_iff_iff]
 unfold withinB
 simp only [List.any_eq_true,List.mem_range,Bool.and_eq_true,decide_eq_true_eq]
 constructor
 ·rintro ⟨k,hk,h3,h4⟩
  have hik : i ≤ k := by
   rcases Nat.lt_or_ge k i with h5 | h5
   ·have := of_decide_eq_false (hlo k h5);omega
   ·exact h5
  rcases Nat.lt_or_ge i k with h5 | h5
  ·exfalso
   have h6 := of_decide_eq_true (hup i (Nat.le_refl _) (by omega))
   have h7 := (okTab_le h (a := 2 * i + 1) (b := 2 * k) (by omega) (by omega)).2 (by omega)
   have e1 : ((2 * i + 1 : Nat) : Int) = 2 * (i : Int) + 1 := by omega
   have e2 : ((2 * k : Nat) : Int) = 2 * (k : Int) := by omega
   rw [e1,e2] at h7
   omega
  ·obtain rfl : i = k := by omega
   exact ⟨hk,h3⟩
 ·rintro ⟨h3,h4⟩
  exact ⟨i,h3,h4,of_decide_eq_true (hup i (Nat.le_refl _) h3)⟩
set_option maxRecDepth 100000 in
set_option maxHeartbeats 4000000 in
theorem within_any (l : List Int) (c : Int) (A : Option Addr) (cp : Nat) (w : World) (hl : l.length ≤ 100000) (h2 : l.length % 2 = 0) (hok : okTab l = true) (hr : ReadsInt w .i32 A l.length l) (hcp : l.length ≤ cp) :
  Calls Tryd.prog 84 #[.slice A l.length cp,.int .i32 c] w fun e w' => e = .returned (.bool (withinB l c)) ∧ Below w.heap.size w w' := by
 have hq : Int.tdiv (l.length : Int) 2 = ((l.length / 2 : Nat) : Int) := by rw [Int.tdiv_eq_ediv_of_nonneg (by omega)];omega
 go_enter Tryd.func84,Tryd.ntmps84
 go_wp2_with (fail)
 obtain ⟨n,hn,hn2⟩ : ∃ n : Nat,((l.length : Int) / 2) = n ∧ n = l.length / 2 := ⟨l.length / 2,by omega,rfl⟩
 rw [hn]
 have b0 := (Boxed.new w 117 (.slice A l.length cp)).alloc (.cells #[.int .i32 c] 21)
 have b1 := Boxed.new (w.alloc (.cells #[.slice A l.length cp] 117)) 21 (.int .i32 c)
 rw [World.size_alloc] at b1
 have hB : Below w.heap.size w ((w.alloc (.cells #[.slice A l.length cp] 117)).alloc (.cells #[.int .i32 c] 21)) := ((Below.refl _ w).alloc (Nat.le_refl _) _).alloc (by simp) _
 generalize (w.alloc (.cells #[.slice A l.length cp] 117)).alloc (.cells #[.int .i32 c] 21) = W2 at b0 b1 hB ⊢
 have hr2 : ReadsInt W2 .i32 A l.length l := hr.below hB
 refine (search_calls 89 #[.pointer (some ⟨w.heap.size,0,none⟩),.pointer (some ⟨w.heap.size + 1,0,none⟩)] n (fun k => decide (rd l (2 * (k : Int) + 1) ≥ c)) W2 (enters_of Tryd.func89 (by kernel_rfl) rfl) (by omega)
  (fun m i hi => ?_) (fun a b hab hb hp => ?_)).mono ?_
 ·have hd : Below W2.heap.size W2 (W2.drewN m) := pw_below_drewN (Below.refl _ _) m
  refine (within1_calls l c A cp w.heap.size (w.heap.size + 1) (W2.drewN m) i (by omega) hl (boxed_below' b0 hd).cell (boxed_below' b1 hd).cell (hr2.below hd)).mono ?_
  rintro e w' ⟨rfl,q,rfl⟩
  exact ⟨rfl,m + q,by rw [World.drewN_drewN]⟩
 ·rcases Nat.lt_or_ge a b with h | h
  ·have h3 := (okTab_le hok (a := 2 * a + 1) (b := 2 * b + 1) (by omega) (by omega)).1
   have e1 : ((2 * a + 1 : Nat) : Int) = 2 * (a : Int) + 1 := by omega
   have e2 : ((2 * b + 1 : Nat) : Int) = 2 * (b : Int) + 1 := by omega
   rw [e1,e2] at h3
   have := of_decide_eq_true hp
   exact decide_eq_true (by omega)
  ·obtain rfl : a = b := by omega
   exact hp
 rintro e w' ⟨i,rfl,hin,hlo,hup,q,rfl⟩
 dsimp only
 have hw : Hid (withinB l c = (decide (i < n) && decide (rd l (2 * (i : Int)) ≤ c))) := Lib.hid (by rw [hn2];exact withinB_of hok c i h2 (by omega) hlo (fun t h3 h4 => hup t h3 (by omega)))
 have hd : Below W2.heap.size W2 (W2.drewN q) := pw_below_drewN (Below.refl _ _) q
 have b0' := boxed_below' b0 hd
 have b1' := boxed_below' b1 hd
 have hr3 := hr2.below hd
 have hB3 := hB.trans (hd.mono hB.size)
 generalize W2.drewN q = W3 at b0' b1' hr3 hB3 ⊢
 have c0 := b0'.cell
 have c1 := b1'.cell
 by_cases hi : i < n
 ·have hi' : decide ((i : Int) < (n : Int)) = true := decide_eq_true (by omega)
  obtain ⟨ad,rfl,hc⟩ := hr3.at_ (2 * i) (by omega) (by omega)
  rw [show ((2 : Int) * i).toNat = 2 * i by omega] at hc
  have hw1 : IntKind.i64.wrap (2 * (i : Int)) = 2 * (i : Int) := (i64_w _).trans (by unfold wrap64;omega)
  clear hn2 hq hin hlo hup
  go_wp2_with (fail)
  go_quiet (fail)
  go_wp2
  have hwv : withinB l c = decide (rd l (2 * (i : Int)) ≤ c) := by rw [hw.out,decide_eq_true hi,Bool.true_and]
  go_ret
  rw [hwv]
  exact ⟨rfl,pw_below_drewN hB3 nq⟩
 ·have hi' : decide ((i : Int) < (n : Int)) = false := decide_eq_false (by omega)
  clear hn2 hq hin hlo hup
  go_wp2_with (fail)
  go_quiet (fail)
  go_wp2
  have hwv : withinB l c = false := by rw [hw.out,decide_eq_false hi,Bool.false_and]
  go_ret
  rw [hwv]
  exact ⟨rfl,pw_below_drewN hB3 nq⟩
def width_within_rune.f (l0 : List Int) (a1 : Int) : Option (Bool) := if l0.length ≤ 100000 ∧ l0.length % 2 = 0 ∧ okTab l0 = true then some (withinB l0 a1) else none
theorem width_within_rune.calls (A0 : Option Addr) (c0 : Nat) (l0 : List Int) (a1 : Int) (r : Bool) (w : World) (hr0 : Kd.C (Kd.int .i32) w A0 l0.length l0) (hc0 : l0.length ≤ c0) (h : width_within_rune.f l0 a1 = some r) :
  Calls Tryd.prog 84 #[.slice A0 l0.length c0,.int .i32 a1] w fun e w' => e = .returned (.bool r) ∧ Below w.heap.size w w' := by
 unfold width_within_rune.f at h
 split at h
 ·rename_i hs
  obtain rfl := Option.some.inj h
  exact within_any l0 a1 A0 c0 w hs.1 hs.2.1 hs.2.2 (reads_int_of_C hr0) hc0
 ·cases h
end Go.Proofs.YtnpjaaldppemlaaDoor.U
end
