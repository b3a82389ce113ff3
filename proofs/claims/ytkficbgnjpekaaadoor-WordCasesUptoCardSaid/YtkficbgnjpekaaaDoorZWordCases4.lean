/- What the law WordCases reaches of this seat's own texts, merged; what nothing uses is left out. -/
import Derived.Test.YtkficbgnjpekaaaDoorZWordCases0
import Derived.Test.YtkficbgnjpekaaaDoorZWordCases3
section
namespace Go.Proofs.YtkficbgnjpekaaaDoor.U
open Go.RowKit Go.Proofs.YtkficbgnjpekaaaDoorW.PrintWords Go.Proofs.YtkficbgnjpekaaaDoorW.PrintLast Go.Proofs.YtkficbgnjpekaaaDoorW.PrintMore
attribute [local go_sem] max2_int min2_int max_two min_two max_three min_three max_four min_four   -- for this text's walks alone
set_option linter.unusedVariables false
set_option linter.unusedSimpArgs false
def unit_first.f (a0 : ByteArray) : Option (Int × Int) := (utf8_DecodeRuneInString.f a0).bind fun bt112 => (if bt112.1 = 65533 then (if bt112.2 = 1 then (some ((-1),1)) else (some (bt112.1,bt112.2))) else (some (bt112.1,bt112.2)))
set_option maxHeartbeats 8000000 in
set_option maxRecDepth 100000 in
theorem unit_first.calls (a0 : ByteArray) (r1 : Int) (r2 : Int) (w : World) (hT : Lib.Utf8Tabs 0 1 w) (h : unit_first.f a0 = some (r1,r2)) :
  Calls Tryd.prog 60 #[.string a0] w fun e w' => e = .returned (.agg #[.int .i32 r1,.int .i64 r2]) ∧ Below w.heap.size w w' := by
 have hu42 := Tryd.underlying42
 have HT := Aside0.mk hT
 clear hT
 have HB := Aside0.mk (Below.refl w.heap.size w)
 have H : ((utf8_DecodeRuneInString.f a0).bind fun bt112 => (if bt112.1 = 65533 then (if bt112.2 = 1 then (some ((-1),1)) else (some (bt112.1,bt112.2))) else (some (bt112.1,bt112.2)))) = some (r1,r2) := h
 clear h
 replace H := Option.bind_eq_some_iff.mp H
 obtain ⟨⟨t112,t113⟩,A20,H⟩ := H
 replace H : (if t112 = 65533 then (if t113 = 1 then (some ((-1),1)) else (some (t112,t113))) else (some (t112,t113))) = some (r1,r2) := H
 have A2 := Aside0.mk A20
 clear A20
 by_cases c3 : t112 = 65533
 ·rw [if_pos c3] at H
  have c3b0 : (t112 == 65533) = true := beq_iff_eq.mpr c3
  have c3b1 : (t112 != 65533) = false := bne_eq_false_iff_eq.mpr c3
  clear c3
  by_cases c4 : t113 = 1
  ·rw [if_pos c4] at H
   have c4b0 : (t113 == 1) = true := beq_iff_eq.mpr c4
   have c4b1 : (t113 != 1) = false := bne_eq_false_iff_eq.mpr c4
   clear c4
   simp only [Option.some.injEq,Prod.mk.injEq] at H
   obtain ⟨rfl,rfl⟩ := H
   go_enter Tryd.func60,Tryd.ntmps60
   go_wp2_with (first | ((with_reducible refine gate_dst (N := 2) rfl ?_);refine box_event ?hg (N := 2) ?hd (cs := #[.int .i32 0,.int .i64 0]) (t := 42) ?hr ?_;(case hd => rfl);(case hg => rfl);(case hr => first | (go_simp;done) | (go_simp;rfl));intro gb111 hg w5 hbox hb;have n0_ := Aside0.mk (below_step au0 hb);have n1_ := Aside0.mk (hbox);have n2_ := Aside0.mk ((by rw [hg];exact (below_size au0) : w.heap.size ≤ gb111));have n3_ := Aside0.mk ((by rw [hg];exact (below_size au0) : w.heap.size ≤ gb111));clear HB;have HB := n0_;have BK111 := n1_;have GW111 := n2_;have GE111 := n3_;clear n0_ n1_ n2_ n3_;clear hb hbox hg) | ((with_reducible refine gate_callee (f := 76) rfl ?_);refine goesL_ (some 7) rfl rfl Tryd.func76 (by kernel_rfl) rfl #[.string a0] rfl au1 ?_;(with_reducible refine (utf8_DecodeRuneInString.calls a0 t112 t113 _ ?side1 A2.out).mono ?_);(case side1 => exact tabs_below HT.out au22);rintro e w6 ⟨rfl,hb⟩;refine ⟨_,rfl,?_⟩;have n0_ := Aside0.mk (blk_below (g := gb111) (o := .cells #[.int .i32 0,.int .i64 0] 42 (0,0)) (by (with_reducible repeat (first | refine blk_drewN ?_ _ | refine blk_drew ?_ | refine blk_alloc ?_ _));exact BK111.out) hb);have n1_ := Aside0.mk (below_step au22 hb);clear BK111;clear HB;have BK111 := n0_;have HB := n1_;clear n0_ n1_;(try clear hb);(try clear hb2);(try clear hk);(try clear hi);have hcz7_0 : w6.cell? ⟨gb111,0,none⟩ = some (.int .i32 0) := (blk_cell BK111.out 0).trans rfl;have hcz7_1 : w6.cell? ⟨gb111,1,none⟩ = some (.int .i64 0) := (blk_cell BK111.out 1).trans rfl;have hfz7_0 := blk_frozen BK111.out 0;have hfz7_1 := blk_frozen BK111.out 1))
   refine bodyPost_ret (results_cell_row rfl _ _ gb111 42 #[.int .i32 (-1),.int .i64 1] (0,0) _ rfl (by (with_reducible repeat (first | refine blk_drewN ?_ _ | refine blk_drew ?_ | refine blk_alloc ?_ _));refine blk_put (cs := #[.int .i32 (-1),.int .i64 0]) ?_ 1 _ rfl;(with_reducible repeat (first | refine blk_drewN ?_ _ | refine blk_drew ?_ | refine blk_alloc ?_ _));refine blk_put (cs := #[.int .i32 0,.int .i64 0]) ?_ 0 _ rfl;(with_reducible repeat (first | refine blk_drewN ?_ _ | refine blk_drew ?_ | refine blk_alloc ?_ _));exact BK111.out) Tryd.underlying42 rfl (by kernel_rfl)) rfl ?_
   exact ⟨au2,by repeat (first | (with_reducible first | exact HB.out | apply below_alloc | apply pw_below_drewN | apply below_drew1 | refine below_set ?_ GE111.out) | exact HB.out)⟩
  ·rw [if_neg c4] at H
   have c4b0 : (t113 == 1) = false := beq_eq_false_iff_ne.mpr c4
   have c4b1 : (t113 != 1) = true := bne_iff_ne.mpr c4
   simp only [Option.some.injEq,Prod.mk.injEq] at H
   obtain ⟨rfl,rfl⟩ := H
   go_enter Tryd.func60,Tryd.ntmps60
   go_wp2_with (first | ((with_reducible refine gate_dst (N := 2) rfl ?_);refine box_event ?hg (N := 2) ?hd (cs := #[.int .i32 0,.int .i64 0]) (t := 42) ?hr ?_;(case hd => rfl);(case hg => rfl);(case hr => first | (go_simp;done) | (go_simp;rfl));intro gb111 hg w8 hbox hb;have n0_ := Aside0.mk (below_step au0 hb);have n1_ := Aside0.mk (hbox);have n2_ := Aside0.mk ((by rw [hg];exact (below_size au0) : w.heap.size ≤ gb111));have n3_ := Aside0.mk ((by rw [hg];exact (below_size au0) : w.heap.size ≤ gb111));clear HB;have HB := n0_;have BK111 := n1_;have GW111 := n2_;have GE111 := n3_;clear n0_ n1_ n2_ n3_;clear hb hbox hg) | ((with_reducible refine gate_callee (f := 76) rfl ?_);refine goesL_ (some 7) rfl rfl Tryd.func76 (by kernel_rfl) rfl #[.string a0] rfl au1 ?_;(with_reducible refine (utf8_DecodeRuneInString.calls a0 t112 t113 _ ?side1 A2.out).mono ?_);(case side1 => exact tabs_below HT.out au22);rintro e w9 ⟨rfl,hb⟩;refine ⟨_,rfl,?_⟩;have n0_ := Aside0.mk (blk_below (g := gb111) (o := .cells #[.int .i32 0,.int .i64 0] 42 (0,0)) (by (with_reducible repeat (first | refine blk_drewN ?_ _ | refine blk_drew ?_ | refine blk_alloc ?_ _));exact BK111.out) hb);have n1_ := Aside0.mk (below_step au22 hb);clear BK111;clear HB;have BK111 := n0_;have HB := n1_;clear n0_ n1_;(try clear hb);(try clear hb2);(try clear hk);(try clear hi);have hcz10_0 : w9.cell? ⟨gb111,0,none⟩ = some (.int .i32 0) := (blk_cell BK111.out 0).trans rfl;have hcz10_1 : w9.cell? ⟨gb111,1,none⟩ = some (.int .i64 0) := (blk_cell BK111.out 1).trans rfl;have hfz10_0 := blk_frozen BK111.out 0;have hfz10_1 := blk_frozen BK111.out 1))
   refine bodyPost_ret (results_cell_row rfl _ _ gb111 42 #[.int .i32 t112,.int .i64 t113] (0,0) _ rfl au33 Tryd.underlying42 rfl (by kernel_rfl)) rfl ?_
   exact ⟨au2,by repeat (first | (with_reducible first | exact HB.out | apply below_alloc | apply pw_below_drewN | apply below_drew1 | refine below_set ?_ GE111.out) | exact HB.out)⟩
 ·rw [if_neg c3] at H
  have c3b0 : (t112 == 65533) = false := beq_eq_false_iff_ne.mpr c3
  have c3b1 : (t112 != 65533) = true := bne_iff_ne.mpr c3
  simp only [Option.some.injEq,Prod.mk.injEq] at H
  obtain ⟨rfl,rfl⟩ := H
  go_enter Tryd.func60,Tryd.ntmps60
  go_wp2_with (first | ((with_reducible refine gate_dst (N := 2) rfl ?_);refine box_event ?hg (N := 2) ?hd (cs := #[.int .i32 0,.int .i64 0]) (t := 42) ?hr ?_;(case hd => rfl);(case hg => rfl);(case hr => first | (go_simp;done) | (go_simp;rfl));intro gb111 hg w11 hbox hb;have n0_ := Aside0.mk (below_step au0 hb);have n1_ := Aside0.mk (hbox);have n2_ := Aside0.mk ((by rw [hg];exact (below_size au0) : w.heap.size ≤ gb111));have n3_ := Aside0.mk ((by rw [hg];exact (below_size au0) : w.heap.size ≤ gb111));clear HB;have HB := n0_;have BK111 := n1_;have GW111 := n2_;have GE111 := n3_;clear n0_ n1_ n2_ n3_;clear hb hbox hg) | ((with_reducible refine gate_callee (f := 76) rfl ?_);refine goesL_ (some 7) rfl rfl Tryd.func76 (by kernel_rfl) rfl #[.string a0] rfl au1 ?_;(with_reducible refine (utf8_DecodeRuneInString.calls a0 t112 t113 _ ?side1 A2.out).mono ?_);(case side1 => exact tabs_below HT.out au22);rintro e w12 ⟨rfl,hb⟩;refine ⟨_,rfl,?_⟩;have n0_ := Aside0.mk (blk_below (g := gb111) (o := .cells #[.int .i32 0,.int .i64 0] 42 (0,0)) (by (with_reducible repeat (first | refine blk_drewN ?_ _ | refine blk_drew ?_ | refine blk_alloc ?_ _));exact BK111.out) hb);have n1_ := Aside0.mk (below_step au22 hb);clear BK111;clear HB;have BK111 := n0_;have HB := n1_;clear n0_ n1_;(try clear hb);(try clear hb2);(try clear hk);(try clear hi);have hcz13_0 : w12.cell? ⟨gb111,0,none⟩ = some (.int .i32 0) := (blk_cell BK111.out 0).trans rfl;have hcz13_1 : w12.cell? ⟨gb111,1,none⟩ = some (.int .i64 0) := (blk_cell BK111.out 1).trans rfl;have hfz13_0 := blk_frozen BK111.out 0;have hfz13_1 := blk_frozen BK111.out 1))
  refine bodyPost_ret (results_cell_row rfl _ _ gb111 42 #[.int .i32 t112,.int .i64 t113] (0,0) _ rfl au33 Tryd.underlying42 rfl (by kernel_rfl)) rfl ?_
  exact ⟨au2,by repeat (first | (with_reducible first | exact HB.out | apply below_alloc | apply pw_below_drewN | apply below_drew1 | refine below_set ?_ GE111.out) | exact HB.out)⟩
def unit_around.l0 : Nat → ByteArray → Int → Int → Option (Int × Int)
 | 0,_,_,_ => none
 | k + 1,x0,x1,x6 => if x6 < x1 then (if 0 ≤ x6 then (if x6 ≤ (x0.size : Int) then ((unit_first.f (x0.extract (x6 : Int).toNat x0.size)).bind fun bt114 => (if (wrap64 (x6 + bt114.2)) > x1 then (some (x6,wrap64 (x6 + bt114.2))) else (unit_around.l0 k x0 x1 (wrap64 (x6 + 1))))) else (none)) else (none)) else (if x1 = (x0.size : Int) then (some (x1,x1)) else (if 0 ≤ x1 then (if x1 ≤ (x0.size : Int) then ((unit_first.f (x0.extract (x1 : Int).toNat x0.size)).bind fun bt117 => (some (x1,wrap64 (x1 + bt117.2)))) else (none)) else (none)))
def unit_around.f (k : Nat) (a0 : ByteArray) (a1 : Int) : Option (Int × Int) := unit_around.l0 k a0 a1 (mx 0 (wrap64 (a1 - 3)))
theorem unit_around.mono_l : ∀ k,(∀ y0 y1 y2,LeO (unit_around.l0 k y0 y1 y2) (unit_around.l0 (k + 1) y0 y1 y2))
 | 0 => fun _ _ _ r h => by simp [unit_around.l0] at h
 | k + 1 => by
  have ih0 := unit_around.mono_l k
  ·intro y0 y1 y2
   unfold unit_around.l0
   repeat' first
   | (with_reducible exact ih0 _ _ _)
   | (with_reducible exact LeO.refl _)
   | (with_reducible exact LeO.none _)
   | (with_reducible refine LeO.ite ?_ ?_)
   | (with_reducible refine LeO.bind ?_ (fun _ => ?_))
   | exact ih0 _ _ _
   | exact LeO.none _
   | refine LeO.ite ?_ ?_
   | refine LeO.bind ?_ (fun _ => ?_)
theorem unit_around.mono : ∀ a0 a1 k,LeO (unit_around.f k a0 a1) (unit_around.f (k + 1) a0 a1) := by
 intro a0 a1 k
 have ih0 := unit_around.mono_l k
 unfold unit_around.f
 repeat' first
   | (with_reducible exact ih0 _ _ _)
   | (with_reducible exact LeO.refl _)
   | (with_reducible exact LeO.none _)
   | (with_reducible refine LeO.ite ?_ ?_)
   | (with_reducible refine LeO.bind ?_ (fun _ => ?_))
   | exact ih0 _ _ _
   | exact LeO.none _
   | refine LeO.ite ?_ ?_
   | refine LeO.bind ?_ (fun _ => ?_)
set_option maxHeartbeats 8000000 in
set_option maxRecDepth 100000 in
theorem unit_around.calls (k : Nat) (a0 : ByteArray) (a1 : Int) (r1 : Int) (r2 : Int) (w : World) (hT : Lib.Utf8Tabs 0 1 w) (h : unit_around.f k a0 a1 = some (r1,r2)) :
  Calls Tryd.prog 71 #[.string a0,.int .i64 a1] w fun e w' => e = .returned (.tuple #[.int .i64 r1,.int .i64 r2]) ∧ Below w.heap.size w w' := by
 have hu42 := Tryd.underlying42
 have hfd42_1 : ∀ (x0 x1 : Value) (W : World),(Instr.field 42 (.agg #[x0,x1]) 1).run Tryd.prog W = .ok (x1) W := fun _ _ _ => by kernel_rfl
 have HT := Aside0.mk hT
 clear hT
 have HB := Aside0.mk (Below.refl w.heap.size w)
 have H : (unit_around.l0 k a0 a1 (mx 0 (wrap64 (a1 - 3)))) = some (r1,r2) := h
 clear h
 obtain ⟨ji3,hji3⟩ : ∃ j_ : Int,(mx 0 (wrap64 (a1 - 3))) = j_ := ⟨_,rfl⟩
 replace H : (unit_around.l0 k a0 a1 ji3) = some (r1,r2) := by first | (rw [hji3] at H;exact H) | (simp only [hji3] at H ⊢;exact H)
 (try (have hji3l : 0 ≤ ji3 := by (rw [← hji3];unfold mx;(repeat' split) <;> omega)))
 (try (have hji3m : 0 ≤ ji3 := by omega))
 have hji3_ : (if 0 < (wrap64 (a1 - 3)) then (wrap64 (a1 - 3)) else 0) = ji3 := hji3
 have H' := Aside0.mk H
 clear H
 go_enter Tryd.func71,Tryd.ntmps71
 go_wp2
 repeat (go_quiet (fail);try go_wp2)
 go_loopg [6] k (fun kq v6 w' => ∃ (x6_1 : Int),v6 = .int .i64 x6_1 ∧ Aside0 (unit_around.l0 kq a0 a1 x6_1 = some (r1,r2)) ∧ Aside0 (kq ≤ k) ∧ Aside0 (Below w.heap.size w w'))
 case atStart => exact ⟨(ji3),(by first | rfl | (simp;done) | (simp only [← hji3] <;> (first | rfl | simp)) | (simp [*];done)),H',⟨Nat.le_refl _⟩,⟨au0⟩⟩
 case round =>
  clear H'
  try clear p2
  obtain ⟨x6_1,rfl,HA,HK1,HB⟩ := hrel
  cases gk with
  | zero => exact absurd HA.out (by simp [unit_around.l0])
  | succ k1 =>
   have H := HA.out
   clear HA
   simp only [unit_around.l0] at H
   by_cases c4 : x6_1 < a1
   ·rw [if_pos c4] at H
    have c4b0 : decide (x6_1 < a1) = true := decide_eq_true c4
    clear c4
    by_cases c5 : 0 ≤ x6_1
    ·rw [if_pos c5] at H
     have c5b0 := eq_true c5
     have c5b1 : decide (0 ≤ x6_1) = true := decide_eq_true c5
     clear c5
     by_cases c6 : x6_1 ≤ (a0.size : Int)
     ·rw [if_pos c6] at H
      have c6b0 := eq_true c6
      have c6b1 : decide (x6_1 ≤ (a0.size : Int)) = true := decide_eq_true c6
      clear c6
      replace H := Option.bind_eq_some_iff.mp H
      obtain ⟨⟨t114,t115⟩,A70,H⟩ := H
      replace H : (if (wrap64 (x6_1 + t115)) > a1 then (some (x6_1,wrap64 (x6_1 + t115))) else (unit_around.l0 k1 a0 a1 (wrap64 (x6_1 + 1)))) = some (r1,r2) := H
      have A7 := Aside0.mk A70
      clear A70
      by_cases c8 : (wrap64 (x6_1 + t115)) > a1
      ·rw [if_pos c8] at H
       have c8b0 : decide (a1 < (wrap64 (x6_1 + t115))) = true := decide_eq_true c8
       clear c8
       simp only [Option.some.injEq,Prod.mk.injEq] at H
       obtain ⟨rfl,rfl⟩ := H
       go_wp2_with (first | (go_at_call 60;(with_reducible refine (unit_first.calls (a0.extract (x6_1 : Int).toNat a0.size) t114 t115 _ ?side1 A7.out).mono ?_);(case side1 => exact tabs_below HT.out au0);rintro e w9 ⟨rfl,hb⟩;have n0_ := Aside0.mk (below_step au0 hb);clear HB;have HB := n0_;clear n0_;(try clear hb);(try clear hb2);(try clear hk);(try clear hi)) | ((with_reducible refine gate_dst (N := 7) rfl ?_);refine box_event ?hg (N := 7) ?hd (cs := #[.int .i32 0,.int .i64 0]) (t := 42) ?hr ?_;(case hd => rfl);(case hg => rfl);(case hr => first | (go_simp;done) | (go_simp;rfl));intro gb116 hg w10 hbox hb;have n0_ := Aside0.mk (below_step au0 hb);have n1_ := Aside0.mk (hbox);have n2_ := Aside0.mk ((by rw [hg];exact (below_size au0) : w.heap.size ≤ gb116));have n3_ := Aside0.mk ((by rw [hg];exact (below_size au0) : w.heap.size ≤ gb116));clear HB;have HB := n0_;have BK116 := n1_;have GW116 := n2_;have GE116 := n3_;clear n0_ n1_ n2_ n3_;clear hb hbox hg;have hcz11_0 : w10.cell? ⟨gb116,0,none⟩ = some (.int .i32 0) := (blk_cell BK116.out 0).trans rfl;have hcz11_1 : w10.cell? ⟨gb116,1,none⟩ = some (.int .i64 0) := (blk_cell BK116.out 1).trans rfl;have hfz11_0 := blk_frozen BK116.out 0;have hfz11_1 := blk_frozen BK116.out 1))
       repeat (go_quiet (first | (go_at_call 60;(with_reducible refine (unit_first.calls (a0.extract (x6_1 : Int).toNat a0.size) t114 t115 _ ?side1 A7.out).mono ?_);(case side1 => exact tabs_below HT.out au0);rintro e w9 ⟨rfl,hb⟩;have n0_ := Aside0.mk (below_step au0 hb);clear HB;have HB := n0_;clear n0_;(try clear hb);(try clear hb2);(try clear hk);(try clear hi)) | ((with_reducible refine gate_dst (N := 7) rfl ?_);refine box_event ?hg (N := 7) ?hd (cs := #[.int .i32 0,.int .i64 0]) (t := 42) ?hr ?_;(case hd => rfl);(case hg => rfl);(case hr => first | (go_simp;done) | (go_simp;rfl));intro gb116 hg w10 hbox hb;have n0_ := Aside0.mk (below_step au0 hb);have n1_ := Aside0.mk (hbox);have n2_ := Aside0.mk ((by rw [hg];exact (below_size au0) : w.heap.size ≤ gb116));have n3_ := Aside0.mk ((by rw [hg];exact (below_size au0) : w.heap.size ≤ gb116));clear HB;have HB := n0_;have BK116 := n1_;have GW116 := n2_;have GE116 := n3_;clear n0_ n1_ n2_ n3_;clear hb hbox hg;have hcz11_0 : w10.cell? ⟨gb116,0,none⟩ = some (.int .i32 0) := (blk_cell BK116.out 0).trans rfl;have hcz11_1 : w10.cell? ⟨gb116,1,none⟩ = some (.int .i64 0) := (blk_cell BK116.out 1).trans rfl;have hfz11_0 := blk_frozen BK116.out 0;have hfz11_1 := blk_frozen BK116.out 1));try go_wp2_with (first | (go_at_call 60;(with_reducible refine (unit_first.calls (a0.extract (x6_1 : Int).toNat a0.size) t114 t115 _ ?side1 A7.out).mono ?_);(case side1 => exact tabs_below HT.out au0);rintro e w9 ⟨rfl,hb⟩;have n0_ := Aside0.mk (below_step au0 hb);clear HB;have HB := n0_;clear n0_;(try clear hb);(try clear hb2);(try clear hk);(try clear hi)) | ((with_reducible refine gate_dst (N := 7) rfl ?_);refine box_event ?hg (N := 7) ?hd (cs := #[.int .i32 0,.int .i64 0]) (t := 42) ?hr ?_;(case hd => rfl);(case hg => rfl);(case hr => first | (go_simp;done) | (go_simp;rfl));intro gb116 hg w10 hbox hb;have n0_ := Aside0.mk (below_step au0 hb);have n1_ := Aside0.mk (hbox);have n2_ := Aside0.mk ((by rw [hg];exact (below_size au0) : w.heap.size ≤ gb116));have n3_ := Aside0.mk ((by rw [hg];exact (below_size au0) : w.heap.size ≤ gb116));clear HB;have HB := n0_;have BK116 := n1_;have GW116 := n2_;have GE116 := n3_;clear n0_ n1_ n2_ n3_;clear hb hbox hg;have hcz11_0 : w10.cell? ⟨gb116,0,none⟩ = some (.int .i32 0) := (blk_cell BK116.out 0).trans rfl;have hcz11_1 : w10.cell? ⟨gb116,1,none⟩ = some (.int .i64 0) := (blk_cell BK116.out 1).trans rfl;have hfz11_0 := blk_frozen BK116.out 0;have hfz11_1 := blk_frozen BK116.out 1)))
       go_ret2
       exact ⟨by first | rfl | (simp [errW_none,errW_some] <;> rfl) | (simp only [← hji3];first | rfl | (simp [errW_none,errW_some] <;> rfl)) | (simp [*,errW_none,errW_some] <;> rfl),by repeat (first | (with_reducible first | exact HB.out | apply below_alloc | apply pw_below_drewN | apply below_drew1 | refine below_set ?_ GE116.out) | exact HB.out)⟩
      ·rw [if_neg c8] at H
       have c8b0 : decide (a1 < (wrap64 (x6_1 + t115))) = false := decide_eq_false c8
       clear c8
       have H' := Aside0.mk H
       clear H
       go_wp2_with (first | (go_at_call 60;(with_reducible refine (unit_first.calls (a0.extract (x6_1 : Int).toNat a0.size) t114 t115 _ ?side1 A7.out).mono ?_);(case side1 => exact tabs_below HT.out au0);rintro e w12 ⟨rfl,hb⟩;have n0_ := Aside0.mk (below_step au0 hb);clear HB;have HB := n0_;clear n0_;(try clear hb);(try clear hb2);(try clear hk);(try clear hi)) | ((with_reducible refine gate_dst (N := 7) rfl ?_);refine box_event ?hg (N := 7) ?hd (cs := #[.int .i32 0,.int .i64 0]) (t := 42) ?hr ?_;(case hd => rfl);(case hg => rfl);(case hr => first | (go_simp;done) | (go_simp;rfl));intro gb116 hg w13 hbox hb;have n0_ := Aside0.mk (below_step au0 hb);have n1_ := Aside0.mk (hbox);have n2_ := Aside0.mk ((by rw [hg];exact (below_size au0) : w.heap.size ≤ gb116));have n3_ := Aside0.mk ((by rw [hg];exact (below_size au0) : w.heap.size ≤ gb116));clear HB;have HB := n0_;have BK116 := n1_;have GW116 := n2_;have GE116 := n3_;clear n0_ n1_ n2_ n3_;clear hb hbox hg;have hcz14_0 : w13.cell? ⟨gb116,0,none⟩ = some (.int .i32 0) := (blk_cell BK116.out 0).trans rfl;have hcz14_1 : w13.cell? ⟨gb116,1,none⟩ = some (.int .i64 0) := (blk_cell BK116.out 1).trans rfl;have hfz14_0 := blk_frozen BK116.out 0;have hfz14_1 := blk_frozen BK116.out 1))
       repeat (go_quiet (first | (go_at_call 60;(with_reducible refine (unit_first.calls (a0.extract (x6_1 : Int).toNat a0.size) t114 t115 _ ?side1 A7.out).mono ?_);(case side1 => exact tabs_below HT.out au0);rintro e w12 ⟨rfl,hb⟩;have n0_ := Aside0.mk (below_step au0 hb);clear HB;have HB := n0_;clear n0_;(try clear hb);(try clear hb2);(try clear hk);(try clear hi)) | ((with_reducible refine gate_dst (N := 7) rfl ?_);refine box_event ?hg (N := 7) ?hd (cs := #[.int .i32 0,.int .i64 0]) (t := 42) ?hr ?_;(case hd => rfl);(case hg => rfl);(case hr => first | (go_simp;done) | (go_simp;rfl));intro gb116 hg w13 hbox hb;have n0_ := Aside0.mk (below_step au0 hb);have n1_ := Aside0.mk (hbox);have n2_ := Aside0.mk ((by rw [hg];exact (below_size au0) : w.heap.size ≤ gb116));have n3_ := Aside0.mk ((by rw [hg];exact (below_size au0) : w.heap.size ≤ gb116));clear HB;have HB := n0_;have BK116 := n1_;have GW116 := n2_;have GE116 := n3_;clear n0_ n1_ n2_ n3_;clear hb hbox hg;have hcz14_0 : w13.cell? ⟨gb116,0,none⟩ = some (.int .i32 0) := (blk_cell BK116.out 0).trans rfl;have hcz14_1 : w13.cell? ⟨gb116,1,none⟩ = some (.int .i64 0) := (blk_cell BK116.out 1).trans rfl;have hfz14_0 := blk_frozen BK116.out 0;have hfz14_1 := blk_frozen BK116.out 1));try go_wp2_with (first | (go_at_call 60;(with_reducible refine (unit_first.calls (a0.extract (x6_1 : Int).toNat a0.size) t114 t115 _ ?side1 A7.out).mono ?_);(case side1 => exact tabs_below HT.out au0);rintro e w12 ⟨rfl,hb⟩;have n0_ := Aside0.mk (below_step au0 hb);clear HB;have HB := n0_;clear n0_;(try clear hb);(try clear hb2);(try clear hk);(try clear hi)) | ((with_reducible refine gate_dst (N := 7) rfl ?_);refine box_event ?hg (N := 7) ?hd (cs := #[.int .i32 0,.int .i64 0]) (t := 42) ?hr ?_;(case hd => rfl);(case hg => rfl);(case hr => first | (go_simp;done) | (go_simp;rfl));intro gb116 hg w13 hbox hb;have n0_ := Aside0.mk (below_step au0 hb);have n1_ := Aside0.mk (hbox);have n2_ := Aside0.mk ((by rw [hg];exact (below_size au0) : w.heap.size ≤ gb116));have n3_ := Aside0.mk ((by rw [hg];exact (below_size au0) : w.heap.size ≤ gb116));clear HB;have HB := n0_;have BK116 := n1_;have GW116 := n2_;have GE116 := n3_;clear n0_ n1_ n2_ n3_;clear hb hbox hg;have hcz14_0 : w13.cell? ⟨gb116,0,none⟩ = some (.int .i32 0) := (blk_cell BK116.out 0).trans rfl;have hcz14_1 : w13.cell? ⟨gb116,1,none⟩ = some (.int .i64 0) := (blk_cell BK116.out 1).trans rfl;have hfz14_0 := blk_frozen BK116.out 0;have hfz14_1 := blk_frozen BK116.out 1)))
       go_roundg k1
       case measure => have := HK1.out;omega
       case rel => exact ⟨(wrap64 (x6_1 + 1)),au3,H',⟨by have := HK1.out;omega⟩,⟨by repeat (first | (with_reducible first | exact HB.out | apply below_alloc | apply pw_below_drewN | apply below_drew1 | refine below_set ?_ GE116.out) | exact HB.out)⟩⟩
     ·rw [if_neg c6] at H
      exact absurd H (by simp)
    ·rw [if_neg c5] at H
     exact absurd H (by simp)
   ·rw [if_neg c4] at H
    have c4b0 : decide (x6_1 < a1) = false := decide_eq_false c4
    clear c4
    by_cases c15 : a1 = (a0.size : Int)
    ·rw [if_pos c15] at H
     have c15b0 : (a1 == (a0.size : Int)) = true := beq_iff_eq.mpr c15
     have c15b1 : (a1 != (a0.size : Int)) = false := bne_eq_false_iff_eq.mpr c15
     clear c15
     simp only [Option.some.injEq,Prod.mk.injEq] at H
     obtain ⟨rfl,rfl⟩ := H
     go_wp2
     repeat (go_quiet (fail);try go_wp2)
     go_ret2
     exact ⟨by first | rfl | (simp [errW_none,errW_some] <;> rfl) | (simp only [← hji3];first | rfl | (simp [errW_none,errW_some] <;> rfl)) | (simp [*,errW_none,errW_some] <;> rfl),au0⟩
    ·rw [if_neg c15] at H
     have c15b0 : (a1 == (a0.size : Int)) = false := beq_eq_false_iff_ne.mpr c15
     have c15b1 : (a1 != (a0.size : Int)) = true := bne_iff_ne.mpr c15
     by_cases c16 : 0 ≤ a1
     ·rw [if_pos c16] at H
      have c16b0 := eq_true c16
      have c16b1 : decide (0 ≤ a1) = true := decide_eq_true c16
      clear c16
      by_cases c17 : a1 ≤ (a0.size : Int)
      ·rw [if_pos c17] at H
       have c17b0 := eq_true c17
       have c17b1 : decide (a1 ≤ (a0.size : Int)) = true := decide_eq_true c17
       clear c17
       replace H := Option.bind_eq_some_iff.mp H
       obtain ⟨⟨t117,t118⟩,A180,H⟩ := H
       replace H : (some (a1,wrap64 (a1 + t118))) = some (r1,r2) := H
       have A18 := Aside0.mk A180
       clear A180
       simp only [Option.some.injEq,Prod.mk.injEq] at H
       obtain ⟨rfl,rfl⟩ := H
       go_wp2_with (first | (go_at_call 60;(with_reducible refine (unit_first.calls (a0.extract (a1 : Int).toNat a0.size) t117 t118 _ ?side1 A18.out).mono ?_);(case side1 => exact tabs_below HT.out au0);rintro e w19 ⟨rfl,hb⟩;have n0_ := Aside0.mk (below_step au0 hb);clear HB;have HB := n0_;clear n0_;(try clear hb);(try clear hb2);(try clear hk);(try clear hi)))
       repeat (go_quiet (first | (go_at_call 60;(with_reducible refine (unit_first.calls (a0.extract (a1 : Int).toNat a0.size) t117 t118 _ ?side1 A18.out).mono ?_);(case side1 => exact tabs_below HT.out au0);rintro e w19 ⟨rfl,hb⟩;have n0_ := Aside0.mk (below_step au0 hb);clear HB;have HB := n0_;clear n0_;(try clear hb);(try clear hb2);(try clear hk);(try clear hi)));try go_wp2_with (first | (go_at_call 60;(with_reducible refine (unit_first.calls (a0.extract (a1 : Int).toNat a0.size) t117 t118 _ ?side1 A18.out).mono ?_);(case side1 => exact tabs_below HT.out au0);rintro e w19 ⟨rfl,hb⟩;have n0_ := Aside0.mk (below_step au0 hb);clear HB;have HB := n0_;clear n0_;(try clear hb);(try clear hb2);(try clear hk);(try clear hi))))
       go_ret2
       exact ⟨by first | rfl | (simp [errW_none,errW_some] <;> rfl) | (simp only [← hji3];first | rfl | (simp [errW_none,errW_some] <;> rfl)) | (simp [*,errW_none,errW_some] <;> rfl),au0⟩
      ·rw [if_neg c17] at H
       exact absurd H (by simp)
     ·rw [if_neg c16] at H
      exact absurd H (by simp)
def unit_Boundary.f (k : Nat) (a0 : ByteArray) (a1 : Int) : Option (Bool) := if a1 < 0 then (some false) else (if a1 > (a0.size : Int) then (some false) else ((unit_around.f k a0 a1).bind fun bt119 => (some (bt119.1 == a1))))
theorem unit_Boundary.mono : ∀ a0 a1 k,LeO (unit_Boundary.f k a0 a1) (unit_Boundary.f (k + 1) a0 a1) := by
 intro a0 a1 k
 unfold unit_Boundary.f
 repeat' first
   | (with_reducible exact unit_around.mono _ _ _)
   | (with_reducible exact LeO.refl _)
   | (with_reducible exact LeO.none _)
   | (with_reducible refine LeO.ite ?_ ?_)
   | (with_reducible refine LeO.bind ?_ (fun _ => ?_))
   | exact unit_around.mono _ _ _
   | exact LeO.none _
   | refine LeO.ite ?_ ?_
   | refine LeO.bind ?_ (fun _ => ?_)
set_option maxHeartbeats 8000000 in
set_option maxRecDepth 100000 in
theorem unit_Boundary.calls (k : Nat) (a0 : ByteArray) (a1 : Int) (r : Bool) (w : World) (hT : Lib.Utf8Tabs 0 1 w) (h : unit_Boundary.f k a0 a1 = some r) :
  Calls Tryd.prog 49 #[.string a0,.int .i64 a1] w fun e w' => e = .returned (.bool r) ∧ Below w.heap.size w w' := by
 have HT := Aside0.mk hT
 clear hT
 have HB := Aside0.mk (Below.refl w.heap.size w)
 have H : (if a1 < 0 then (some false) else (if a1 > (a0.size : Int) then (some false) else ((unit_around.f k a0 a1).bind fun bt119 => (some (bt119.1 == a1))))) = some r := h
 clear h
 by_cases c3 : a1 < 0
 ·rw [if_pos c3] at H
  have c3b0 : decide (a1 < 0) = true := decide_eq_true c3
  clear c3
  obtain rfl := Option.some.inj H
  go_enter Tryd.func49,Tryd.ntmps49
  go_wp2
  go_ret
  exact ⟨au2,au0⟩
 ·rw [if_neg c3] at H
  have c3b0 : decide (a1 < 0) = false := decide_eq_false c3
  clear c3
  by_cases c4 : a1 > (a0.size : Int)
  ·rw [if_pos c4] at H
   have c4b0 : decide ((a0.size : Int) < a1) = true := decide_eq_true c4
   clear c4
   obtain rfl := Option.some.inj H
   go_enter Tryd.func49,Tryd.ntmps49
   go_wp2
   go_ret
   exact ⟨au2,au0⟩
  ·rw [if_neg c4] at H
   have c4b0 : decide ((a0.size : Int) < a1) = false := decide_eq_false c4
   clear c4
   replace H := Option.bind_eq_some_iff.mp H
   obtain ⟨⟨t119,t120⟩,A50,H⟩ := H
   replace H : (some (t119 == a1)) = some r := H
   have A5 := Aside0.mk A50
   clear A50
   obtain rfl := Option.some.inj H
   go_enter Tryd.func49,Tryd.ntmps49
   go_wp2_with (first | ((with_reducible refine gate_callee (f := 71) rfl ?_);refine goesL_ (some 18) rfl rfl Tryd.func71 (by kernel_rfl) rfl #[.string a0,.int .i64 a1] rfl au1 ?_;(with_reducible refine (unit_around.calls k a0 a1 t119 t120 _ ?side1 A5.out).mono ?_);(case side1 => exact tabs_below HT.out au0);rintro e w6 ⟨rfl,hb⟩;refine ⟨_,rfl,?_⟩;have n0_ := Aside0.mk (below_step au0 hb);clear HB;have HB := n0_;clear n0_;(try clear hb);(try clear hb2);(try clear hk);(try clear hi)))
   go_ret
   exact ⟨au2,au0⟩
def unit_At.f (k : Nat) (a0 : ByteArray) (a1 : Int) : Option (Int × Int × Bool) := if a1 < 0 then (some (0,0,false)) else (if a1 ≥ (a0.size : Int) then (some (0,0,false)) else ((unit_Boundary.f k a0 a1).bind fun t122 => (if t122 = true then (if 0 ≤ a1 then (if a1 ≤ (a0.size : Int) then ((unit_first.f (a0.extract (a1 : Int).toNat a0.size)).bind fun bt123 => (some (bt123.1,bt123.2,true))) else (none)) else (none)) else (some (0,0,false)))))
theorem unit_At.mono : ∀ a0 a1 k,LeO (unit_At.f k a0 a1) (unit_At.f (k + 1) a0 a1) := by
 intro a0 a1 k
 unfold unit_At.f
 repeat' first
   | (with_reducible exact unit_Boundary.mono _ _ _)
   | (with_reducible exact LeO.refl _)
   | (with_reducible exact LeO.none _)
   | (with_reducible refine LeO.ite ?_ ?_)
   | (with_reducible refine LeO.bind ?_ (fun _ => ?_))
   | exact unit_Boundary.mono _ _ _
   | exact LeO.none _
   | refine LeO.ite ?_ ?_
   | refine LeO.bind ?_ (fun _ => ?_)
set_option maxHeartbeats 8000000 in
set_option maxRecDepth 100000 in
theorem unit_At.calls (k : Nat) (a0 : ByteArray) (a1 : Int) (r1 : Int) (r2 : Int) (r3 : Bool) (w : World) (hT : Lib.Utf8Tabs 0 1 w) (h : unit_At.f k a0 a1 = some (r1,r2,r3)) :
  Calls Tryd.prog 36 #[.string a0,.int .i64 a1] w fun e w' => e = .returned (.tuple #[.agg #[.int .i32 r1,.int .i64 r2],.bool r3]) ∧ Below w.heap.size w w' := by
 have hu42 := Tryd.underlying42
 have HT := Aside0.mk hT
 clear hT
 have HB := Aside0.mk (Below.refl w.heap.size w)
 have H : (if a1 < 0 then (some (0,0,false)) else (if a1 ≥ (a0.size : Int) then (some (0,0,false)) else ((unit_Boundary.f k a0 a1).bind fun t122 => (if t122 = true then (if 0 ≤ a1 then (if a1 ≤ (a0.size : Int) then ((unit_first.f (a0.extract (a1 : Int).toNat a0.size)).bind fun bt123 => (some (bt123.1,bt123.2,true))) else (none)) else (none)) else (some (0,0,false)))))) = some (r1,r2,r3) := h
 clear h
 by_cases c3 : a1 < 0
 ·rw [if_pos c3] at H
  have c3b0 : decide (a1 < 0) = true := decide_eq_true c3
  clear c3
  simp only [Option.some.injEq,Prod.mk.injEq] at H
  obtain ⟨rfl,rfl,rfl⟩ := H
  go_enter Tryd.func36,Tryd.ntmps36
  go_wp2_with (first | ((with_reducible refine gate_dst (N := 4) rfl ?_);(try (refine gate_guard (by rfl) ?_;dsimp only));refine box_event ?hg (N := 4) ?hd (cs := #[.int .i32 0,.int .i64 0]) (t := 42) ?hr ?_;(case hd => rfl);(case hg => rfl);(case hr => first | (go_simp;done) | (go_simp;rfl));intro gb121 hg w4 hbox hb;have n0_ := Aside0.mk (below_step au0 hb);have n1_ := Aside0.mk (hbox);have n2_ := Aside0.mk ((by rw [hg];exact (below_size au0) : w.heap.size ≤ gb121));have n3_ := Aside0.mk ((by rw [hg];exact (below_size au0) : w.heap.size ≤ gb121));clear HB;have HB := n0_;have BK121 := n1_;have GW121 := n2_;have GE121 := n3_;clear n0_ n1_ n2_ n3_;clear hb hbox hg;have hcz5_0 : w4.cell? ⟨gb121,0,none⟩ = some (.int .i32 0) := (blk_cell BK121.out 0).trans rfl;have hcz5_1 : w4.cell? ⟨gb121,1,none⟩ = some (.int .i64 0) := (blk_cell BK121.out 1).trans rfl;have hfz5_0 := blk_frozen BK121.out 0;have hfz5_1 := blk_frozen BK121.out 1))
  refine bodyPost_ret (results_ct rfl _ _ gb121 42 #[.int .i32 0,.int .i64 0] (0,0) _ rfl au20 Tryd.underlying42 rfl (by kernel_rfl)) rfl ?_
  exact ⟨au2,by repeat (first | (with_reducible first | exact HB.out | apply below_alloc | apply pw_below_drewN | apply below_drew1 | refine below_set ?_ GE121.out) | exact HB.out)⟩
 ·rw [if_neg c3] at H
  have c3b0 : decide (a1 < 0) = false := decide_eq_false c3
  clear c3
  by_cases c6 : a1 ≥ (a0.size : Int)
  ·rw [if_pos c6] at H
   have c6b0 : decide ((a0.size : Int) ≤ a1) = true := decide_eq_true c6
   clear c6
   simp only [Option.some.injEq,Prod.mk.injEq] at H
   obtain ⟨rfl,rfl,rfl⟩ := H
   go_enter Tryd.func36,Tryd.ntmps36
   go_wp2_with (first | ((with_reducible refine gate_dst (N := 4) rfl ?_);(try (refine gate_guard (by rfl) ?_;dsimp only));refine box_event ?hg (N := 4) ?hd (cs := #[.int .i32 0,.int .i64 0]) (t := 42) ?hr ?_;(case hd => rfl);(case hg => rfl);(case hr => first | (go_simp;done) | (go_simp;rfl));intro gb121 hg w7 hbox hb;have n0_ := Aside0.mk (below_step au0 hb);have n1_ := Aside0.mk (hbox);have n2_ := Aside0.mk ((by rw [hg];exact (below_size au0) : w.heap.size ≤ gb121));have n3_ := Aside0.mk ((by rw [hg];exact (below_size au0) : w.heap.size ≤ gb121));clear HB;have HB := n0_;have BK121 := n1_;have GW121 := n2_;have GE121 := n3_;clear n0_ n1_ n2_ n3_;clear hb hbox hg;have hcz8_0 : w7.cell? ⟨gb121,0,none⟩ = some (.int .i32 0) := (blk_cell BK121.out 0).trans rfl;have hcz8_1 : w7.cell? ⟨gb121,1,none⟩ = some (.int .i64 0) := (blk_cell BK121.out 1).trans rfl;have hfz8_0 := blk_frozen BK121.out 0;have hfz8_1 := blk_frozen BK121.out 1))
   refine bodyPost_ret (results_ct rfl _ _ gb121 42 #[.int .i32 0,.int .i64 0] (0,0) _ rfl au20 Tryd.underlying42 rfl (by kernel_rfl)) rfl ?_
   exact ⟨au2,by repeat (first | (with_reducible first | exact HB.out | apply below_alloc | apply pw_below_drewN | apply below_drew1 | refine below_set ?_ GE121.out) | exact HB.out)⟩
  ·rw [if_neg c6] at H
   have c6b0 : decide ((a0.size : Int) ≤ a1) = false := decide_eq_false c6
   clear c6
   replace H := Option.bind_eq_some_iff.mp H
   obtain ⟨t122,A90,H⟩ := H
   replace H : (if t122 = true then (if 0 ≤ a1 then (if a1 ≤ (a0.size : Int) then ((unit_first.f (a0.extract (a1 : Int).toNat a0.size)).bind fun bt123 => (some (bt123.1,bt123.2,true))) else (none)) else (none)) else (some (0,0,false))) = some (r1,r2,r3) := H
   have A9 := Aside0.mk A90
   clear A90
   by_cases c10 : t122 = true
   ·subst c10
    have H1 : (if 0 ≤ a1 then (if a1 ≤ (a0.size : Int) then ((unit_first.f (a0.extract (a1 : Int).toNat a0.size)).bind fun bt123 => (some (bt123.1,bt123.2,true))) else (none)) else (none)) = some (r1,r2,r3) := by rw [if_pos rfl] at H;exact H
    clear H
    have H := H1
    clear H1
    by_cases c11 : 0 ≤ a1
    ·rw [if_pos c11] at H
     have c11b0 := eq_true c11
     have c11b1 : decide (0 ≤ a1) = true := decide_eq_true c11
     clear c11
     by_cases c12 : a1 ≤ (a0.size : Int)
     ·rw [if_pos c12] at H
      have c12b0 := eq_true c12
      have c12b1 : decide (a1 ≤ (a0.size : Int)) = true := decide_eq_true c12
      clear c12
      replace H := Option.bind_eq_some_iff.mp H
      obtain ⟨⟨t123,t124⟩,A130,H⟩ := H
      replace H : (some (t123,t124,true)) = some (r1,r2,r3) := H
      have A13 := Aside0.mk A130
      clear A130
      simp only [Option.some.injEq,Prod.mk.injEq] at H
      obtain ⟨rfl,rfl,rfl⟩ := H
      go_enter Tryd.func36,Tryd.ntmps36
      go_wp2_with (first | ((with_reducible refine gate_dst (N := 4) rfl ?_);(try (refine gate_guard (by rfl) ?_;dsimp only));refine box_event ?hg (N := 4) ?hd (cs := #[.int .i32 0,.int .i64 0]) (t := 42) ?hr ?_;(case hd => rfl);(case hg => rfl);(case hr => first | (go_simp;done) | (go_simp;rfl));intro gb121 hg w14 hbox hb;have n0_ := Aside0.mk (below_step au0 hb);have n1_ := Aside0.mk (hbox);have n2_ := Aside0.mk ((by rw [hg];exact (below_size au0) : w.heap.size ≤ gb121));have n3_ := Aside0.mk ((by rw [hg];exact (below_size au0) : w.heap.size ≤ gb121));clear HB;have HB := n0_;have BK121 := n1_;have GW121 := n2_;have GE121 := n3_;clear n0_ n1_ n2_ n3_;clear hb hbox hg) | (go_at_call 49;(with_reducible refine (unit_Boundary.calls k a0 a1 true _ ?side1 A9.out).mono ?_);(case side1 => exact tabs_below HT.out au23);rintro e w15 ⟨rfl,hb⟩;have n0_ := Aside0.mk (blk_below (g := gb121) (o := .cells #[.int .i32 0,.int .i64 0] 42 (0,0)) (by (with_reducible repeat (first | refine blk_drewN ?_ _ | refine blk_drew ?_ | refine blk_alloc ?_ _));exact BK121.out) hb);have n1_ := Aside0.mk (below_step au23 hb);clear BK121;clear HB;have BK121 := n0_;have HB := n1_;clear n0_ n1_;(try clear hb);(try clear hb2);(try clear hk);(try clear hi)) | ((with_reducible refine gate_callee (f := 60) rfl ?_);refine goesL_ (some 24) rfl rfl Tryd.func60 (by kernel_rfl) rfl #[.string (a0.extract (a1 : Int).toNat a0.size)] rfl au1 ?_;(with_reducible refine (unit_first.calls (a0.extract (a1 : Int).toNat a0.size) t123 t124 _ ?side1 A13.out).mono ?_);(case side1 => exact tabs_below HT.out au23);rintro e w16 ⟨rfl,hb⟩;refine ⟨_,rfl,?_⟩;have n0_ := Aside0.mk (blk_below (g := gb121) (o := .cells #[.int .i32 0,.int .i64 0] 42 (0,0)) (by (with_reducible repeat (first | refine blk_drewN ?_ _ | refine blk_drew ?_ | refine blk_alloc ?_ _));exact BK121.out) hb);have n1_ := Aside0.mk (below_step au23 hb);clear BK121;clear HB;have BK121 := n0_;have HB := n1_;clear n0_ n1_;(try clear hb);(try clear hb2);(try clear hk);(try clear hi);have hcz17_0 : w16.cell? ⟨gb121,0,none⟩ = some (.int .i32 0) := (blk_cell BK121.out 0).trans rfl;have hcz17_1 : w16.cell? ⟨gb121,1,none⟩ = some (.int .i64 0) := (blk_cell BK121.out 1).trans rfl;have hfz17_0 := blk_frozen BK121.out 0;have hfz17_1 := blk_frozen BK121.out 1))
      refine bodyPost_ret (results_ct rfl _ _ gb121 42 #[.int .i32 t123,.int .i64 t124] (0,0) _ rfl (by (with_reducible repeat (first | refine blk_drewN ?_ _ | refine blk_drew ?_ | refine blk_alloc ?_ _));refine blk_put (cs := #[.int .i32 t123,.int .i64 0]) ?_ 1 _ rfl;(with_reducible repeat (first | refine blk_drewN ?_ _ | refine blk_drew ?_ | refine blk_alloc ?_ _));refine blk_put (cs := #[.int .i32 0,.int .i64 0]) ?_ 0 _ rfl;(with_reducible repeat (first | refine blk_drewN ?_ _ | refine blk_drew ?_ | refine blk_alloc ?_ _));exact BK121.out) Tryd.underlying42 rfl (by kernel_rfl)) rfl ?_
      exact ⟨au2,by repeat (first | (with_reducible first | exact HB.out | apply below_alloc | apply pw_below_drewN | apply below_drew1 | refine below_set ?_ GE121.out) | exact HB.out)⟩
     ·rw [if_neg c12] at H
      exact absurd H (by simp)
    ·rw [if_neg c11] at H
     exact absurd H (by simp)
   ·replace c10 := Bool.eq_false_iff.mpr c10
    subst c10
    have H1 : (some (0,0,false)) = some (r1,r2,r3) := by rw [if_neg (show ¬ (false = true) by decide)] at H;exact H
    clear H
    have H := H1
    clear H1
    simp only [Option.some.injEq,Prod.mk.injEq] at H
    obtain ⟨rfl,rfl,rfl⟩ := H
    go_enter Tryd.func36,Tryd.ntmps36
    go_wp2_with (first | ((with_reducible refine gate_dst (N := 4) rfl ?_);(try (refine gate_guard (by rfl) ?_;dsimp only));refine box_event ?hg (N := 4) ?hd (cs := #[.int .i32 0,.int .i64 0]) (t := 42) ?hr ?_;(case hd => rfl);(case hg => rfl);(case hr => first | (go_simp;done) | (go_simp;rfl));intro gb121 hg w18 hbox hb;have n0_ := Aside0.mk (below_step au0 hb);have n1_ := Aside0.mk (hbox);have n2_ := Aside0.mk ((by rw [hg];exact (below_size au0) : w.heap.size ≤ gb121));have n3_ := Aside0.mk ((by rw [hg];exact (below_size au0) : w.heap.size ≤ gb121));clear HB;have HB := n0_;have BK121 := n1_;have GW121 := n2_;have GE121 := n3_;clear n0_ n1_ n2_ n3_;clear hb hbox hg) | (go_at_call 49;(with_reducible refine (unit_Boundary.calls k a0 a1 false _ ?side1 A9.out).mono ?_);(case side1 => exact tabs_below HT.out au23);rintro e w19 ⟨rfl,hb⟩;have n0_ := Aside0.mk (blk_below (g := gb121) (o := .cells #[.int .i32 0,.int .i64 0] 42 (0,0)) (by (with_reducible repeat (first | refine blk_drewN ?_ _ | refine blk_drew ?_ | refine blk_alloc ?_ _));exact BK121.out) hb);have n1_ := Aside0.mk (below_step au23 hb);clear BK121;clear HB;have BK121 := n0_;have HB := n1_;clear n0_ n1_;(try clear hb);(try clear hb2);(try clear hk);(try clear hi);have hcz20_0 : w19.cell? ⟨gb121,0,none⟩ = some (.int .i32 0) := (blk_cell BK121.out 0).trans rfl;have hcz20_1 : w19.cell? ⟨gb121,1,none⟩ = some (.int .i64 0) := (blk_cell BK121.out 1).trans rfl;have hfz20_0 := blk_frozen BK121.out 0;have hfz20_1 := blk_frozen BK121.out 1))
    refine bodyPost_ret (results_ct rfl _ _ gb121 42 #[.int .i32 0,.int .i64 0] (0,0) _ rfl au20 Tryd.underlying42 rfl (by kernel_rfl)) rfl ?_
    exact ⟨au2,by repeat (first | (with_reducible first | exact HB.out | apply below_alloc | apply pw_below_drewN | apply below_drew1 | refine below_set ?_ GE121.out) | exact HB.out)⟩
def unit_Down.f (k : Nat) (a0 : ByteArray) (a1 : Int) : Option (Int) := (unit_around.f k a0 (mn (mx a1 0) (a0.size : Int))).bind fun bt125 => (some bt125.1)
theorem unit_Down.mono : ∀ a0 a1 k,LeO (unit_Down.f k a0 a1) (unit_Down.f (k + 1) a0 a1) := by
 intro a0 a1 k
 unfold unit_Down.f
 repeat' first
   | (with_reducible exact unit_around.mono _ _ _)
   | (with_reducible exact LeO.refl _)
   | (with_reducible exact LeO.none _)
   | (with_reducible refine LeO.ite ?_ ?_)
   | (with_reducible refine LeO.bind ?_ (fun _ => ?_))
   | exact unit_around.mono _ _ _
   | exact LeO.none _
   | refine LeO.ite ?_ ?_
   | refine LeO.bind ?_ (fun _ => ?_)
set_option maxHeartbeats 8000000 in
set_option maxRecDepth 100000 in
theorem unit_Down.calls (k : Nat) (a0 : ByteArray) (a1 : Int) (r : Int) (w : World) (hT : Lib.Utf8Tabs 0 1 w) (h : unit_Down.f k a0 a1 = some r) :
  Calls Tryd.prog 72 #[.string a0,.int .i64 a1] w fun e w' => e = .returned (.int .i64 r) ∧ Below w.heap.size w w' := by
 have HT := Aside0.mk hT
 clear hT
 have HB := Aside0.mk (Below.refl w.heap.size w)
 have H : ((unit_around.f k a0 (mn (mx a1 0) (a0.size : Int))).bind fun bt125 => (some bt125.1)) = some r := h
 clear h
 obtain ⟨ji3,hji3⟩ : ∃ j_ : Int,(mx a1 0) = j_ := ⟨_,rfl⟩
 replace H : ((unit_around.f k a0 (mn (ji3) (a0.size : Int))).bind fun bt125 => (some bt125.1)) = some r := by first | (rw [hji3] at H;exact H) | (simp only [hji3] at H ⊢;exact H)
 (try (have hji3l : 0 ≤ ji3 := by (rw [← hji3];unfold mx;(repeat' split) <;> omega)))
 (try (have hji3m : 0 ≤ ji3 := by omega))
 have hji3_ : (if a1 < 0 then 0 else a1) = ji3 := hji3
 obtain ⟨ji4,hji4⟩ : ∃ j_ : Int,(mn (ji3) (a0.size : Int)) = j_ := ⟨_,rfl⟩
 replace H : ((unit_around.f k a0 (ji4)).bind fun bt125 => (some bt125.1)) = some r := by first | (rw [hji4] at H;exact H) | (simp only [hji4] at H ⊢;exact H)
 have hji4_ : (if (a0.size : Int) < (ji3) then (a0.size : Int) else (ji3)) = ji4 := hji4
 replace H := Option.bind_eq_some_iff.mp H
 obtain ⟨⟨t125,t126⟩,A50,H⟩ := H
 replace H : (some t125) = some r := H
 have A5 := Aside0.mk A50
 clear A50
 obtain rfl := Option.some.inj H
 go_enter Tryd.func72,Tryd.ntmps72
 go_wp2_with (first | ((with_reducible refine gate_callee (f := 71) rfl ?_);refine goesL_ (some 14) rfl rfl Tryd.func71 (by kernel_rfl) rfl #[.string a0,.int .i64 ji4] rfl (by (try simp only [List.map_toArray,List.map_cons,List.map_nil]);first | done | (simp only [hji4];rfl) | rfl | (simp only [List.length_drop,List.length_take];rfl)) ?_;(with_reducible refine (unit_around.calls k a0 ji4 t125 t126 _ ?side1 A5.out).mono ?_);(case side1 => exact tabs_below HT.out au0);rintro e w6 ⟨rfl,hb⟩;refine ⟨_,rfl,?_⟩;have n0_ := Aside0.mk (below_step au0 hb);clear HB;have HB := n0_;clear n0_;(try clear hb);(try clear hb2);(try clear hk);(try clear hi)))
 go_ret
 exact ⟨by first | rfl | (simp [errW_none,errW_some] <;> rfl) | (simp only [← hji3,← hji4];first | rfl | (simp [errW_none,errW_some] <;> rfl)) | (simp [*,errW_none,errW_some] <;> rfl),au0⟩
def unit_Prev.f (k : Nat) (a0 : ByteArray) (a1 : Int) : Option (Int) := if a1 ≤ 0 then (some 0) else ((unit_Down.f k a0 (mn (wrap64 (a1 - 1)) (a0.size : Int))).bind fun t127 => (some t127))
theorem unit_Prev.mono : ∀ a0 a1 k,LeO (unit_Prev.f k a0 a1) (unit_Prev.f (k + 1) a0 a1) := by
 intro a0 a1 k
 unfold unit_Prev.f
 repeat' first
   | (with_reducible exact unit_Down.mono _ _ _)
   | (with_reducible exact LeO.refl _)
   | (with_reducible exact LeO.none _)
   | (with_reducible refine LeO.ite ?_ ?_)
   | (with_reducible refine LeO.bind ?_ (fun _ => ?_))
   | exact unit_Down.mono _ _ _
   | exact LeO.none _
   | refine LeO.ite ?_ ?_
   | refine LeO.bind ?_ (fun _ => ?_)
set_option maxHeartbeats 8000000 in
set_option maxRecDepth 100000 in
theorem unit_Prev.calls (k : Nat) (a0 : ByteArray) (a1 : Int) (r : Int) (w : World) (hT : Lib.Utf8Tabs 0 1 w) (h : unit_Prev.f k a0 a1 = some r) :
  Calls Tryd.prog 50 #[.string a0,.int .i64 a1] w fun e w' => e = .returned (.int .i64 r) ∧ Below w.heap.size w w' := by
 have HT := Aside0.mk hT
 clear hT
 have HB := Aside0.mk (Below.refl w.heap.size w)
 have H : (if a1 ≤ 0 then (some 0) else ((unit_Down.f k a0 (mn (wrap64 (a1 - 1)) (a0.size : Int))).bind fun t127 => (some t127))) = some r := h
 clear h
 by_cases c3 : a1 ≤ 0
 ·rw [if_pos c3] at H
  have c3b0 : decide (a1 ≤ 0) = true := decide_eq_true c3
  clear c3
  obtain rfl := Option.some.inj H
  go_enter Tryd.func50,Tryd.ntmps50
  go_wp2
  go_ret
  exact ⟨au2,au0⟩
 ·rw [if_neg c3] at H
  have c3b0 : decide (a1 ≤ 0) = false := decide_eq_false c3
  clear c3
  obtain ⟨ji4,hji4⟩ : ∃ j_ : Int,(mn (wrap64 (a1 - 1)) (a0.size : Int)) = j_ := ⟨_,rfl⟩
  replace H : ((unit_Down.f k a0 (ji4)).bind fun t127 => (some t127)) = some r := by first | (rw [hji4] at H;exact H) | (simp only [hji4] at H ⊢;exact H)
  have hji4_ : (if (a0.size : Int) < (wrap64 (a1 - 1)) then (a0.size : Int) else (wrap64 (a1 - 1))) = ji4 := hji4
  replace H := Option.bind_eq_some_iff.mp H
  obtain ⟨t127,A50,H⟩ := H
  replace H : (some t127) = some r := H
  have A5 := Aside0.mk A50
  clear A50
  obtain rfl := Option.some.inj H
  go_enter Tryd.func50,Tryd.ntmps50
  go_wp2_with (first | ((with_reducible refine gate_callee (f := 72) rfl ?_);refine goesL_ (some 13) rfl rfl Tryd.func72 (by kernel_rfl) rfl #[.string a0,.int .i64 ji4] rfl (by (try simp only [List.map_toArray,List.map_cons,List.map_nil]);first | done | (simp only [hji4];rfl) | rfl | (simp only [List.length_drop,List.length_take];rfl)) ?_;(with_reducible refine (unit_Down.calls k a0 ji4 t127 _ ?side1 A5.out).mono ?_);(case side1 => exact tabs_below HT.out au0);rintro e w6 ⟨rfl,hb⟩;refine ⟨_,rfl,?_⟩;have n0_ := Aside0.mk (below_step au0 hb);clear HB;have HB := n0_;clear n0_;(try clear hb);(try clear hb2);(try clear hk);(try clear hi)))
  go_ret
  exact ⟨by first | rfl | (simp [errW_none,errW_some] <;> rfl) | (simp only [← hji4];first | rfl | (simp [errW_none,errW_some] <;> rfl)) | (simp [*,errW_none,errW_some] <;> rfl),au0⟩
def unit_Next.f (k : Nat) (a0 : ByteArray) (a1 : Int) : Option (Int) := if a1 < 0 then (some 0) else ((unit_around.f k a0 (mn a1 (a0.size : Int))).bind fun bt155 => (some bt155.2))
theorem unit_Next.mono : ∀ a0 a1 k,LeO (unit_Next.f k a0 a1) (unit_Next.f (k + 1) a0 a1) := by
 intro a0 a1 k
 unfold unit_Next.f
 repeat' first
   | (with_reducible exact unit_around.mono _ _ _)
   | (with_reducible exact LeO.refl _)
   | (with_reducible exact LeO.none _)
   | (with_reducible refine LeO.ite ?_ ?_)
   | (with_reducible refine LeO.bind ?_ (fun _ => ?_))
   | exact unit_around.mono _ _ _
   | exact LeO.none _
   | refine LeO.ite ?_ ?_
   | refine LeO.bind ?_ (fun _ => ?_)
set_option maxHeartbeats 8000000 in
set_option maxRecDepth 100000 in
theorem unit_Next.calls (k : Nat) (a0 : ByteArray) (a1 : Int) (r : Int) (w : World) (hT : Lib.Utf8Tabs 0 1 w) (h : unit_Next.f k a0 a1 = some r) :
  Calls Tryd.prog 48 #[.string a0,.int .i64 a1] w fun e w' => e = .returned (.int .i64 r) ∧ Below w.heap.size w w' := by
 have HT := Aside0.mk hT
 clear hT
 have HB := Aside0.mk (Below.refl w.heap.size w)
 have H : (if a1 < 0 then (some 0) else ((unit_around.f k a0 (mn a1 (a0.size : Int))).bind fun bt155 => (some bt155.2))) = some r := h
 clear h
 by_cases c3 : a1 < 0
 ·rw [if_pos c3] at H
  have c3b0 : decide (a1 < 0) = true := decide_eq_true c3
  clear c3
  obtain rfl := Option.some.inj H
  go_enter Tryd.func48,Tryd.ntmps48
  go_wp2
  go_ret
  exact ⟨au2,au0⟩
 ·rw [if_neg c3] at H
  have c3b0 : decide (a1 < 0) = false := decide_eq_false c3
  clear c3
  obtain ⟨ji4,hji4⟩ : ∃ j_ : Int,(mn a1 (a0.size : Int)) = j_ := ⟨_,rfl⟩
  replace H : ((unit_around.f k a0 (ji4)).bind fun bt155 => (some bt155.2)) = some r := by first | (rw [hji4] at H;exact H) | (simp only [hji4] at H ⊢;exact H)
  have hji4_ : (if (a0.size : Int) < a1 then (a0.size : Int) else a1) = ji4 := hji4
  replace H := Option.bind_eq_some_iff.mp H
  obtain ⟨⟨t155,t156⟩,A50,H⟩ := H
  replace H : (some t156) = some r := H
  have A5 := Aside0.mk A50
  clear A50
  obtain rfl := Option.some.inj H
  go_enter Tryd.func48,Tryd.ntmps48
  go_wp2_with (first | ((with_reducible refine gate_callee (f := 71) rfl ?_);refine goesL_ (some 15) rfl rfl Tryd.func71 (by kernel_rfl) rfl #[.string a0,.int .i64 ji4] rfl (by (try simp only [List.map_toArray,List.map_cons,List.map_nil]);first | done | (simp only [hji4];rfl) | rfl | (simp only [List.length_drop,List.length_take];rfl)) ?_;(with_reducible refine (unit_around.calls k a0 ji4 t155 t156 _ ?side1 A5.out).mono ?_);(case side1 => exact tabs_below HT.out au0);rintro e w6 ⟨rfl,hb⟩;refine ⟨_,rfl,?_⟩;have n0_ := Aside0.mk (below_step au0 hb);clear HB;have HB := n0_;clear n0_;(try clear hb);(try clear hb2);(try clear hk);(try clear hi)))
  go_ret
  exact ⟨by first | rfl | (simp [errW_none,errW_some] <;> rfl) | (simp only [← hji4];first | rfl | (simp [errW_none,errW_some] <;> rfl)) | (simp [*,errW_none,errW_some] <;> rfl),au0⟩
mutual
def bodkinref01_begins.j0 : Nat → ByteArray → Int → Int → Bool → Option (Int)
 | 0,_,_,_,_ => none
 | k + 1,x0,x3,x4,x19 => if x19 = true then (some (-1)) else (bodkinref01_begins.l0 k x0 x3 x4 1)
def bodkinref01_begins.l0 : Nat → ByteArray → Int → Int → Int → Option (Int)
 | 0,_,_,_,_ => none
 | k + 1,x0,x3,x4,x5 => if x5 ≤ x4 then (if 0 ≤ x5 then (if x5 < (x0.size : Int) then (if (bt x0 x5) < 128 then (some (-1)) else (if (bt x0 x5) > 191 then (some (-1)) else (bodkinref01_begins.l0 k x0 (wrap32 ((wrap32 ((wrap32 (x3 * 64)) + (wrap32 (bt x0 x5)))) - 128)) x4 (wrap64 (x5 + 1))))) else (none)) else (none)) else ((bodkinref01_scalar.f x3).bind fun t254 => (if t254 = true then ((bodkinref01_size.f x3).bind fun t255 => (if t255 = (wrap64 (x4 + 1)) then (some x3) else (some (-1)))) else (some (-1))))
end
def bodkinref01_begins.f (k : Nat) (a0 : ByteArray) : Option (Int) := if 0 < (a0.size : Int) then ((bodkinref01_lead.f k (bt a0 0)).bind fun bt252 => (if bt252.2 < 0 then (bodkinref01_begins.j0 k a0 bt252.1 bt252.2 true) else (bodkinref01_begins.j0 k a0 bt252.1 bt252.2 (decide ((a0.size : Int) ≤ bt252.2))))) else (none)
set_option maxHeartbeats 8000000 in
set_option maxRecDepth 100000 in
theorem bodkinref01_begins.calls (k : Nat) (a0 : ByteArray) (r : Int) (w : World) (h : bodkinref01_begins.f k a0 = some r) :
  Calls Tryd.prog 79 #[.string a0] w fun e w' => e = .returned (.int .i32 r) ∧ Below w.heap.size w w' := by
 have HB := Aside0.mk (Below.refl w.heap.size w)
 have H : (if 0 < (a0.size : Int) then ((bodkinref01_lead.f k (bt a0 0)).bind fun bt252 => (if bt252.2 < 0 then (bodkinref01_begins.j0 k a0 bt252.1 bt252.2 true) else (bodkinref01_begins.j0 k a0 bt252.1 bt252.2 (decide ((a0.size : Int) ≤ bt252.2))))) else (none)) = some r := h
 clear h
 by_cases c2 : 0 < (a0.size : Int)
 ·rw [if_pos c2] at H
  have c2b0 : decide (0 < (a0.size : Int)) = true := decide_eq_true c2
  have c2b1 : decide (0 < a0.size) = true := decide_eq_true (by omega)
  clear c2
  replace H := Option.bind_eq_some_iff.mp H
  obtain ⟨⟨t252,t253⟩,A40,H⟩ := H
  replace H : (if t253 < 0 then (bodkinref01_begins.j0 k a0 t252 t253 true) else (bodkinref01_begins.j0 k a0 t252 t253 (decide ((a0.size : Int) ≤ t253)))) = some r := H
  have A4 := Aside0.mk A40
  clear A40
  have HC5 := Aside0.mk H
  clear H
  have p3 : 0 ≤ (0 : Int) := (by omega)
  have q3 : 0 < a0.size := (by have : (0 : Int) < (a0.size : Int) := of_decide_eq_true au4;omega)
  have hx3 : ∀ h : 0 < a0.size,((a0[0]'h).toNat : Int) = bt a0 0 := bt_at a0 0
  clear p3
  have qi3 : (0 < (a0.size : Int)) = True := eq_true (of_decide_eq_true au4)
  replace q3 := eq_true q3
  go_enter Tryd.func79,Tryd.ntmps79
  go_upto_region 2 with (first | ((with_reducible refine gate_callee (f := 87) rfl ?_);refine goesL_ (some 9) rfl rfl Tryd.func87 (by kernel_rfl) rfl #[.int .u8 (bt a0 0)] rfl au1 ?_;(with_reducible refine (bodkinref01_lead.calls k (bt a0 0) t252 t253 _ A4.out).mono ?_);rintro e w' ⟨rfl,⟨nd,rfl⟩⟩;refine ⟨_,rfl,?_⟩))
  (try simp only [Act.put,List.setIfInBounds_toArray,List.set_cons_zero,List.set_cons_succ])
  go_cut [19] (fun v19 wc => ∃ (kq : Nat) (x19_4 : Bool),v19 = .bool x19_4 ∧ Aside0 (bodkinref01_begins.j0 kq a0 t252 t253 x19_4 = some r) ∧ Aside0 (kq ≤ k) ∧ Aside0 (Below w.heap.size w wc))
  case first =>
   have H := HC5.out
   clear HC5
   by_cases c6 : t253 < 0
   ·rw [if_pos c6] at H
    have c6b0 : decide (t253 < 0) = true := decide_eq_true c6
    clear c6
    (first | rw [c6b0] | (simp only [i64_w,i32_w];rw [c6b0]) | skip)
    have H' := Aside0.mk H
    clear H
    go_wp2
    go_meet
    case rel => exact ⟨_,(true),au3,H',⟨by first | omega | exact Nat.le_refl _⟩,⟨au0⟩⟩
   ·rw [if_neg c6] at H
    have c6b0 : decide (t253 < 0) = false := decide_eq_false c6
    clear c6
    (first | rw [c6b0] | (simp only [i64_w,i32_w];rw [c6b0]) | skip)
    have H' := Aside0.mk H
    clear H
    go_wp2
    go_meet
    case rel => exact ⟨_,(decide ((a0.size : Int) ≤ t253)),au3,H',⟨by first | omega | exact Nat.le_refl _⟩,⟨au0⟩⟩
  case rest =>
   clear HC5
   try clear c2
   try clear c2b0
   try clear c2b1
   try clear p2
   try clear p3
   try clear q3
   try clear hx3
   try clear qi3
   try clear c6
   try clear c6b0
   try clear p3
   try clear q3
   obtain ⟨kq,x19_4,rfl,HA,HJ4,HB⟩ := hcut
   cases kq with
   | zero => exact absurd HA.out (by simp [bodkinref01_begins.j0])
   | succ kj4 =>
    have H := HA.out
    clear HA
    simp only [bodkinref01_begins.j0] at H
    by_cases c7 : x19_4 = true
    ·subst c7
     have H1 : (some (-1)) = some r := by rw [if_pos rfl] at H;exact H
     clear H
     have H := H1
     clear H1
     obtain rfl := Option.some.inj H
     go_wp2
     go_ret
     exact ⟨au2,au0⟩
    ·replace c7 := Bool.eq_false_iff.mpr c7
     subst c7
     have H1 : (bodkinref01_begins.l0 kj4 a0 t252 t253 1) = some r := by rw [if_neg (show ¬ (false = true) by decide)] at H;exact H
     clear H
     have H := H1
     clear H1
     have H' := Aside0.mk H
     clear H
     go_wp2
     go_loopg [3,5] kj4 (fun kq v3 v5 w' => ∃ (x3_2 : Int) (x5_2 : Int),v3 = .int .i32 x3_2 ∧ v5 = .int .i64 x5_2 ∧ Aside0 (bodkinref01_begins.l0 kq a0 x3_2 t253 x5_2 = some r) ∧ Aside0 (kq ≤ kj4) ∧ Aside0 (Below w.heap.size w w'))
     case atStart => exact ⟨(t252),(1),au3,au3,H',⟨Nat.le_refl _⟩,⟨au0⟩⟩
     case round =>
      clear H'
      try clear c2
      try clear c2b0
      try clear c2b1
      try clear p2
      try clear p3
      try clear q3
      try clear hx3
      try clear qi3
      try clear c6
      try clear c6b0
      try clear c7
      try clear p2
      try clear p3
      try clear q3
      obtain ⟨x3_2,x5_2,rfl,rfl,HA,HK2,HB⟩ := hrel
      cases gk with
      | zero => exact absurd HA.out (by simp [bodkinref01_begins.l0])
      | succ k2 =>
       have H := HA.out
       clear HA
       simp only [bodkinref01_begins.l0] at H
       by_cases c8 : x5_2 ≤ t253
       ·rw [if_pos c8] at H
        have c8b0 : decide (x5_2 ≤ t253) = true := decide_eq_true c8
        clear c8
        by_cases c9 : 0 ≤ x5_2
        ·rw [if_pos c9] at H
         have c9b0 : decide (0 ≤ x5_2) = true := decide_eq_true c9
         clear c9
         by_cases c10 : x5_2 < (a0.size : Int)
         ·rw [if_pos c10] at H
          have c10b0 : decide (x5_2 < (a0.size : Int)) = true := decide_eq_true c10
          clear c10
          by_cases c12 : (bt a0 x5_2) < 128
          ·rw [if_pos c12] at H
           have c12b0 : decide ((bt a0 x5_2) < 128) = true := decide_eq_true c12
           clear c12
           obtain rfl := Option.some.inj H
           have p11 : 0 ≤ (x5_2 : Int) := of_decide_eq_true au4
           have q11 : x5_2 < (a0.size : Int) := of_decide_eq_true au4
           have hx11 := bt_at a0 x5_2
           replace p11 := eq_true p11
           replace q11 := eq_true q11
           go_wp2
           go_ret
           exact ⟨au2,au0⟩
          ·rw [if_neg c12] at H
           have c12b0 : decide ((bt a0 x5_2) < 128) = false := decide_eq_false c12
           clear c12
           by_cases c14 : (bt a0 x5_2) > 191
           ·rw [if_pos c14] at H
            have c14b0 : decide (191 < (bt a0 x5_2)) = true := decide_eq_true c14
            clear c14
            obtain rfl := Option.some.inj H
            have p11 : 0 ≤ (x5_2 : Int) := of_decide_eq_true au4
            have q11 : x5_2 < (a0.size : Int) := of_decide_eq_true au4
            have hx11 := bt_at a0 x5_2
            replace p11 := eq_true p11
            replace q11 := eq_true q11
            have p13 : 0 ≤ (x5_2 : Int) := of_decide_eq_true au4
            have q13 : x5_2 < (a0.size : Int) := of_decide_eq_true au4
            have hx13 := bt_at a0 x5_2
            replace p13 := eq_true p13
            replace q13 := eq_true q13
            go_wp2
            go_ret
            exact ⟨au2,au0⟩
           ·rw [if_neg c14] at H
            have c14b0 : decide (191 < (bt a0 x5_2)) = false := decide_eq_false c14
            clear c14
            have H' := Aside0.mk H
            clear H
            have p11 : 0 ≤ (x5_2 : Int) := of_decide_eq_true au4
            have q11 : x5_2 < (a0.size : Int) := of_decide_eq_true au4
            have hx11 := bt_at a0 x5_2
            replace p11 := eq_true p11
            replace q11 := eq_true q11
            have p13 : 0 ≤ (x5_2 : Int) := of_decide_eq_true au4
            have q13 : x5_2 < (a0.size : Int) := of_decide_eq_true au4
            have hx13 := bt_at a0 x5_2
            replace p13 := eq_true p13
            replace q13 := eq_true q13
            have p15 : 0 ≤ (x5_2 : Int) := of_decide_eq_true au4
            have q15 : x5_2 < (a0.size : Int) := of_decide_eq_true au4
            have hx15 := bt_at a0 x5_2
            replace p15 := eq_true p15
            replace q15 := eq_true q15
            go_wp2
            go_roundg k2
            case measure => have := HJ4.out;have := HK2.out;omega
            case rel => exact ⟨(wrap32 ((wrap32 ((wrap32 (x3_2 * 64)) + (wrap32 (bt a0 x5_2)))) - 128)),(wrap64 (x5_2 + 1)),au3,au3,H',⟨by have := HJ4.out;have := HK2.out;omega⟩,⟨au0⟩⟩
         ·rw [if_neg c10] at H
          exact absurd H (by simp)
        ·rw [if_neg c9] at H
         exact absurd H (by simp)
       ·rw [if_neg c8] at H
        have c8b0 : decide (x5_2 ≤ t253) = false := decide_eq_false c8
        clear c8
        replace H := Option.bind_eq_some_iff.mp H
        obtain ⟨t254,A160,H⟩ := H
        replace H : (if t254 = true then ((bodkinref01_size.f x3_2).bind fun t255 => (if t255 = (wrap64 (t253 + 1)) then (some x3_2) else (some (-1)))) else (some (-1))) = some r := H
        have A16 := Aside0.mk A160
        clear A160
        by_cases c17 : t254 = true
        ·subst c17
         have H1 : ((bodkinref01_size.f x3_2).bind fun t255 => (if t255 = (wrap64 (t253 + 1)) then (some x3_2) else (some (-1)))) = some r := by rw [if_pos rfl] at H;exact H
         clear H
         have H := H1
         clear H1
         replace H := Option.bind_eq_some_iff.mp H
         obtain ⟨t255,A180,H⟩ := H
         replace H : (if t255 = (wrap64 (t253 + 1)) then (some x3_2) else (some (-1))) = some r := H
         have A18 := Aside0.mk A180
         clear A180
         by_cases c19 : t255 = (wrap64 (t253 + 1))
         ·rw [if_pos c19] at H
          have c19b0 : (t255 == (wrap64 (t253 + 1))) = true := beq_iff_eq.mpr c19
          have c19b1 : (t255 != (wrap64 (t253 + 1))) = false := bne_eq_false_iff_eq.mpr c19
          clear c19
          obtain rfl := Option.some.inj H
          go_wp2_with (first | ((with_reducible refine gate_callee (f := 84) rfl ?_);refine goesL_ (some 44) rfl rfl Tryd.func84 (by kernel_rfl) rfl #[.int .i32 x3_2] rfl au1 ?_;(with_reducible refine (bodkinref01_scalar.calls x3_2 true _ A16.out).mono ?_);rintro e w' ⟨rfl,⟨nd,rfl⟩⟩;refine ⟨_,rfl,?_⟩) | (go_at_call 80;(with_reducible refine (bodkinref01_size.calls x3_2 t255 _ A18.out).mono ?_);rintro e w20 ⟨rfl,hb⟩;have n0_ := Aside0.mk (below_step au0 hb);clear HB;have HB := n0_;clear n0_;(try clear hb);(try clear hb2);(try clear hk);(try clear hi)))
          go_ret
          exact ⟨au2,au0⟩
         ·rw [if_neg c19] at H
          have c19b0 : (t255 == (wrap64 (t253 + 1))) = false := beq_eq_false_iff_ne.mpr c19
          have c19b1 : (t255 != (wrap64 (t253 + 1))) = true := bne_iff_ne.mpr c19
          obtain rfl := Option.some.inj H
          go_wp2_with (first | ((with_reducible refine gate_callee (f := 84) rfl ?_);refine goesL_ (some 44) rfl rfl Tryd.func84 (by kernel_rfl) rfl #[.int .i32 x3_2] rfl au1 ?_;(with_reducible refine (bodkinref01_scalar.calls x3_2 true _ A16.out).mono ?_);rintro e w' ⟨rfl,⟨nd,rfl⟩⟩;refine ⟨_,rfl,?_⟩) | (go_at_call 80;(with_reducible refine (bodkinref01_size.calls x3_2 t255 _ A18.out).mono ?_);rintro e w21 ⟨rfl,hb⟩;have n0_ := Aside0.mk (below_step au0 hb);clear HB;have HB := n0_;clear n0_;(try clear hb);(try clear hb2);(try clear hk);(try clear hi)))
          go_ret
          exact ⟨au2,au0⟩
        ·replace c17 := Bool.eq_false_iff.mpr c17
         subst c17
         have H1 : (some (-1)) = some r := by rw [if_neg (show ¬ (false = true) by decide)] at H;exact H
         clear H
         have H := H1
         clear H1
         obtain rfl := Option.some.inj H
         go_wp2_with (first | ((with_reducible refine gate_callee (f := 84) rfl ?_);refine goesL_ (some 44) rfl rfl Tryd.func84 (by kernel_rfl) rfl #[.int .i32 x3_2] rfl au1 ?_;(with_reducible refine (bodkinref01_scalar.calls x3_2 false _ A16.out).mono ?_);rintro e w' ⟨rfl,⟨nd,rfl⟩⟩;refine ⟨_,rfl,?_⟩))
         go_ret
         exact ⟨au2,au0⟩
 ·rw [if_neg c2] at H
  exact absurd H (by simp)
end Go.Proofs.YtkficbgnjpekaaaDoor.U
end
section
namespace Go.Proofs.YtkficbgnjpekaaaDoor.U
open Go.RowKit Go.Proofs.YtkficbgnjpekaaaDoorW.PrintWords Go.Proofs.YtkficbgnjpekaaaDoorW.PrintLast Go.Proofs.YtkficbgnjpekaaaDoorW.PrintMore
attribute [local go_sem] max2_int min2_int max_two min_two max_three min_three max_four min_four   -- for this text's walks alone
set_option linter.unusedVariables false
set_option linter.unusedSimpArgs false
def bodkinref01_Units.l0 : Nat → ByteArray → List (S42) → Int → Option ((List (S42)))
 | 0,_,_,_ => none
 | k + 1,x0,x3,x4 => if x4 < (x0.size : Int) then (if 0 ≤ x4 then (if x4 ≤ (x0.size : Int) then ((bodkinref01_begins.f k (x0.extract (x4 : Int).toNat x0.size)).bind fun t256 => (if t256 ≥ 0 then ((bodkinref01_size.f t256).bind fun t258 => (if x3.length < 8796093022208 then (bodkinref01_Units.l0 k x0 (x3 ++ [(⟨t256,t258⟩ : S42)]) (wrap64 (x4 + t258))) else (none))) else (if x3.length < 8796093022208 then (bodkinref01_Units.l0 k x0 (x3 ++ [(⟨t256,1⟩ : S42)]) (wrap64 (x4 + 1))) else (none)))) else (none)) else (none)) else (some x3)
def bodkinref01_Units.f (k : Nat) (a0 : ByteArray) : Option ((List (S42))) := bodkinref01_Units.l0 k a0 ([] : List (S42)) 0
set_option maxHeartbeats 8000000 in
set_option maxRecDepth 100000 in
theorem bodkinref01_Units.calls (k : Nat) (a0 : ByteArray) (r : List (S42)) (w : World) (h : bodkinref01_Units.f k a0 = some r) :
  Calls Tryd.prog 66 #[.string a0] w fun e w' => ∃ v0_ : Value,e = .returned (v0_) ∧ Kd.R k42 42 w' w.heap.size (fun _ => True) v0_ r ∧ Below w.heap.size w w' := by
 have hu42 := Tryd.underlying42
 have HB := Aside0.mk (Below.refl w.heap.size w)
 have H : (bodkinref01_Units.l0 k a0 ([] : List (S42)) 0) = some r := h
 clear h
 have H' := Aside0.mk H
 clear H
 go_enter Tryd.func66,Tryd.ntmps66
 go_wp2
 go_loopg [3,4] k (fun kq v3 v4 w' => ∃ (x3_1 : List (S42)) (x4_1 : Int),v4 = .int .i64 x4_1 ∧ Aside0 (bodkinref01_Units.l0 kq a0 x3_1 x4_1 = some r) ∧ Aside0 (kq ≤ k) ∧ Aside0 (Kd.R k42 42 w' w.heap.size (fun _ => True) v3 x3_1) ∧ Aside0 (Below w.heap.size w w'))
 case atStart => exact ⟨(([] : List (S42))),(0),au3,H',⟨Nat.le_refl _⟩,⟨by first | exact Kd.R_nil _ _ _ _ _ | exact Kd.N_nil _ _ _ _ _ | exact Kd.V_nil _ _ _ _ _ | exact Kd.Q_nil _ _ _ _ _ | exact Kd.S_nil _ _ _ _ _⟩,⟨au0⟩⟩
 case round =>
  clear H'
  obtain ⟨x3_1,x4_1,rfl,HA,HK1,HO_3,HB⟩ := hrel
  cases gk with
  | zero => exact absurd HA.out (by simp [bodkinref01_Units.l0])
  | succ k1 =>
   have H := HA.out
   clear HA
   simp only [bodkinref01_Units.l0] at H
   by_cases c2 : x4_1 < (a0.size : Int)
   ·rw [if_pos c2] at H
    have c2b0 : decide (x4_1 < (a0.size : Int)) = true := decide_eq_true c2
    clear c2
    by_cases c3 : 0 ≤ x4_1
    ·rw [if_pos c3] at H
     have c3b0 := eq_true c3
     have c3b1 : decide (0 ≤ x4_1) = true := decide_eq_true c3
     clear c3
     by_cases c4 : x4_1 ≤ (a0.size : Int)
     ·rw [if_pos c4] at H
      have c4b0 := eq_true c4
      have c4b1 : decide (x4_1 ≤ (a0.size : Int)) = true := decide_eq_true c4
      clear c4
      replace H := Option.bind_eq_some_iff.mp H
      obtain ⟨t256,A50,H⟩ := H
      replace H : (if t256 ≥ 0 then ((bodkinref01_size.f t256).bind fun t258 => (if x3_1.length < 8796093022208 then (bodkinref01_Units.l0 k1 a0 (x3_1 ++ [(⟨t256,t258⟩ : S42)]) (wrap64 (x4_1 + t258))) else (none))) else (if x3_1.length < 8796093022208 then (bodkinref01_Units.l0 k1 a0 (x3_1 ++ [(⟨t256,1⟩ : S42)]) (wrap64 (x4_1 + 1))) else (none))) = some r := H
      have A5 := Aside0.mk A50
      clear A50
      by_cases c6 : t256 ≥ 0
      ·rw [if_pos c6] at H
       have c6b0 : decide (0 ≤ t256) = true := decide_eq_true c6
       clear c6
       replace H := Option.bind_eq_some_iff.mp H
       obtain ⟨t258,A70,H⟩ := H
       replace H : (if x3_1.length < 8796093022208 then (bodkinref01_Units.l0 k1 a0 (x3_1 ++ [(⟨t256,t258⟩ : S42)]) (wrap64 (x4_1 + t258))) else (none)) = some r := H
       have A7 := Aside0.mk A70
       clear A70
       by_cases c8 : x3_1.length < 8796093022208
       ·rw [if_pos c8] at H
        have LMc8 := Aside0.mk c8
        clear c8
        obtain ⟨y259,hy259⟩ : ∃ y_ : List (S42),y_ = (x3_1 ++ [(⟨t256,t258⟩ : S42)]) := ⟨_,rfl⟩
        replace H : (bodkinref01_Units.l0 k1 a0 y259 (wrap64 (x4_1 + t258))) = some r := by first | (rw [hy259];with_reducible exact H) | (have H2_ := (Option.bind_some _ _).symm.trans H;rw [hy259];with_reducible exact H2_) | (have H2_ := (Option.bind_some _ _).symm.trans H;with_reducible exact H2_) | with_reducible exact H | (rw [hy259];exact H) | exact H
        have Ny259 := Aside0.mk hy259
        clear hy259
        have H' := Aside0.mk H
        clear H
        go_wp2_with (first | ((with_reducible refine gate_callee (f := 79) rfl ?_);refine goesL_ (some 13) rfl rfl Tryd.func79 (by kernel_rfl) rfl #[.string (a0.extract (x4_1 : Int).toNat a0.size)] rfl au1 ?_;(with_reducible refine (bodkinref01_begins.calls k1 (a0.extract (x4_1 : Int).toNat a0.size) t256 _ A5.out).mono ?_);rintro e w9 ⟨rfl,hb⟩;refine ⟨_,rfl,?_⟩;have n0_ := Aside0.mk (Kd.R_below au5 hb);have n1_ := Aside0.mk (below_step au0 hb);clear HO_3;clear HB;have HO_3 := n0_;have HB := n1_;clear n0_ n1_;(try clear hb);(try clear hb2);(try clear hk);(try clear hi)) | ((with_reducible refine gate_dst (N := 5) rfl ?_);refine box_event ?hg (N := 5) ?hd (cs := #[.int .i32 0,.int .i64 0]) (t := 42) ?hr ?_;(case hd => rfl);(case hg => rfl);(case hr => first | (go_simp;done) | (go_simp;rfl));intro gb257 hg w10 hbox hb;have n0_ := Aside0.mk (Kd.R_below (Kd.R_elderB au5 gb257 (Nat.le_of_eq hg.symm)) hb);have n1_ := Aside0.mk (below_step au0 hb);have n2_ := Aside0.mk (hbox);have n3_ := Aside0.mk ((by rw [hg];exact (below_size au0) : w.heap.size ≤ gb257));have n4_ := Aside0.mk ((by rw [hg];exact (below_size au0) : w.heap.size ≤ gb257));clear HO_3;clear HB;have HO_3 := n0_;have HB := n1_;have BK257 := n2_;have GW257 := n3_;have GE257 := n4_;clear n0_ n1_ n2_ n3_ n4_;clear hb hbox hg;have hcz11_0 : w10.cell? ⟨gb257,0,none⟩ = some (.int .i32 0) := (blk_cell BK257.out 0).trans rfl;have hcz11_1 : w10.cell? ⟨gb257,1,none⟩ = some (.int .i64 0) := (blk_cell BK257.out 1).trans rfl;have hfz11_0 := blk_frozen BK257.out 0;have hfz11_1 := blk_frozen BK257.out 1) | ((with_reducible refine gate_callee (f := 80) rfl ?_);refine goesL_ (some 20) rfl rfl Tryd.func80 (by kernel_rfl) rfl #[.int .i32 t256] rfl au1 ?_;(with_reducible refine (bodkinref01_size.calls t256 t258 _ A7.out).mono ?_);rintro e w12 ⟨rfl,hb⟩;refine ⟨_,rfl,?_⟩;have n0_ := Aside0.mk (Kd.R_below (by (with_reducible repeat (first | apply Kd.R_alloc | apply Kd.R_drewN | apply Kd.R_drew));exact (Kd.R_mono (Kd.R_far (p := ⟨gb257,1,none⟩) (Kd.R_far (p := ⟨gb257,0,none⟩) (Kd.R_mono HO_3.out (fun k_ hk => (⟨hk,hk.2⟩ : _ ∧ k_ ≠ gb257))) (fun _ hk => hk.2) (.int .i32 t256)) (fun _ hk => hk.2) (.int .i64 1)) (fun _ h_ => h_.1))) hb);have n1_ := Aside0.mk (blk_below (g := gb257) (o := .cells #[.int .i32 t256,.int .i64 1] 42 (0,0)) au19 hb);have n2_ := Aside0.mk (below_step au25 hb);clear HO_3;clear BK257;clear HB;have HO_3 := n0_;have BK257 := n1_;have HB := n2_;clear n0_ n1_ n2_;(try clear hb);(try clear hb2);(try clear hk);(try clear hi);have hcz13_0 : w12.cell? ⟨gb257,0,none⟩ = some (.int .i32 t256) := (blk_cell BK257.out 0).trans rfl;have hcz13_1 : w12.cell? ⟨gb257,1,none⟩ = some (.int .i64 1) := (blk_cell BK257.out 1).trans rfl;have hfz13_0 := blk_frozen BK257.out 0;have hfz13_1 := blk_frozen BK257.out 1) | ((with_reducible refine gate_builtin (b := .append) (xs := #[.tmp 22,.tmp 24]) rfl ?_);at_builtin;refine Kd.R_append k42 (w0 := w) w.heap.size rfl (.tmp 22) (.tmp 24) 80 42 (.agg #[(.int .i32 0),(.int .i64 0)]) 16 rfl Tryd.underlying80 info42 rfl (by decide) (by omega) u3 x3_1 (⟨t256,t258⟩ : S42) [.int .i32 t256,.int .i64 t258] (fun k_ => k_ ≠ gb257) (fun _ => False) rfl (by first | (go_simp;done) | (go_simp;rfl)) ?aP (fun _ hk => hk.elim) ?aF ?aO ?aB ?aS ?aL ?_;(case aP => exact k42_mkM _ _ _ (⟨t256,t258⟩ : S42));(case aB => exact au25);(case aF => exact (fun k_ hk => Kd.freshB (g := gb257) (o := .cells #[.int .i32 t256,.int .i64 t258] 42 (0,0)) (by (with_reducible repeat (first | refine blk_drewN ?_ _ | refine blk_drew ?_ | refine blk_alloc ?_ _));refine blk_put (cs := #[.int .i32 t256,.int .i64 1]) ?_ 1 _ rfl;(with_reducible repeat (first | refine blk_drewN ?_ _ | refine blk_drew ?_ | refine blk_alloc ?_ _));exact BK257.out) k_ hk));(case aO => exact (by (with_reducible repeat (first | apply Kd.R_alloc | apply Kd.R_drewN | apply Kd.R_drew));exact Kd.R_mono (Kd.R_far (p := ⟨gb257,1,none⟩) (Kd.R_mono HO_3.out (fun k_ hk => (⟨hk,hk.2⟩ : _ ∧ k_ ≠ gb257))) (fun _ hk => hk.2) (.int .i64 t258)) (fun _ hk => hk.1.2)));(case aS => exact (below_size au25));(case aL => have := LMc8.out;omega);intro v260 w14 ho hb hg hat;rw [← Ny259.out] at ho;have n0_ := Aside0.mk (blk_grown (g := gb257) (o := .cells #[.int .i32 t256,.int .i64 t258] 42 (0,0)) (by (with_reducible repeat (first | refine blk_drewN ?_ _ | refine blk_drew ?_ | refine blk_alloc ?_ _));refine blk_put (cs := #[.int .i32 t256,.int .i64 1]) ?_ 1 _ rfl;(with_reducible repeat (first | refine blk_drewN ?_ _ | refine blk_drew ?_ | refine blk_alloc ?_ _));exact BK257.out) hg (Kd.R_away HO_3.out (fun _ hk => hk.2)));have n1_ := Aside0.mk (hb);have n2_ := Aside0.mk (ho);clear BK257;clear HB;clear HO_3;have BK257 := n0_;have HB := n1_;have HO261 := n2_;clear n0_ n1_ n2_;clear ho hb hg hat;have hcz15_0 : w14.cell? ⟨gb257,0,none⟩ = some (.int .i32 t256) := (blk_cell BK257.out 0).trans rfl;have hcz15_1 : w14.cell? ⟨gb257,1,none⟩ = some (.int .i64 t258) := (blk_cell BK257.out 1).trans rfl;have hfz15_0 := blk_frozen BK257.out 0;have hfz15_1 := blk_frozen BK257.out 1))
        go_roundg k1
        case measure => have := HK1.out;omega
        case rel => exact ⟨(y259),(wrap64 (x4_1 + t258)),au3,H',⟨by have := HK1.out;omega⟩,⟨by (with_reducible repeat (first | apply Kd.R_alloc | apply Kd.R_drewN | apply Kd.R_drew));exact Kd.R_mono HO261.out (fun _ hk => trivial)⟩,⟨by repeat (first | (with_reducible first | exact HB.out | apply below_alloc | apply pw_below_drewN | apply below_drew1 | refine below_set ?_ GE257.out) | exact HB.out)⟩⟩
       ·rw [if_neg c8] at H
        exact absurd H (by simp)
      ·rw [if_neg c6] at H
       have c6b0 : decide (0 ≤ t256) = false := decide_eq_false c6
       clear c6
       by_cases c16 : x3_1.length < 8796093022208
       ·rw [if_pos c16] at H
        have LMc16 := Aside0.mk c16
        clear c16
        obtain ⟨y262,hy262⟩ : ∃ y_ : List (S42),y_ = (x3_1 ++ [(⟨t256,1⟩ : S42)]) := ⟨_,rfl⟩
        replace H : (bodkinref01_Units.l0 k1 a0 y262 (wrap64 (x4_1 + 1))) = some r := by first | (rw [hy262];with_reducible exact H) | (have H2_ := (Option.bind_some _ _).symm.trans H;rw [hy262];with_reducible exact H2_) | (have H2_ := (Option.bind_some _ _).symm.trans H;with_reducible exact H2_) | with_reducible exact H | (rw [hy262];exact H) | exact H
        have Ny262 := Aside0.mk hy262
        clear hy262
        have H' := Aside0.mk H
        clear H
        go_wp2_with (first | ((with_reducible refine gate_callee (f := 79) rfl ?_);refine goesL_ (some 13) rfl rfl Tryd.func79 (by kernel_rfl) rfl #[.string (a0.extract (x4_1 : Int).toNat a0.size)] rfl au1 ?_;(with_reducible refine (bodkinref01_begins.calls k1 (a0.extract (x4_1 : Int).toNat a0.size) t256 _ A5.out).mono ?_);rintro e w17 ⟨rfl,hb⟩;refine ⟨_,rfl,?_⟩;have n0_ := Aside0.mk (Kd.R_below au5 hb);have n1_ := Aside0.mk (below_step au0 hb);clear HO_3;clear HB;have HO_3 := n0_;have HB := n1_;clear n0_ n1_;(try clear hb);(try clear hb2);(try clear hk);(try clear hi)) | ((with_reducible refine gate_dst (N := 5) rfl ?_);refine box_event ?hg (N := 5) ?hd (cs := #[.int .i32 0,.int .i64 0]) (t := 42) ?hr ?_;(case hd => rfl);(case hg => rfl);(case hr => first | (go_simp;done) | (go_simp;rfl));intro gb257 hg w18 hbox hb;have n0_ := Aside0.mk (Kd.R_below (Kd.R_elderB au5 gb257 (Nat.le_of_eq hg.symm)) hb);have n1_ := Aside0.mk (below_step au0 hb);have n2_ := Aside0.mk (hbox);have n3_ := Aside0.mk ((by rw [hg];exact (below_size au0) : w.heap.size ≤ gb257));have n4_ := Aside0.mk ((by rw [hg];exact (below_size au0) : w.heap.size ≤ gb257));clear HO_3;clear HB;have HO_3 := n0_;have HB := n1_;have BK257 := n2_;have GW257 := n3_;have GE257 := n4_;clear n0_ n1_ n2_ n3_ n4_;clear hb hbox hg;have hcz19_0 : w18.cell? ⟨gb257,0,none⟩ = some (.int .i32 0) := (blk_cell BK257.out 0).trans rfl;have hcz19_1 : w18.cell? ⟨gb257,1,none⟩ = some (.int .i64 0) := (blk_cell BK257.out 1).trans rfl;have hfz19_0 := blk_frozen BK257.out 0;have hfz19_1 := blk_frozen BK257.out 1) | ((with_reducible refine gate_builtin (b := .append) (xs := #[.tmp 22,.tmp 24]) rfl ?_);at_builtin;refine Kd.R_append k42 (w0 := w) w.heap.size rfl (.tmp 22) (.tmp 24) 80 42 (.agg #[(.int .i32 0),(.int .i64 0)]) 16 rfl Tryd.underlying80 info42 rfl (by decide) (by omega) u3 x3_1 (⟨t256,1⟩ : S42) [.int .i32 t256,.int .i64 1] (fun k_ => k_ ≠ gb257) (fun _ => False) rfl (by first | (go_simp;done) | (go_simp;rfl)) ?aP (fun _ hk => hk.elim) ?aF ?aO ?aB ?aS ?aL ?_;(case aP => exact k42_mkM _ _ _ (⟨t256,1⟩ : S42));(case aB => exact au25);(case aF => exact (fun k_ hk => Kd.freshB (g := gb257) (o := .cells #[.int .i32 t256,.int .i64 1] 42 (0,0)) au19 k_ hk));(case aO => exact (by (with_reducible repeat (first | apply Kd.R_alloc | apply Kd.R_drewN | apply Kd.R_drew));exact Kd.R_mono (Kd.R_far (p := ⟨gb257,1,none⟩) (Kd.R_far (p := ⟨gb257,0,none⟩) (Kd.R_mono HO_3.out (fun k_ hk => (⟨hk,hk.2⟩ : _ ∧ k_ ≠ gb257))) (fun _ hk => hk.2) (.int .i32 t256)) (fun _ hk => hk.2) (.int .i64 1)) (fun _ hk => hk.1.2)));(case aS => exact (below_size au25));(case aL => have := LMc16.out;omega);intro v263 w20 ho hb hg hat;rw [← Ny262.out] at ho;have n0_ := Aside0.mk (blk_grown (g := gb257) (o := .cells #[.int .i32 t256,.int .i64 1] 42 (0,0)) au19 hg (Kd.R_away HO_3.out (fun _ hk => hk.2)));have n1_ := Aside0.mk (hb);have n2_ := Aside0.mk (ho);clear BK257;clear HB;clear HO_3;have BK257 := n0_;have HB := n1_;have HO264 := n2_;clear n0_ n1_ n2_;clear ho hb hg hat;have hcz21_0 : w20.cell? ⟨gb257,0,none⟩ = some (.int .i32 t256) := (blk_cell BK257.out 0).trans rfl;have hcz21_1 : w20.cell? ⟨gb257,1,none⟩ = some (.int .i64 1) := (blk_cell BK257.out 1).trans rfl;have hfz21_0 := blk_frozen BK257.out 0;have hfz21_1 := blk_frozen BK257.out 1))
        go_roundg k1
        case measure => have := HK1.out;omega
        case rel => exact ⟨(y262),(wrap64 (x4_1 + 1)),au3,H',⟨by have := HK1.out;omega⟩,⟨by (with_reducible repeat (first | apply Kd.R_alloc | apply Kd.R_drewN | apply Kd.R_drew));exact Kd.R_mono HO264.out (fun _ hk => trivial)⟩,⟨by repeat (first | (with_reducible first | exact HB.out | apply below_alloc | apply pw_below_drewN | apply below_drew1 | refine below_set ?_ GE257.out) | exact HB.out)⟩⟩
       ·rw [if_neg c16] at H
        exact absurd H (by simp)
     ·rw [if_neg c4] at H
      exact absurd H (by simp)
    ·rw [if_neg c3] at H
     exact absurd H (by simp)
   ·rw [if_neg c2] at H
    have c2b0 : decide (x4_1 < (a0.size : Int)) = false := decide_eq_false c2
    clear c2
    obtain rfl := Option.some.inj H
    go_wp2
    go_ret
    exact ⟨_,by first | rfl | (simp [errW_none,errW_some] <;> rfl) | (simp [*,errW_none,errW_some] <;> rfl),by (with_reducible repeat (first | apply Kd.R_alloc | apply Kd.R_drewN | apply Kd.R_drew));exact HO_3.out,au0⟩
end Go.Proofs.YtkficbgnjpekaaaDoor.U
end
