/- What the law WordJoins reaches of this seat's own texts, merged; what nothing uses is left out. -/
import Derived.Test.YtkficbgnjpekaaaDoorZWordJoins0
import Derived.Test.YtkficbgnjpekaaaDoorZWordJoins2
import Derived.Test.YtkficbgnjpekaaaDoorZWordJoins4
section
namespace Go.Proofs.YtkficbgnjpekaaaDoor.U
open Go.RowKit Go.Proofs.YtkficbgnjpekaaaDoorW.PrintWords Go.Proofs.YtkficbgnjpekaaaDoorW.PrintLast Go.Proofs.YtkficbgnjpekaaaDoorW.PrintMore
attribute [local go_sem] max2_int min2_int max_two min_two max_three min_three max_four min_four   -- for this text's walks alone
set_option linter.unusedVariables false
set_option linter.unusedSimpArgs false
attribute [local go_sem high] eqA32
def word_Ahead.l0 : Nat → ByteArray → Int → List (S32) → Int → Int → Option (Int)
 | 0,_,_,_,_,_ => none
 | k + 1,x0,x1,x13,x14,x15 => if x15 < x14 then (if 0 ≤ x15 then (if x15 < (x13.length : Int) then (if ((rd_T32 x13 x15).f1) > x1 then (some ((rd_T32 x13 x15).f1)) else (word_Ahead.l0 k x0 x1 x13 x14 (wrap64 (x15 + 1)))) else (none)) else (none)) else (some (x0.size : Int))
def word_Ahead.f (k : Nat) (a0 : ByteArray) (a1 : Int) : Option (Int) := (word_Spans.f a0).bind fun t101 => (word_Ahead.l0 k a0 (mn (mx a1 0) (a0.size : Int)) t101 (t101.length : Int) 0)
theorem word_Ahead.mono_l : ∀ k,(∀ y0 y1 y2 y3 y4,LeO (word_Ahead.l0 k y0 y1 y2 y3 y4) (word_Ahead.l0 (k + 1) y0 y1 y2 y3 y4))
 | 0 => fun _ _ _ _ _ r h => by simp [word_Ahead.l0] at h
 | k + 1 => by
  have ih0 := word_Ahead.mono_l k
  ·intro y0 y1 y2 y3 y4
   unfold word_Ahead.l0
   repeat' first
   | (with_reducible exact ih0 _ _ _ _ _)
   | (with_reducible exact LeO.refl _)
   | (with_reducible exact LeO.none _)
   | (with_reducible refine LeO.ite ?_ ?_)
   | (with_reducible refine LeO.bind ?_ (fun _ => ?_))
   | exact ih0 _ _ _ _ _
   | exact LeO.none _
   | refine LeO.ite ?_ ?_
   | refine LeO.bind ?_ (fun _ => ?_)
theorem word_Ahead.mono : ∀ a0 a1 k,LeO (word_Ahead.f k a0 a1) (word_Ahead.f (k + 1) a0 a1) := by
 intro a0 a1 k
 have ih0 := word_Ahead.mono_l k
 unfold word_Ahead.f
 repeat' first
   | (with_reducible exact ih0 _ _ _ _ _)
   | (with_reducible exact LeO.refl _)
   | (with_reducible exact LeO.none _)
   | (with_reducible refine LeO.ite ?_ ?_)
   | (with_reducible refine LeO.bind ?_ (fun _ => ?_))
   | exact ih0 _ _ _ _ _
   | exact LeO.none _
   | refine LeO.ite ?_ ?_
   | refine LeO.bind ?_ (fun _ => ?_)
set_option maxHeartbeats 8000000 in
set_option maxRecDepth 100000 in
theorem word_Ahead.calls (k : Nat) (a0 : ByteArray) (a1 : Int) (r : Int) (w : World) (hT : Lib.Utf8Tabs 0 1 w) (h : word_Ahead.f k a0 a1 = some r) :
  Calls Tryd.prog 22 #[.string a0,.int .i64 a1] w fun e w' => e = .returned (.int .i64 r) ∧ Below w.heap.size w w' := by
 have hu32 := Tryd.underlying32
 have HT := Aside0.mk hT
 clear hT
 have HB := Aside0.mk (Below.refl w.heap.size w)
 have H : ((word_Spans.f a0).bind fun t101 => (word_Ahead.l0 k a0 (mn (mx a1 0) (a0.size : Int)) t101 (t101.length : Int) 0)) = some r := h
 clear h
 obtain ⟨ji3,hji3⟩ : ∃ j_ : Int,(mx a1 0) = j_ := ⟨_,rfl⟩
 replace H : ((word_Spans.f a0).bind fun t101 => (word_Ahead.l0 k a0 (mn (ji3) (a0.size : Int)) t101 (t101.length : Int) 0)) = some r := by first | (rw [hji3] at H;exact H) | (simp only [hji3] at H ⊢;exact H)
 (try (have hji3l : 0 ≤ ji3 := by (rw [← hji3];unfold mx;(repeat' split) <;> omega)))
 (try (have hji3m : 0 ≤ ji3 := by omega))
 have hji3_ : (if a1 < 0 then 0 else a1) = ji3 := hji3
 obtain ⟨ji4,hji4⟩ : ∃ j_ : Int,(mn (ji3) (a0.size : Int)) = j_ := ⟨_,rfl⟩
 replace H : ((word_Spans.f a0).bind fun t101 => (word_Ahead.l0 k a0 ji4 t101 (t101.length : Int) 0)) = some r := by first | (rw [hji4] at H;exact H) | (simp only [hji4] at H ⊢;exact H)
 have hji4_ : (if (a0.size : Int) < (ji3) then (a0.size : Int) else (ji3)) = ji4 := hji4
 replace H := Option.bind_eq_some_iff.mp H
 obtain ⟨t101,A50,H⟩ := H
 replace H : (word_Ahead.l0 k a0 ji4 t101 (t101.length : Int) 0) = some r := H
 have A5 := Aside0.mk A50
 clear A50
 have H' := Aside0.mk H
 clear H
 go_enter Tryd.func22,Tryd.ntmps22
 go_wp2_with (first | ((with_reducible refine gate_callee (f := 20) rfl ?_);refine goesL_ (some 13) rfl rfl Tryd.func20 (by kernel_rfl) rfl #[.string a0] rfl au1 ?_;(with_reducible refine (word_Spans.calls a0 t101 _ ?side1 A5.out).mono ?_);(case side1 => exact tabs_below HT.out au0);rintro e w6 ⟨v102,rfl,ho0,hb⟩;refine ⟨_,rfl,?_⟩;have n0_ := Aside0.mk (Kd.R_lower ho0 (below_size au0));have n1_ := Aside0.mk (below_step au0 hb);clear HB;have HO103 := n0_;have HB := n1_;clear n0_ n1_;(try clear hb);(try clear hb2);(try clear hk);(try clear hi);(try clear ho0);obtain ⟨Ao7,co7,eo7⟩ := Kd.R_slice HO103.out;subst eo7))
 go_loopg [15] k (fun kq v15 w' => ∃ (x15_1 : Int),v15 = .int .i64 x15_1 ∧ Aside0 (word_Ahead.l0 kq a0 ji4 t101 (t101.length : Int) x15_1 = some r) ∧ Aside0 (kq ≤ k) ∧ Aside0 (Kd.R k32 32 w' w.heap.size (fun _ => True) (.slice Ao7 t101.length co7) t101) ∧ Aside0 (Below w.heap.size w w'))
 case atStart => exact ⟨(0),au4,H',⟨Nat.le_refl _⟩,⟨by (with_reducible repeat (first | apply Kd.R_alloc | apply Kd.R_drewN | apply Kd.R_drew));exact HO103.out⟩,⟨au0⟩⟩
 case round =>
  clear H'
  try clear c2
  try clear p2
  obtain ⟨x15_1,rfl,HA,HK1,HO_13,HB⟩ := hrel
  cases gk with
  | zero => exact absurd HA.out (by simp [word_Ahead.l0])
  | succ k1 =>
   have H := HA.out
   clear HA
   simp only [word_Ahead.l0] at H
   by_cases c8 : x15_1 < (t101.length : Int)
   ·rw [if_pos c8] at H
    have c8b0 : decide (x15_1 < (t101.length : Int)) = true := decide_eq_true c8
    clear c8
    by_cases c9 : 0 ≤ x15_1
    ·rw [if_pos c9] at H
     have c9b0 : decide (0 ≤ x15_1) = true := decide_eq_true c9
     clear c9
     by_cases c10 : x15_1 < (t101.length : Int)
     ·rw [if_pos c10] at H
      have c10b0 : decide (x15_1 < (t101.length : Int)) = true := decide_eq_true c10
      clear c10
      by_cases c11 : ((rd_T32 t101 x15_1).f1) > ji4
      ·rw [if_pos c11] at H
       have c11b0 : decide (ji4 < ((rd_T32 t101 x15_1).f1)) = true := decide_eq_true c11
       clear c11
       obtain rfl := Option.some.inj H
       have p104 : 0 ≤ (x15_1 : Int) := of_decide_eq_true au13
       have q104 : x15_1 < (t101.length : Int) := of_decide_eq_true au13
       obtain ⟨ad104,e104,hx104_0,hx104_1⟩ := at_T32 (Kd.R_reads' HO_13.out).2.2 x15_1 p104 q104
       cases e104
       replace p104 := eq_true p104
       replace q104 := eq_true q104
       go_wp2_with (first | ((with_reducible refine gate_dst (N := 6) rfl ?_);refine box_event ?hg (N := 6) ?hd (cs := #[.int .i64 0,.int .i64 0]) (t := 32) ?hr ?_;(case hd => rfl);(case hg => rfl);(case hr => first | (go_simp;done) | (go_simp;rfl));intro gb105 hg w12 hbox hb;have n0_ := Aside0.mk (Kd.R_below (Kd.R_elderB (by (with_reducible repeat (first | apply Kd.R_alloc | apply Kd.R_drewN | apply Kd.R_drew));exact HO_13.out) gb105 (Nat.le_of_eq hg.symm)) hb);have n1_ := Aside0.mk (below_step au0 hb);have n2_ := Aside0.mk (hbox);have n3_ := Aside0.mk ((by rw [hg];exact (below_size au0) : w.heap.size ≤ gb105));have n4_ := Aside0.mk ((by rw [hg];exact (below_size au0) : w.heap.size ≤ gb105));clear HO_13;clear HB;have HO_13 := n0_;have HB := n1_;have BK105 := n2_;have GW105 := n3_;have GE105 := n4_;clear n0_ n1_ n2_ n3_ n4_;clear hb hbox hg;have hcz13_0 : w12.cell? ⟨gb105,0,none⟩ = some (.int .i64 0) := (blk_cell BK105.out 0).trans rfl;have hcz13_1 : w12.cell? ⟨gb105,1,none⟩ = some (.int .i64 0) := (blk_cell BK105.out 1).trans rfl;have hfz13_0 := blk_frozen BK105.out 0;have hfz13_1 := blk_frozen BK105.out 1))
       go_ret
       exact ⟨by first | rfl | (simp [errW_none,errW_some] <;> rfl) | (simp only [← hji3,← hji4];first | rfl | (simp [errW_none,errW_some] <;> rfl)) | (simp [*,errW_none,errW_some] <;> rfl),by repeat (first | (with_reducible first | exact HB.out | apply below_alloc | apply pw_below_drewN | apply below_drew1 | refine below_set ?_ GE105.out) | exact HB.out)⟩
      ·rw [if_neg c11] at H
       have c11b0 : decide (ji4 < ((rd_T32 t101 x15_1).f1)) = false := decide_eq_false c11
       clear c11
       have H' := Aside0.mk H
       clear H
       have p104 : 0 ≤ (x15_1 : Int) := of_decide_eq_true au13
       have q104 : x15_1 < (t101.length : Int) := of_decide_eq_true au13
       obtain ⟨ad104,e104,hx104_0,hx104_1⟩ := at_T32 (Kd.R_reads' HO_13.out).2.2 x15_1 p104 q104
       cases e104
       replace p104 := eq_true p104
       replace q104 := eq_true q104
       go_wp2_with (first | ((with_reducible refine gate_dst (N := 6) rfl ?_);refine box_event ?hg (N := 6) ?hd (cs := #[.int .i64 0,.int .i64 0]) (t := 32) ?hr ?_;(case hd => rfl);(case hg => rfl);(case hr => first | (go_simp;done) | (go_simp;rfl));intro gb105 hg w14 hbox hb;have n0_ := Aside0.mk (Kd.R_below (Kd.R_elderB (by (with_reducible repeat (first | apply Kd.R_alloc | apply Kd.R_drewN | apply Kd.R_drew));exact HO_13.out) gb105 (Nat.le_of_eq hg.symm)) hb);have n1_ := Aside0.mk (below_step au0 hb);have n2_ := Aside0.mk (hbox);have n3_ := Aside0.mk ((by rw [hg];exact (below_size au0) : w.heap.size ≤ gb105));have n4_ := Aside0.mk ((by rw [hg];exact (below_size au0) : w.heap.size ≤ gb105));clear HO_13;clear HB;have HO_13 := n0_;have HB := n1_;have BK105 := n2_;have GW105 := n3_;have GE105 := n4_;clear n0_ n1_ n2_ n3_ n4_;clear hb hbox hg;have hcz15_0 : w14.cell? ⟨gb105,0,none⟩ = some (.int .i64 0) := (blk_cell BK105.out 0).trans rfl;have hcz15_1 : w14.cell? ⟨gb105,1,none⟩ = some (.int .i64 0) := (blk_cell BK105.out 1).trans rfl;have hfz15_0 := blk_frozen BK105.out 0;have hfz15_1 := blk_frozen BK105.out 1))
       go_roundg k1
       case measure => have := HK1.out;omega
       case rel => exact ⟨(wrap64 (x15_1 + 1)),au4,H',⟨by have := HK1.out;omega⟩,⟨by (with_reducible repeat (first | apply Kd.R_alloc | apply Kd.R_drewN | apply Kd.R_drew));exact Kd.R_mono (Kd.R_far (p := ⟨gb105,1,none⟩) (Kd.R_far (p := ⟨gb105,0,none⟩) (Kd.R_mono HO_13.out (fun k_ hk => (⟨hk,hk.2⟩ : _ ∧ k_ ≠ gb105))) (fun _ hk => hk.2) (.int .i64 ((rd_T32 t101 x15_1).f0))) (fun _ hk => hk.2) (.int .i64 ((rd_T32 t101 x15_1).f1))) (fun _ hk => trivial)⟩,⟨by repeat (first | (with_reducible first | exact HB.out | apply below_alloc | apply pw_below_drewN | apply below_drew1 | refine below_set ?_ GE105.out) | exact HB.out)⟩⟩
     ·rw [if_neg c10] at H
      exact absurd H (by simp)
    ·rw [if_neg c9] at H
     exact absurd H (by simp)
   ·rw [if_neg c8] at H
    have c8b0 : decide (x15_1 < (t101.length : Int)) = false := decide_eq_false c8
    clear c8
    obtain rfl := Option.some.inj H
    go_wp2
    go_ret
    exact ⟨by first | rfl | (simp [errW_none,errW_some] <;> rfl) | (simp only [← hji3,← hji4];first | rfl | (simp [errW_none,errW_some] <;> rfl)) | (simp [*,errW_none,errW_some] <;> rfl),au0⟩
def word_Behind.l0 : Nat → Int → Int → List (S32) → Int → Int → Option (Int)
 | 0,_,_,_,_,_ => none
 | k + 1,x1,x5,x14,x15,x16 => if x16 < x15 then (if 0 ≤ x16 then (if x16 < (x14.length : Int) then (if ((rd_T32 x14 x16).f0) < x1 then (word_Behind.l0 k x1 ((rd_T32 x14 x16).f0) x14 x15 (wrap64 (x16 + 1))) else (word_Behind.l0 k x1 x5 x14 x15 (wrap64 (x16 + 1)))) else (none)) else (none)) else (some x5)
def word_Behind.f (k : Nat) (a0 : ByteArray) (a1 : Int) : Option (Int) := (word_Spans.f a0).bind fun t106 => (word_Behind.l0 k (mn (mx a1 0) (a0.size : Int)) 0 t106 (t106.length : Int) 0)
theorem word_Behind.mono_l : ∀ k,(∀ y0 y1 y2 y3 y4,LeO (word_Behind.l0 k y0 y1 y2 y3 y4) (word_Behind.l0 (k + 1) y0 y1 y2 y3 y4))
 | 0 => fun _ _ _ _ _ r h => by simp [word_Behind.l0] at h
 | k + 1 => by
  have ih0 := word_Behind.mono_l k
  ·intro y0 y1 y2 y3 y4
   unfold word_Behind.l0
   repeat' first
   | (with_reducible exact ih0 _ _ _ _ _)
   | (with_reducible exact LeO.refl _)
   | (with_reducible exact LeO.none _)
   | (with_reducible refine LeO.ite ?_ ?_)
   | (with_reducible refine LeO.bind ?_ (fun _ => ?_))
   | exact ih0 _ _ _ _ _
   | exact LeO.none _
   | refine LeO.ite ?_ ?_
   | refine LeO.bind ?_ (fun _ => ?_)
theorem word_Behind.mono : ∀ a0 a1 k,LeO (word_Behind.f k a0 a1) (word_Behind.f (k + 1) a0 a1) := by
 intro a0 a1 k
 have ih0 := word_Behind.mono_l k
 unfold word_Behind.f
 repeat' first
   | (with_reducible exact ih0 _ _ _ _ _)
   | (with_reducible exact LeO.refl _)
   | (with_reducible exact LeO.none _)
   | (with_reducible refine LeO.ite ?_ ?_)
   | (with_reducible refine LeO.bind ?_ (fun _ => ?_))
   | exact ih0 _ _ _ _ _
   | exact LeO.none _
   | refine LeO.ite ?_ ?_
   | refine LeO.bind ?_ (fun _ => ?_)
set_option maxHeartbeats 8000000 in
set_option maxRecDepth 100000 in
theorem word_Behind.calls (k : Nat) (a0 : ByteArray) (a1 : Int) (r : Int) (w : World) (hT : Lib.Utf8Tabs 0 1 w) (h : word_Behind.f k a0 a1 = some r) :
  Calls Tryd.prog 24 #[.string a0,.int .i64 a1] w fun e w' => e = .returned (.int .i64 r) ∧ Below w.heap.size w w' := by
 have hu32 := Tryd.underlying32
 have HT := Aside0.mk hT
 clear hT
 have HB := Aside0.mk (Below.refl w.heap.size w)
 have H : ((word_Spans.f a0).bind fun t106 => (word_Behind.l0 k (mn (mx a1 0) (a0.size : Int)) 0 t106 (t106.length : Int) 0)) = some r := h
 clear h
 obtain ⟨ji3,hji3⟩ : ∃ j_ : Int,(mx a1 0) = j_ := ⟨_,rfl⟩
 replace H : ((word_Spans.f a0).bind fun t106 => (word_Behind.l0 k (mn (ji3) (a0.size : Int)) 0 t106 (t106.length : Int) 0)) = some r := by first | (rw [hji3] at H;exact H) | (simp only [hji3] at H ⊢;exact H)
 (try (have hji3l : 0 ≤ ji3 := by (rw [← hji3];unfold mx;(repeat' split) <;> omega)))
 (try (have hji3m : 0 ≤ ji3 := by omega))
 have hji3_ : (if a1 < 0 then 0 else a1) = ji3 := hji3
 obtain ⟨ji4,hji4⟩ : ∃ j_ : Int,(mn (ji3) (a0.size : Int)) = j_ := ⟨_,rfl⟩
 replace H : ((word_Spans.f a0).bind fun t106 => (word_Behind.l0 k ji4 0 t106 (t106.length : Int) 0)) = some r := by first | (rw [hji4] at H;exact H) | (simp only [hji4] at H ⊢;exact H)
 have hji4_ : (if (a0.size : Int) < (ji3) then (a0.size : Int) else (ji3)) = ji4 := hji4
 replace H := Option.bind_eq_some_iff.mp H
 obtain ⟨t106,A50,H⟩ := H
 replace H : (word_Behind.l0 k ji4 0 t106 (t106.length : Int) 0) = some r := H
 have A5 := Aside0.mk A50
 clear A50
 have H' := Aside0.mk H
 clear H
 go_enter Tryd.func24,Tryd.ntmps24
 go_wp2_with (first | ((with_reducible refine gate_callee (f := 20) rfl ?_);refine goesL_ (some 14) rfl rfl Tryd.func20 (by kernel_rfl) rfl #[.string a0] rfl au1 ?_;(with_reducible refine (word_Spans.calls a0 t106 _ ?side1 A5.out).mono ?_);(case side1 => exact tabs_below HT.out au0);rintro e w6 ⟨v107,rfl,ho0,hb⟩;refine ⟨_,rfl,?_⟩;have n0_ := Aside0.mk (Kd.R_lower ho0 (below_size au0));have n1_ := Aside0.mk (below_step au0 hb);clear HB;have HO108 := n0_;have HB := n1_;clear n0_ n1_;(try clear hb);(try clear hb2);(try clear hk);(try clear hi);(try clear ho0);obtain ⟨Ao7,co7,eo7⟩ := Kd.R_slice HO108.out;subst eo7))
 go_loopg [5,16] k (fun kq v5 v16 w' => ∃ (x5_1 : Int) (x16_1 : Int),v5 = .int .i64 x5_1 ∧ v16 = .int .i64 x16_1 ∧ Aside0 (word_Behind.l0 kq ji4 x5_1 t106 (t106.length : Int) x16_1 = some r) ∧ Aside0 (kq ≤ k) ∧ Aside0 (Kd.R k32 32 w' w.heap.size (fun _ => True) (.slice Ao7 t106.length co7) t106) ∧ Aside0 (Below w.heap.size w w'))
 case atStart => exact ⟨(0),(0),au4,au4,H',⟨Nat.le_refl _⟩,⟨by (with_reducible repeat (first | apply Kd.R_alloc | apply Kd.R_drewN | apply Kd.R_drew));exact HO108.out⟩,⟨au0⟩⟩
 case round =>
  clear H'
  try clear c2
  try clear p2
  obtain ⟨x5_1,x16_1,rfl,rfl,HA,HK1,HO_14,HB⟩ := hrel
  cases gk with
  | zero => exact absurd HA.out (by simp [word_Behind.l0])
  | succ k1 =>
   have H := HA.out
   clear HA
   simp only [word_Behind.l0] at H
   by_cases c8 : x16_1 < (t106.length : Int)
   ·rw [if_pos c8] at H
    have c8b0 : decide (x16_1 < (t106.length : Int)) = true := decide_eq_true c8
    clear c8
    by_cases c9 : 0 ≤ x16_1
    ·rw [if_pos c9] at H
     have c9b0 : decide (0 ≤ x16_1) = true := decide_eq_true c9
     clear c9
     by_cases c10 : x16_1 < (t106.length : Int)
     ·rw [if_pos c10] at H
      have c10b0 : decide (x16_1 < (t106.length : Int)) = true := decide_eq_true c10
      clear c10
      by_cases c11 : ((rd_T32 t106 x16_1).f0) < ji4
      ·rw [if_pos c11] at H
       have c11b0 : decide (((rd_T32 t106 x16_1).f0) < ji4) = true := decide_eq_true c11
       clear c11
       have H' := Aside0.mk H
       clear H
       have p109 : 0 ≤ (x16_1 : Int) := of_decide_eq_true au13
       have q109 : x16_1 < (t106.length : Int) := of_decide_eq_true au13
       obtain ⟨ad109,e109,hx109_0,hx109_1⟩ := at_T32 (Kd.R_reads' HO_14.out).2.2 x16_1 p109 q109
       cases e109
       replace p109 := eq_true p109
       replace q109 := eq_true q109
       go_wp2_with (first | ((with_reducible refine gate_dst (N := 7) rfl ?_);refine box_event ?hg (N := 7) ?hd (cs := #[.int .i64 0,.int .i64 0]) (t := 32) ?hr ?_;(case hd => rfl);(case hg => rfl);(case hr => first | (go_simp;done) | (go_simp;rfl));intro gb110 hg w12 hbox hb;have n0_ := Aside0.mk (Kd.R_below (Kd.R_elderB (by (with_reducible repeat (first | apply Kd.R_alloc | apply Kd.R_drewN | apply Kd.R_drew));exact HO_14.out) gb110 (Nat.le_of_eq hg.symm)) hb);have n1_ := Aside0.mk (below_step au0 hb);have n2_ := Aside0.mk (hbox);have n3_ := Aside0.mk ((by rw [hg];exact (below_size au0) : w.heap.size ≤ gb110));have n4_ := Aside0.mk ((by rw [hg];exact (below_size au0) : w.heap.size ≤ gb110));clear HO_14;clear HB;have HO_14 := n0_;have HB := n1_;have BK110 := n2_;have GW110 := n3_;have GE110 := n4_;clear n0_ n1_ n2_ n3_ n4_;clear hb hbox hg;have hcz13_0 : w12.cell? ⟨gb110,0,none⟩ = some (.int .i64 0) := (blk_cell BK110.out 0).trans rfl;have hcz13_1 : w12.cell? ⟨gb110,1,none⟩ = some (.int .i64 0) := (blk_cell BK110.out 1).trans rfl;have hfz13_0 := blk_frozen BK110.out 0;have hfz13_1 := blk_frozen BK110.out 1))
       go_roundg k1
       case measure => have := HK1.out;omega
       case rel => exact ⟨((rd_T32 t106 x16_1).f0),(wrap64 (x16_1 + 1)),au4,au4,H',⟨by have := HK1.out;omega⟩,⟨by (with_reducible repeat (first | apply Kd.R_alloc | apply Kd.R_drewN | apply Kd.R_drew));exact Kd.R_mono (Kd.R_far (p := ⟨gb110,1,none⟩) (Kd.R_far (p := ⟨gb110,0,none⟩) (Kd.R_mono HO_14.out (fun k_ hk => (⟨hk,hk.2⟩ : _ ∧ k_ ≠ gb110))) (fun _ hk => hk.2) (.int .i64 ((rd_T32 t106 x16_1).f0))) (fun _ hk => hk.2) (.int .i64 ((rd_T32 t106 x16_1).f1))) (fun _ hk => trivial)⟩,⟨by repeat (first | (with_reducible first | exact HB.out | apply below_alloc | apply pw_below_drewN | apply below_drew1 | refine below_set ?_ GE110.out) | exact HB.out)⟩⟩
      ·rw [if_neg c11] at H
       have c11b0 : decide (((rd_T32 t106 x16_1).f0) < ji4) = false := decide_eq_false c11
       clear c11
       have H' := Aside0.mk H
       clear H
       have p109 : 0 ≤ (x16_1 : Int) := of_decide_eq_true au13
       have q109 : x16_1 < (t106.length : Int) := of_decide_eq_true au13
       obtain ⟨ad109,e109,hx109_0,hx109_1⟩ := at_T32 (Kd.R_reads' HO_14.out).2.2 x16_1 p109 q109
       cases e109
       replace p109 := eq_true p109
       replace q109 := eq_true q109
       go_wp2_with (first | ((with_reducible refine gate_dst (N := 7) rfl ?_);refine box_event ?hg (N := 7) ?hd (cs := #[.int .i64 0,.int .i64 0]) (t := 32) ?hr ?_;(case hd => rfl);(case hg => rfl);(case hr => first | (go_simp;done) | (go_simp;rfl));intro gb110 hg w14 hbox hb;have n0_ := Aside0.mk (Kd.R_below (Kd.R_elderB (by (with_reducible repeat (first | apply Kd.R_alloc | apply Kd.R_drewN | apply Kd.R_drew));exact HO_14.out) gb110 (Nat.le_of_eq hg.symm)) hb);have n1_ := Aside0.mk (below_step au0 hb);have n2_ := Aside0.mk (hbox);have n3_ := Aside0.mk ((by rw [hg];exact (below_size au0) : w.heap.size ≤ gb110));have n4_ := Aside0.mk ((by rw [hg];exact (below_size au0) : w.heap.size ≤ gb110));clear HO_14;clear HB;have HO_14 := n0_;have HB := n1_;have BK110 := n2_;have GW110 := n3_;have GE110 := n4_;clear n0_ n1_ n2_ n3_ n4_;clear hb hbox hg;have hcz15_0 : w14.cell? ⟨gb110,0,none⟩ = some (.int .i64 0) := (blk_cell BK110.out 0).trans rfl;have hcz15_1 : w14.cell? ⟨gb110,1,none⟩ = some (.int .i64 0) := (blk_cell BK110.out 1).trans rfl;have hfz15_0 := blk_frozen BK110.out 0;have hfz15_1 := blk_frozen BK110.out 1))
       go_roundg k1
       case measure => have := HK1.out;omega
       case rel => exact ⟨(x5_1),(wrap64 (x16_1 + 1)),au4,au4,H',⟨by have := HK1.out;omega⟩,⟨by (with_reducible repeat (first | apply Kd.R_alloc | apply Kd.R_drewN | apply Kd.R_drew));exact Kd.R_mono (Kd.R_far (p := ⟨gb110,1,none⟩) (Kd.R_far (p := ⟨gb110,0,none⟩) (Kd.R_mono HO_14.out (fun k_ hk => (⟨hk,hk.2⟩ : _ ∧ k_ ≠ gb110))) (fun _ hk => hk.2) (.int .i64 ((rd_T32 t106 x16_1).f0))) (fun _ hk => hk.2) (.int .i64 ((rd_T32 t106 x16_1).f1))) (fun _ hk => trivial)⟩,⟨by repeat (first | (with_reducible first | exact HB.out | apply below_alloc | apply pw_below_drewN | apply below_drew1 | refine below_set ?_ GE110.out) | exact HB.out)⟩⟩
     ·rw [if_neg c10] at H
      exact absurd H (by simp)
    ·rw [if_neg c9] at H
     exact absurd H (by simp)
   ·rw [if_neg c8] at H
    have c8b0 : decide (x16_1 < (t106.length : Int)) = false := decide_eq_false c8
    clear c8
    obtain rfl := Option.some.inj H
    go_wp2
    go_ret
    exact ⟨by first | rfl | (simp [errW_none,errW_some] <;> rfl) | (simp only [← hji3,← hji4];first | rfl | (simp [errW_none,errW_some] <;> rfl)) | (simp [*,errW_none,errW_some] <;> rfl),au0⟩
def bodkinlaw05_awake.f (k : Nat)  : Option (Bool) := (cluster_Next.f k (⟨#[97]⟩ : ByteArray) 0).bind fun t159 => (if t159 = 1 then ((word_Spans.f (⟨#[97,98,44,32,99,95,49,32,32]⟩ : ByteArray)).bind fun t160 => (if (t160.length : Int) = 2 then (if 1 < (t160.length : Int) then (if (((rd_T32 t160 1).f0) == 4 && (((rd_T32 t160 1).f1) == 7)) = true then ((word_Ahead.f k (⟨#[97,98,32,99,100]⟩ : ByteArray) 2).bind fun t164 => (if t164 = 5 then ((word_Behind.f k (⟨#[97,98,32,99,100]⟩ : ByteArray) 4).bind fun t165 => (if t165 = 3 then ((word_Capital.f (⟨#[104,101,76,76,79,32,49,119,79,82,76,68,32,97,95,98]⟩ : ByteArray)).bind fun t166 => (some (t166.toList == ([72,101,108,108,111,32,49,119,111,114,108,100,32,65,95,98] : List UInt8)))) else (some false))) else (some false))) else (some false)) else (none)) else (some false))) else (some false))
theorem bodkinlaw05_awake.mono : ∀ k,LeO (bodkinlaw05_awake.f k ) (bodkinlaw05_awake.f (k + 1) ) := by
 intro  k
 unfold bodkinlaw05_awake.f
 repeat' first
   | (with_reducible exact cluster_Next.mono _ _ _)
   | (with_reducible exact word_Ahead.mono _ _ _)
   | (with_reducible exact word_Behind.mono _ _ _)
   | (with_reducible exact LeO.refl _)
   | (with_reducible exact LeO.none _)
   | (with_reducible refine LeO.ite ?_ ?_)
   | (with_reducible refine LeO.bind ?_ (fun _ => ?_))
   | exact cluster_Next.mono _ _ _
   | exact word_Ahead.mono _ _ _
   | exact word_Behind.mono _ _ _
   | exact LeO.none _
   | refine LeO.ite ?_ ?_
   | refine LeO.bind ?_ (fun _ => ?_)
set_option maxHeartbeats 8000000 in
set_option maxRecDepth 100000 in
theorem bodkinlaw05_awake.calls (k : Nat)  (r : Bool) (hr_ : r = true) (w : World) (hT : Lib.Utf8Tabs 0 1 w) (h : bodkinlaw05_awake.f k  = some r) :
  Calls Tryd.prog 12 #[] w fun e w' => e = .returned (.bool r) ∧ Below w.heap.size w w' := by
 have hu32 := Tryd.underlying32
 have HT := Aside0.mk hT
 clear hT
 have HB := Aside0.mk (Below.refl w.heap.size w)
 have H : ((cluster_Next.f k (⟨#[97]⟩ : ByteArray) 0).bind fun t159 => (if t159 = 1 then ((word_Spans.f (⟨#[97,98,44,32,99,95,49,32,32]⟩ : ByteArray)).bind fun t160 => (if (t160.length : Int) = 2 then (if 1 < (t160.length : Int) then (if (((rd_T32 t160 1).f0) == 4 && (((rd_T32 t160 1).f1) == 7)) = true then ((word_Ahead.f k (⟨#[97,98,32,99,100]⟩ : ByteArray) 2).bind fun t164 => (if t164 = 5 then ((word_Behind.f k (⟨#[97,98,32,99,100]⟩ : ByteArray) 4).bind fun t165 => (if t165 = 3 then ((word_Capital.f (⟨#[104,101,76,76,79,32,49,119,79,82,76,68,32,97,95,98]⟩ : ByteArray)).bind fun t166 => (some (t166.toList == ([72,101,108,108,111,32,49,119,111,114,108,100,32,65,95,98] : List UInt8)))) else (some false))) else (some false))) else (some false)) else (none)) else (some false))) else (some false))) = some r := h
 clear h
 replace H := Option.bind_eq_some_iff.mp H
 obtain ⟨t159,A10,H⟩ := H
 replace H : (if t159 = 1 then ((word_Spans.f (⟨#[97,98,44,32,99,95,49,32,32]⟩ : ByteArray)).bind fun t160 => (if (t160.length : Int) = 2 then (if 1 < (t160.length : Int) then (if (((rd_T32 t160 1).f0) == 4 && (((rd_T32 t160 1).f1) == 7)) = true then ((word_Ahead.f k (⟨#[97,98,32,99,100]⟩ : ByteArray) 2).bind fun t164 => (if t164 = 5 then ((word_Behind.f k (⟨#[97,98,32,99,100]⟩ : ByteArray) 4).bind fun t165 => (if t165 = 3 then ((word_Capital.f (⟨#[104,101,76,76,79,32,49,119,79,82,76,68,32,97,95,98]⟩ : ByteArray)).bind fun t166 => (some (t166.toList == ([72,101,108,108,111,32,49,119,111,114,108,100,32,65,95,98] : List UInt8)))) else (some false))) else (some false))) else (some false)) else (none)) else (some false))) else (some false)) = some r := H
 have A1 := Aside0.mk A10
 clear A10
 by_cases c2 : t159 = 1
 ·rw [if_pos c2] at H
  have c2b0 : (t159 == 1) = true := beq_iff_eq.mpr c2
  have c2b1 : (t159 != 1) = false := bne_eq_false_iff_eq.mpr c2
  clear c2
  replace H := Option.bind_eq_some_iff.mp H
  obtain ⟨t160,A30,H⟩ := H
  replace H : (if (t160.length : Int) = 2 then (if 1 < (t160.length : Int) then (if (((rd_T32 t160 1).f0) == 4 && (((rd_T32 t160 1).f1) == 7)) = true then ((word_Ahead.f k (⟨#[97,98,32,99,100]⟩ : ByteArray) 2).bind fun t164 => (if t164 = 5 then ((word_Behind.f k (⟨#[97,98,32,99,100]⟩ : ByteArray) 4).bind fun t165 => (if t165 = 3 then ((word_Capital.f (⟨#[104,101,76,76,79,32,49,119,79,82,76,68,32,97,95,98]⟩ : ByteArray)).bind fun t166 => (some (t166.toList == ([72,101,108,108,111,32,49,119,111,114,108,100,32,65,95,98] : List UInt8)))) else (some false))) else (some false))) else (some false)) else (none)) else (some false)) = some r := H
  have A3 := Aside0.mk A30
  clear A30
  by_cases c4 : (t160.length : Int) = 2
  ·rw [if_pos c4] at H
   have c4b0 : ((t160.length : Int) == 2) = true := beq_iff_eq.mpr c4
   have c4b1 : ((t160.length : Int) != 2) = false := bne_eq_false_iff_eq.mpr c4
   clear c4
   by_cases c5 : 1 < (t160.length : Int)
   ·rw [if_pos c5] at H
    have c5b0 : decide (1 < (t160.length : Int)) = true := decide_eq_true c5
    have c5b1 : decide (1 < t160.length) = true := decide_eq_true (by omega)
    clear c5
    by_cases c6 : (((rd_T32 t160 1).f0) == 4 && (((rd_T32 t160 1).f1) == 7)) = true
    ·rw [if_pos c6] at H
     have c6b0 : (((rd_T32 t160 1).f0) == 4 && (((rd_T32 t160 1).f1) == 7)) = true := c6
     (try (have c6b1 : decide (((rd_T32 t160 1).f0) = 4 && (((rd_T32 t160 1).f1) == 7)) = true := by simpa using c6))
     (try (have c6b2 : (((rd_T32 t160 1).f0) == 4 && (((rd_T32 t160 1).f1) == 7)) = true := by simpa using c6))
     clear c6
     replace H := Option.bind_eq_some_iff.mp H
     obtain ⟨t164,A70,H⟩ := H
     replace H : (if t164 = 5 then ((word_Behind.f k (⟨#[97,98,32,99,100]⟩ : ByteArray) 4).bind fun t165 => (if t165 = 3 then ((word_Capital.f (⟨#[104,101,76,76,79,32,49,119,79,82,76,68,32,97,95,98]⟩ : ByteArray)).bind fun t166 => (some (t166.toList == ([72,101,108,108,111,32,49,119,111,114,108,100,32,65,95,98] : List UInt8)))) else (some false))) else (some false)) = some r := H
     have A7 := Aside0.mk A70
     clear A70
     by_cases c8 : t164 = 5
     ·rw [if_pos c8] at H
      have c8b0 : (t164 == 5) = true := beq_iff_eq.mpr c8
      have c8b1 : (t164 != 5) = false := bne_eq_false_iff_eq.mpr c8
      clear c8
      replace H := Option.bind_eq_some_iff.mp H
      obtain ⟨t165,A90,H⟩ := H
      replace H : (if t165 = 3 then ((word_Capital.f (⟨#[104,101,76,76,79,32,49,119,79,82,76,68,32,97,95,98]⟩ : ByteArray)).bind fun t166 => (some (t166.toList == ([72,101,108,108,111,32,49,119,111,114,108,100,32,65,95,98] : List UInt8)))) else (some false)) = some r := H
      have A9 := Aside0.mk A90
      clear A90
      by_cases c10 : t165 = 3
      ·rw [if_pos c10] at H
       have c10b0 : (t165 == 3) = true := beq_iff_eq.mpr c10
       have c10b1 : (t165 != 3) = false := bne_eq_false_iff_eq.mpr c10
       clear c10
       replace H := Option.bind_eq_some_iff.mp H
       obtain ⟨t166,A110,H⟩ := H
       replace H : (some (t166.toList == ([72,101,108,108,111,32,49,119,111,114,108,100,32,65,95,98] : List UInt8))) = some r := H
       have A11 := Aside0.mk A110
       clear A110
       obtain rfl := Option.some.inj H
       go_enter Tryd.func12,Tryd.ntmps12
       go_wp2_with (first | ((with_reducible refine gate_callee (f := 27) rfl ?_);refine goesL_ (some 2) rfl rfl Tryd.func27 (by kernel_rfl) rfl #[.string (⟨#[97]⟩ : ByteArray),.int .i64 0] rfl au1 ?_;(with_reducible refine (cluster_Next.calls k (⟨#[97]⟩ : ByteArray) 0 t159 _ ?side1 A1.out).mono ?_);(case side1 => exact tabs_below HT.out au0);rintro e w12 ⟨rfl,hb⟩;refine ⟨_,rfl,?_⟩;have n0_ := Aside0.mk (below_step au0 hb);clear HB;have HB := n0_;clear n0_;(try clear hb);(try clear hb2);(try clear hk);(try clear hi)) | ((with_reducible refine gate_callee (f := 20) rfl ?_);refine goesL_ (some 4) rfl rfl Tryd.func20 (by kernel_rfl) rfl #[.string (⟨#[97,98,44,32,99,95,49,32,32]⟩ : ByteArray)] rfl au1 ?_;(with_reducible refine (word_Spans.calls (⟨#[97,98,44,32,99,95,49,32,32]⟩ : ByteArray) t160 _ ?side1 A3.out).mono ?_);(case side1 => exact tabs_below HT.out au0);rintro e w13 ⟨v161,rfl,ho0,hb⟩;refine ⟨_,rfl,?_⟩;have n0_ := Aside0.mk (Kd.R_lower ho0 (below_size au0));have n1_ := Aside0.mk (below_step au0 hb);clear HB;have HO162 := n0_;have HB := n1_;clear n0_ n1_;(try clear hb);(try clear hb2);(try clear hk);(try clear hi);(try clear ho0);obtain ⟨Ao14,co14,eo14⟩ := Kd.R_slice HO162.out;subst eo14;have p163 : 0 ≤ (1 : Int) := (by omega);have q163 : 1 < (t160.length : Int) := of_decide_eq_true au13;obtain ⟨ad163,e163,hx163_0,hx163_1⟩ := at_T32 (Kd.R_reads' HO162.out).2.2 1 p163 q163;cases e163;(try simp only [show (1 : Int).toNat = 1 from rfl,Nat.reduceMul,Nat.reduceEqDiff,Go.Addr.add,↓reduceIte] at hx163_0);(try simp only [show (1 : Int).toNat = 1 from rfl,Nat.reduceMul,Nat.reduceEqDiff,Go.Addr.add,↓reduceIte] at hx163_1);have qi163 : (1 < t160.length) = True := eq_true (by omega);(try rw [show ((1 : Int)).toNat = 1 from rfl] at hx163_0);(try rw [show 1 * 2 = 2 from rfl] at hx163_0);(try rw [show ((1 : Int)).toNat = 1 from rfl] at hx163_1);(try rw [show 1 * 2 = 2 from rfl] at hx163_1);replace p163 := eq_true p163;replace q163 := eq_true q163) | (go_at_call 22;(with_reducible refine (word_Ahead.calls k (⟨#[97,98,32,99,100]⟩ : ByteArray) 2 t164 _ ?side1 A7.out).mono ?_);(case side1 => exact tabs_below HT.out au0);rintro e w15 ⟨rfl,hb⟩;have n0_ := Aside0.mk (Kd.R_below (by (with_reducible repeat (first | apply Kd.R_alloc | apply Kd.R_drewN | apply Kd.R_drew));exact HO162.out) hb);have n1_ := Aside0.mk (below_step au0 hb);clear HO162;clear HB;have HO162 := n0_;have HB := n1_;clear n0_ n1_;(try clear hb);(try clear hb2);(try clear hk);(try clear hi)) | (go_at_call 24;(with_reducible refine (word_Behind.calls k (⟨#[97,98,32,99,100]⟩ : ByteArray) 4 t165 _ ?side1 A9.out).mono ?_);(case side1 => exact tabs_below HT.out au0);rintro e w16 ⟨rfl,hb⟩;have n0_ := Aside0.mk (Kd.R_below (by (with_reducible repeat (first | apply Kd.R_alloc | apply Kd.R_drewN | apply Kd.R_drew));exact HO162.out) hb);have n1_ := Aside0.mk (below_step au0 hb);clear HO162;clear HB;have HO162 := n0_;have HB := n1_;clear n0_ n1_;(try clear hb);(try clear hb2);(try clear hk);(try clear hi)) | (go_at_call 34;(with_reducible refine (word_Capital.calls (⟨#[104,101,76,76,79,32,49,119,79,82,76,68,32,97,95,98]⟩ : ByteArray) t166 _ ?side1 A11.out).mono ?_);(case side1 => exact tabs_below HT.out au0);rintro e w17 ⟨rfl,hb⟩;have n0_ := Aside0.mk (Kd.R_below (by (with_reducible repeat (first | apply Kd.R_alloc | apply Kd.R_drewN | apply Kd.R_drew));exact HO162.out) hb);have n1_ := Aside0.mk (below_step au0 hb);clear HO162;clear HB;have HO162 := n0_;have HB := n1_;clear n0_ n1_;(try clear hb);(try clear hb2);(try clear hk);(try clear hi)))
       go_ret
       exact ⟨au3,au0⟩
      ·rw [if_neg c10] at H
       have c10b0 : (t165 == 3) = false := beq_eq_false_iff_ne.mpr c10
       have c10b1 : (t165 != 3) = true := bne_iff_ne.mpr c10
       obtain rfl := Option.some.inj H
       cases hr_
     ·rw [if_neg c8] at H
      have c8b0 : (t164 == 5) = false := beq_eq_false_iff_ne.mpr c8
      have c8b1 : (t164 != 5) = true := bne_iff_ne.mpr c8
      obtain rfl := Option.some.inj H
      cases hr_
    ·rw [if_neg c6] at H
     have c6b0 : (((rd_T32 t160 1).f0) == 4 && (((rd_T32 t160 1).f1) == 7)) = false := by simpa using c6
     (try (have c6b1 : decide (((rd_T32 t160 1).f0) = 4 && (((rd_T32 t160 1).f1) == 7)) = false := by simpa using c6))
     (try (have c6b2 : (((rd_T32 t160 1).f0) == 4 && (((rd_T32 t160 1).f1) == 7)) = false := by simpa using c6))
     (try (have c6b3 : ¬ (((rd_T32 t160 1).f0) = 4 && (((rd_T32 t160 1).f1) == 7)) := by simpa using c6))
     clear c6
     obtain rfl := Option.some.inj H
     cases hr_
   ·rw [if_neg c5] at H
    exact absurd H (by simp)
  ·rw [if_neg c4] at H
   have c4b0 : ((t160.length : Int) == 2) = false := beq_eq_false_iff_ne.mpr c4
   have c4b1 : ((t160.length : Int) != 2) = true := bne_iff_ne.mpr c4
   obtain rfl := Option.some.inj H
   cases hr_
 ·rw [if_neg c2] at H
  have c2b0 : (t159 == 1) = false := beq_eq_false_iff_ne.mpr c2
  have c2b1 : (t159 != 1) = true := bne_iff_ne.mpr c2
  obtain rfl := Option.some.inj H
  cases hr_
end Go.Proofs.YtkficbgnjpekaaaDoor.U
end
section
namespace Go.Proofs.YtkficbgnjpekaaaDoor.U
open Go.RowKit Go.Proofs.YtkficbgnjpekaaaDoorW.PrintWords Go.Proofs.YtkficbgnjpekaaaDoorW.PrintLast Go.Proofs.YtkficbgnjpekaaaDoorW.PrintMore
attribute [local go_sem] max2_int min2_int max_two min_two max_three min_three max_four min_four   -- for this text's walks alone
set_option linter.unusedVariables false
set_option linter.unusedSimpArgs false
attribute [local go_sem high] eqA32
def bodkinlaw05_WordJoins.l0 : Nat → ByteArray → ByteArray → ByteArray → List (S32) → List (S32) → List (S32) → Int → Option (Bool)
 | 0,_,_,_,_,_,_,_ => none
 | k + 1,x0,x1,x5,x6,x7,x8,x9 => if x9 < (x8.length : Int) then (if 0 ≤ (wrap64 ((x7.length : Int) + x9)) then (if (wrap64 ((x7.length : Int) + x9)) < (x6.length : Int) then (if 0 ≤ x9 then (if (!(((rd_T32 x6 (wrap64 ((x7.length : Int) + x9))).f0) == (wrap64 ((wrap64 (((rd_T32 x8 x9).f0) + (x0.size : Int))) + 1))) || (!(((rd_T32 x6 (wrap64 ((x7.length : Int) + x9))).f1) == (wrap64 ((wrap64 (((rd_T32 x8 x9).f1) + (x0.size : Int))) + 1))))) = true then (some false) else (bodkinlaw05_WordJoins.l0 k x0 x1 x5 x6 x7 x8 (wrap64 (x9 + 1)))) else (none)) else (none)) else (none)) else (if 0 ≤ (x7.length : Int) then (if (x7.length : Int) ≤ (x6.length : Int) then ((bodkinlaw05_same.f k (x6.take ((x7.length : Int) : Int).toNat) x7).bind fun t609 => (if t609 = true then ((word_Upper.f x5).bind fun t610 => ((word_Upper.f x0).bind fun t611 => (if t611.size + 1 ≤ 9223372036854775807 then ((word_Upper.f x1).bind fun t612 => (if (t611 ++ (⟨#[10]⟩ : ByteArray)).size + t612.size ≤ 9223372036854775807 then (if t610.toList = ((t611 ++ (⟨#[10]⟩ : ByteArray)) ++ t612).toList then ((word_Lower.f x5).bind fun t613 => ((word_Lower.f x0).bind fun t614 => (if t614.size + 1 ≤ 9223372036854775807 then ((word_Lower.f x1).bind fun t615 => (if (t614 ++ (⟨#[10]⟩ : ByteArray)).size + t615.size ≤ 9223372036854775807 then (if t613.toList = ((t614 ++ (⟨#[10]⟩ : ByteArray)) ++ t615).toList then ((word_Capital.f x5).bind fun t616 => ((word_Capital.f x0).bind fun t617 => (if t617.size + 1 ≤ 9223372036854775807 then ((word_Capital.f x1).bind fun t618 => (if (t617 ++ (⟨#[10]⟩ : ByteArray)).size + t618.size ≤ 9223372036854775807 then (some (t616.toList == ((t617 ++ (⟨#[10]⟩ : ByteArray)) ++ t618).toList)) else (none))) else (none)))) else (some false)) else (none))) else (none)))) else (some false)) else (none))) else (none)))) else (some false))) else (none)) else (none))
def bodkinlaw05_WordJoins.f (k : Nat) (a0 : ByteArray) (a1 : ByteArray) : Option (Bool) := (bodkinlaw05_awake.f k).bind fun t592 => (if t592 = true then (if a0.size + 1 ≤ 9223372036854775807 then (if (a0 ++ (⟨#[10]⟩ : ByteArray)).size + a1.size ≤ 9223372036854775807 then ((word_Spans.f ((a0 ++ (⟨#[10]⟩ : ByteArray)) ++ a1)).bind fun t593 => ((word_Spans.f a0).bind fun t596 => ((word_Spans.f a1).bind fun t599 => (if (t593.length : Int) = (wrap64 ((t596.length : Int) + (t599.length : Int))) then (bodkinlaw05_WordJoins.l0 k a0 a1 ((a0 ++ (⟨#[10]⟩ : ByteArray)) ++ a1) t593 t596 t599 0) else (some false))))) else (none)) else (none)) else (some false))
set_option maxHeartbeats 8000000 in
set_option maxRecDepth 100000 in
theorem bodkinlaw05_WordJoins.calls (k : Nat) (a0 : ByteArray) (a1 : ByteArray) (r : Bool) (hr_ : r = true) (w : World) (hT : Lib.Utf8Tabs 0 1 w) (h : bodkinlaw05_WordJoins.f k a0 a1 = some r) :
  Calls Tryd.prog 11 #[.string a0,.string a1] w fun e w' => e = .returned (.bool r) ∧ Below w.heap.size w w' := by
 have hu32 := Tryd.underlying32
 have HT := Aside0.mk hT
 clear hT
 have HB := Aside0.mk (Below.refl w.heap.size w)
 have H : ((bodkinlaw05_awake.f k).bind fun t592 => (if t592 = true then (if a0.size + 1 ≤ 9223372036854775807 then (if (a0 ++ (⟨#[10]⟩ : ByteArray)).size + a1.size ≤ 9223372036854775807 then ((word_Spans.f ((a0 ++ (⟨#[10]⟩ : ByteArray)) ++ a1)).bind fun t593 => ((word_Spans.f a0).bind fun t596 => ((word_Spans.f a1).bind fun t599 => (if (t593.length : Int) = (wrap64 ((t596.length : Int) + (t599.length : Int))) then (bodkinlaw05_WordJoins.l0 k a0 a1 ((a0 ++ (⟨#[10]⟩ : ByteArray)) ++ a1) t593 t596 t599 0) else (some false))))) else (none)) else (none)) else (some false))) = some r := h
 clear h
 replace H := Option.bind_eq_some_iff.mp H
 obtain ⟨t592,A30,H⟩ := H
 replace H : (if t592 = true then (if a0.size + 1 ≤ 9223372036854775807 then (if (a0 ++ (⟨#[10]⟩ : ByteArray)).size + a1.size ≤ 9223372036854775807 then ((word_Spans.f ((a0 ++ (⟨#[10]⟩ : ByteArray)) ++ a1)).bind fun t593 => ((word_Spans.f a0).bind fun t596 => ((word_Spans.f a1).bind fun t599 => (if (t593.length : Int) = (wrap64 ((t596.length : Int) + (t599.length : Int))) then (bodkinlaw05_WordJoins.l0 k a0 a1 ((a0 ++ (⟨#[10]⟩ : ByteArray)) ++ a1) t593 t596 t599 0) else (some false))))) else (none)) else (none)) else (some false)) = some r := H
 have A3 := Aside0.mk A30
 clear A30
 by_cases c4 : t592 = true
 ·subst c4
  have H1 : (if a0.size + 1 ≤ 9223372036854775807 then (if (a0 ++ (⟨#[10]⟩ : ByteArray)).size + a1.size ≤ 9223372036854775807 then ((word_Spans.f ((a0 ++ (⟨#[10]⟩ : ByteArray)) ++ a1)).bind fun t593 => ((word_Spans.f a0).bind fun t596 => ((word_Spans.f a1).bind fun t599 => (if (t593.length : Int) = (wrap64 ((t596.length : Int) + (t599.length : Int))) then (bodkinlaw05_WordJoins.l0 k a0 a1 ((a0 ++ (⟨#[10]⟩ : ByteArray)) ++ a1) t593 t596 t599 0) else (some false))))) else (none)) else (none)) = some r := by rw [if_pos rfl] at H;exact H
  clear H
  have H := H1
  clear H1
  by_cases c5 : a0.size + 1 ≤ 9223372036854775807
  ·rw [if_pos c5] at H
   have c5b0 := eq_true c5
   have c5b1 : decide (a0.size + 1 ≤ 9223372036854775807) = true := decide_eq_true c5
   try have c5b2 : (9223372036854775807 < a0.size + 1) = False := eq_false (Nat.not_lt.2 c5)
   by_cases c6 : (a0 ++ (⟨#[10]⟩ : ByteArray)).size + a1.size ≤ 9223372036854775807
   ·rw [if_pos c6] at H
    have c6b0 := eq_true c6
    have c6b1 : decide ((a0 ++ (⟨#[10]⟩ : ByteArray)).size + a1.size ≤ 9223372036854775807) = true := decide_eq_true c6
    try have c6b2 : (9223372036854775807 < (a0 ++ (⟨#[10]⟩ : ByteArray)).size + a1.size) = False := eq_false (Nat.not_lt.2 c6)
    replace H := Option.bind_eq_some_iff.mp H
    obtain ⟨t593,A70,H⟩ := H
    replace H : ((word_Spans.f a0).bind fun t596 => ((word_Spans.f a1).bind fun t599 => (if (t593.length : Int) = (wrap64 ((t596.length : Int) + (t599.length : Int))) then (bodkinlaw05_WordJoins.l0 k a0 a1 ((a0 ++ (⟨#[10]⟩ : ByteArray)) ++ a1) t593 t596 t599 0) else (some false)))) = some r := H
    have A7 := Aside0.mk A70
    clear A70
    replace H := Option.bind_eq_some_iff.mp H
    obtain ⟨t596,A80,H⟩ := H
    replace H : ((word_Spans.f a1).bind fun t599 => (if (t593.length : Int) = (wrap64 ((t596.length : Int) + (t599.length : Int))) then (bodkinlaw05_WordJoins.l0 k a0 a1 ((a0 ++ (⟨#[10]⟩ : ByteArray)) ++ a1) t593 t596 t599 0) else (some false))) = some r := H
    have A8 := Aside0.mk A80
    clear A80
    replace H := Option.bind_eq_some_iff.mp H
    obtain ⟨t599,A90,H⟩ := H
    replace H : (if (t593.length : Int) = (wrap64 ((t596.length : Int) + (t599.length : Int))) then (bodkinlaw05_WordJoins.l0 k a0 a1 ((a0 ++ (⟨#[10]⟩ : ByteArray)) ++ a1) t593 t596 t599 0) else (some false)) = some r := H
    have A9 := Aside0.mk A90
    clear A90
    by_cases c10 : (t593.length : Int) = (wrap64 ((t596.length : Int) + (t599.length : Int)))
    ·rw [if_pos c10] at H
     have c10b0 : ((t593.length : Int) == (wrap64 ((t596.length : Int) + (t599.length : Int)))) = true := beq_iff_eq.mpr c10
     have c10b1 : ((t593.length : Int) != (wrap64 ((t596.length : Int) + (t599.length : Int)))) = false := bne_eq_false_iff_eq.mpr c10
     clear c10
     have H' := Aside0.mk H
     clear H
     go_enter Tryd.func11,Tryd.ntmps11
     go_wp2_with (first | (go_at_call 12;(with_reducible refine (bodkinlaw05_awake.calls k true rfl _ ?side1 A3.out).mono ?_);(case side1 => exact tabs_below HT.out au0);rintro e w11 ⟨rfl,hb⟩;have n0_ := Aside0.mk (below_step au0 hb);clear HB;have HB := n0_;clear n0_;(try clear hb);(try clear hb2);(try clear hk);(try clear hi)) | (go_at_call 20;(with_reducible refine (word_Spans.calls ((a0 ++ (⟨#[10]⟩ : ByteArray)) ++ a1) t593 _ ?side1 A7.out).mono ?_);(case side1 => exact tabs_below HT.out au0);rintro e w12 ⟨v594,rfl,ho0,hb⟩;have n0_ := Aside0.mk (Kd.R_lower ho0 (below_size au0));have n1_ := Aside0.mk (below_step au0 hb);clear HB;have HO595 := n0_;have HB := n1_;clear n0_ n1_;(try clear hb);(try clear hb2);(try clear hk);(try clear hi);(try clear ho0)) | (go_at_call 20;(with_reducible refine (word_Spans.calls a0 t596 _ ?side1 A8.out).mono ?_);(case side1 => exact tabs_below HT.out au0);rintro e w13 ⟨v597,rfl,ho0,hb⟩;have n0_ := Aside0.mk (Kd.R_elder' au15 (Kd.R_base ho0) hb);have n1_ := Aside0.mk (Kd.R_lower (Kd.R_new' ho0 (Kd.R_lt au15)) (below_size au0));have n2_ := Aside0.mk (below_step au0 hb);clear HO595;clear HB;have HO595 := n0_;have HO598 := n1_;have HB := n2_;clear n0_ n1_ n2_;(try clear hb);(try clear hb2);(try clear hk);(try clear hi);(try clear ho0)) | (go_at_call 20;(with_reducible refine (word_Spans.calls a1 t599 _ ?side1 A9.out).mono ?_);(case side1 => exact tabs_below HT.out au0);rintro e w14 ⟨v600,rfl,ho0,hb⟩;have n0_ := Aside0.mk (Kd.R_elder' au15 (Kd.R_base ho0) hb);have n1_ := Aside0.mk (Kd.R_elder' au24 (Kd.R_base ho0) hb);have n2_ := Aside0.mk (Kd.R_lower (Kd.R_new' (Kd.R_new' ho0 (Kd.R_lt au15)) (Kd.R_lt au24)) (below_size au0));have n3_ := Aside0.mk (below_step au0 hb);clear HO595;clear HO598;clear HB;have HO595 := n0_;have HO598 := n1_;have HO601 := n2_;have HB := n3_;clear n0_ n1_ n2_ n3_;(try clear hb);(try clear hb2);(try clear hk);(try clear hi);(try clear ho0);obtain ⟨Ao15,co15,eo15⟩ := Kd.R_slice HO595.out;subst eo15;obtain ⟨Ao16,co16,eo16⟩ := Kd.R_slice HO598.out;subst eo16;obtain ⟨Ao17,co17,eo17⟩ := Kd.R_slice HO601.out;subst eo17))
     repeat (go_quiet (first | (go_at_call 12;(with_reducible refine (bodkinlaw05_awake.calls k true rfl _ ?side1 A3.out).mono ?_);(case side1 => exact tabs_below HT.out au0);rintro e w11 ⟨rfl,hb⟩;have n0_ := Aside0.mk (below_step au0 hb);clear HB;have HB := n0_;clear n0_;(try clear hb);(try clear hb2);(try clear hk);(try clear hi)) | (go_at_call 20;(with_reducible refine (word_Spans.calls ((a0 ++ (⟨#[10]⟩ : ByteArray)) ++ a1) t593 _ ?side1 A7.out).mono ?_);(case side1 => exact tabs_below HT.out au0);rintro e w12 ⟨v594,rfl,ho0,hb⟩;have n0_ := Aside0.mk (Kd.R_lower ho0 (below_size au0));have n1_ := Aside0.mk (below_step au0 hb);clear HB;have HO595 := n0_;have HB := n1_;clear n0_ n1_;(try clear hb);(try clear hb2);(try clear hk);(try clear hi);(try clear ho0)) | (go_at_call 20;(with_reducible refine (word_Spans.calls a0 t596 _ ?side1 A8.out).mono ?_);(case side1 => exact tabs_below HT.out au0);rintro e w13 ⟨v597,rfl,ho0,hb⟩;have n0_ := Aside0.mk (Kd.R_elder' au15 (Kd.R_base ho0) hb);have n1_ := Aside0.mk (Kd.R_lower (Kd.R_new' ho0 (Kd.R_lt au15)) (below_size au0));have n2_ := Aside0.mk (below_step au0 hb);clear HO595;clear HB;have HO595 := n0_;have HO598 := n1_;have HB := n2_;clear n0_ n1_ n2_;(try clear hb);(try clear hb2);(try clear hk);(try clear hi);(try clear ho0)) | (go_at_call 20;(with_reducible refine (word_Spans.calls a1 t599 _ ?side1 A9.out).mono ?_);(case side1 => exact tabs_below HT.out au0);rintro e w14 ⟨v600,rfl,ho0,hb⟩;have n0_ := Aside0.mk (Kd.R_elder' au15 (Kd.R_base ho0) hb);have n1_ := Aside0.mk (Kd.R_elder' au24 (Kd.R_base ho0) hb);have n2_ := Aside0.mk (Kd.R_lower (Kd.R_new' (Kd.R_new' ho0 (Kd.R_lt au15)) (Kd.R_lt au24)) (below_size au0));have n3_ := Aside0.mk (below_step au0 hb);clear HO595;clear HO598;clear HB;have HO595 := n0_;have HO598 := n1_;have HO601 := n2_;have HB := n3_;clear n0_ n1_ n2_ n3_;(try clear hb);(try clear hb2);(try clear hk);(try clear hi);(try clear ho0);obtain ⟨Ao15,co15,eo15⟩ := Kd.R_slice HO595.out;subst eo15;obtain ⟨Ao16,co16,eo16⟩ := Kd.R_slice HO598.out;subst eo16;obtain ⟨Ao17,co17,eo17⟩ := Kd.R_slice HO601.out;subst eo17));try go_wp2_with (first | (go_at_call 12;(with_reducible refine (bodkinlaw05_awake.calls k true rfl _ ?side1 A3.out).mono ?_);(case side1 => exact tabs_below HT.out au0);rintro e w11 ⟨rfl,hb⟩;have n0_ := Aside0.mk (below_step au0 hb);clear HB;have HB := n0_;clear n0_;(try clear hb);(try clear hb2);(try clear hk);(try clear hi)) | (go_at_call 20;(with_reducible refine (word_Spans.calls ((a0 ++ (⟨#[10]⟩ : ByteArray)) ++ a1) t593 _ ?side1 A7.out).mono ?_);(case side1 => exact tabs_below HT.out au0);rintro e w12 ⟨v594,rfl,ho0,hb⟩;have n0_ := Aside0.mk (Kd.R_lower ho0 (below_size au0));have n1_ := Aside0.mk (below_step au0 hb);clear HB;have HO595 := n0_;have HB := n1_;clear n0_ n1_;(try clear hb);(try clear hb2);(try clear hk);(try clear hi);(try clear ho0)) | (go_at_call 20;(with_reducible refine (word_Spans.calls a0 t596 _ ?side1 A8.out).mono ?_);(case side1 => exact tabs_below HT.out au0);rintro e w13 ⟨v597,rfl,ho0,hb⟩;have n0_ := Aside0.mk (Kd.R_elder' au15 (Kd.R_base ho0) hb);have n1_ := Aside0.mk (Kd.R_lower (Kd.R_new' ho0 (Kd.R_lt au15)) (below_size au0));have n2_ := Aside0.mk (below_step au0 hb);clear HO595;clear HB;have HO595 := n0_;have HO598 := n1_;have HB := n2_;clear n0_ n1_ n2_;(try clear hb);(try clear hb2);(try clear hk);(try clear hi);(try clear ho0)) | (go_at_call 20;(with_reducible refine (word_Spans.calls a1 t599 _ ?side1 A9.out).mono ?_);(case side1 => exact tabs_below HT.out au0);rintro e w14 ⟨v600,rfl,ho0,hb⟩;have n0_ := Aside0.mk (Kd.R_elder' au15 (Kd.R_base ho0) hb);have n1_ := Aside0.mk (Kd.R_elder' au24 (Kd.R_base ho0) hb);have n2_ := Aside0.mk (Kd.R_lower (Kd.R_new' (Kd.R_new' ho0 (Kd.R_lt au15)) (Kd.R_lt au24)) (below_size au0));have n3_ := Aside0.mk (below_step au0 hb);clear HO595;clear HO598;clear HB;have HO595 := n0_;have HO598 := n1_;have HO601 := n2_;have HB := n3_;clear n0_ n1_ n2_ n3_;(try clear hb);(try clear hb2);(try clear hk);(try clear hi);(try clear ho0);obtain ⟨Ao15,co15,eo15⟩ := Kd.R_slice HO595.out;subst eo15;obtain ⟨Ao16,co16,eo16⟩ := Kd.R_slice HO598.out;subst eo16;obtain ⟨Ao17,co17,eo17⟩ := Kd.R_slice HO601.out;subst eo17)))
     go_loopg [9] k (fun kq v9 w' => ∃ (x9_1 : Int),v9 = .int .i64 x9_1 ∧ Aside0 (bodkinlaw05_WordJoins.l0 kq a0 a1 ((a0 ++ (⟨#[10]⟩ : ByteArray)) ++ a1) t593 t596 t599 x9_1 = some r) ∧ Aside0 (kq ≤ k) ∧ Aside0 (Kd.R k32 32 w' w.heap.size (fun k_ => some k_ ≠ ((.slice Ao16 t596.length co16) : Value).ownBlock ∧ some k_ ≠ ((.slice Ao17 t599.length co17) : Value).ownBlock) (.slice Ao15 t593.length co15) t593) ∧ Aside0 (Kd.R k32 32 w' w.heap.size (fun k_ => some k_ ≠ ((.slice Ao15 t593.length co15) : Value).ownBlock ∧ some k_ ≠ ((.slice Ao17 t599.length co17) : Value).ownBlock) (.slice Ao16 t596.length co16) t596) ∧ Aside0 (Kd.R k32 32 w' w.heap.size (fun k_ => some k_ ≠ ((.slice Ao15 t593.length co15) : Value).ownBlock ∧ some k_ ≠ ((.slice Ao16 t596.length co16) : Value).ownBlock) (.slice Ao17 t599.length co17) t599) ∧ Aside0 (Below w.heap.size w w'))
     case atStart => exact ⟨(0),au4,H',⟨Nat.le_refl _⟩,⟨by (with_reducible repeat (first | apply Kd.R_alloc | apply Kd.R_drewN | apply Kd.R_drew));exact Kd.R_mono HO595.out (fun _ hk => ⟨hk.1.2,hk.2⟩)⟩,⟨by (with_reducible repeat (first | apply Kd.R_alloc | apply Kd.R_drewN | apply Kd.R_drew));exact Kd.R_mono HO598.out (fun _ hk => ⟨hk.1.2,hk.2⟩)⟩,⟨by (with_reducible repeat (first | apply Kd.R_alloc | apply Kd.R_drewN | apply Kd.R_drew));exact Kd.R_mono HO601.out (fun _ hk => ⟨hk.1.2,hk.2⟩)⟩,⟨au0⟩⟩
     case round =>
      clear H'
      try clear c1
      try clear p2
      try clear c4
      try clear c5
      try clear c5b0
      try clear c5b1
      try clear c5b2
      try clear c6
      try clear c6b0
      try clear c6b1
      try clear c6b2
      try clear p6
      try clear c10
      try clear c10b0
      try clear c10b1
      try clear c11
      obtain ⟨x9_1,rfl,HA,HK1,HO_6,HO_7,HO_8,HB⟩ := hrel
      cases gk with
      | zero => exact absurd HA.out (by simp [bodkinlaw05_WordJoins.l0])
      | succ k1 =>
       have H := HA.out
       clear HA
       simp only [bodkinlaw05_WordJoins.l0] at H
       by_cases c18 : x9_1 < (t599.length : Int)
       ·rw [if_pos c18] at H
        have c18b0 : decide (x9_1 < (t599.length : Int)) = true := decide_eq_true c18
        clear c18
        obtain ⟨ji19,hji19⟩ : ∃ j_ : Int,(wrap64 ((t596.length : Int) + x9_1)) = j_ := ⟨_,rfl⟩
        replace H : (if 0 ≤ (ji19) then (if (ji19) < (t593.length : Int) then (if 0 ≤ x9_1 then (if (!(((rd_T32 t593 (ji19)).f0) == (wrap64 ((wrap64 (((rd_T32 t599 x9_1).f0) + (a0.size : Int))) + 1))) || (!(((rd_T32 t593 (ji19)).f1) == (wrap64 ((wrap64 (((rd_T32 t599 x9_1).f1) + (a0.size : Int))) + 1))))) = true then (some false) else (bodkinlaw05_WordJoins.l0 k1 a0 a1 ((a0 ++ (⟨#[10]⟩ : ByteArray)) ++ a1) t593 t596 t599 (wrap64 (x9_1 + 1)))) else (none)) else (none)) else (none)) = some r := by first | (rw [hji19] at H;exact H) | (simp only [hji19] at H ⊢;exact H)
        have hji19w : (IntKind.i64.wrap ((t596.length : Int) + x9_1)) = ji19 := (i64_w _).trans hji19
        by_cases c20 : 0 ≤ (ji19)
        ·rw [if_pos c20] at H
         have c20b0 : decide (0 ≤ (ji19)) = true := decide_eq_true c20
         clear c20
         by_cases c21 : (ji19) < (t593.length : Int)
         ·rw [if_pos c21] at H
          have c21b0 : decide ((ji19) < (t593.length : Int)) = true := decide_eq_true c21
          clear c21
          by_cases c22 : 0 ≤ x9_1
          ·rw [if_pos c22] at H
           have c22b0 : decide (0 ≤ x9_1) = true := decide_eq_true c22
           clear c22
           by_cases c23 : (!(((rd_T32 t593 (ji19)).f0) == (wrap64 ((wrap64 (((rd_T32 t599 x9_1).f0) + (a0.size : Int))) + 1))) || (!(((rd_T32 t593 (ji19)).f1) == (wrap64 ((wrap64 (((rd_T32 t599 x9_1).f1) + (a0.size : Int))) + 1))))) = true
           ·rw [if_pos c23] at H
            have c23b0 : (!(((rd_T32 t593 (ji19)).f0) == (wrap64 ((wrap64 (((rd_T32 t599 x9_1).f0) + (a0.size : Int))) + 1))) || (!(((rd_T32 t593 (ji19)).f1) == (wrap64 ((wrap64 (((rd_T32 t599 x9_1).f1) + (a0.size : Int))) + 1))))) = true := c23
            clear c23
            obtain rfl := Option.some.inj H
            cases hr_
           ·rw [if_neg c23] at H
            have c23b0 : (!(((rd_T32 t593 (ji19)).f0) == (wrap64 ((wrap64 (((rd_T32 t599 x9_1).f0) + (a0.size : Int))) + 1))) || (!(((rd_T32 t593 (ji19)).f1) == (wrap64 ((wrap64 (((rd_T32 t599 x9_1).f1) + (a0.size : Int))) + 1))))) = false := by simpa using c23
            clear c23
            have H' := Aside0.mk H
            clear H
            have p602 : 0 ≤ ((ji19) : Int) := of_decide_eq_true au13
            have q602 : (ji19) < (t593.length : Int) := of_decide_eq_true au13
            obtain ⟨ad602,e602,hx602_0,hx602_1⟩ := at_T32 (Kd.R_reads' HO_6.out).2.2 (ji19) p602 q602
            cases e602
            replace p602 := eq_true p602
            replace q602 := eq_true q602
            have p603 : 0 ≤ (x9_1 : Int) := of_decide_eq_true au13
            have q603 : x9_1 < (t599.length : Int) := of_decide_eq_true au13
            obtain ⟨ad603,e603,hx603_0,hx603_1⟩ := at_T32 (Kd.R_reads' HO_8.out).2.2 x9_1 p603 q603
            cases e603
            replace p603 := eq_true p603
            replace q603 := eq_true q603
            have p604 : 0 ≤ (x9_1 : Int) := of_decide_eq_true au13
            have q604 : x9_1 < (t599.length : Int) := of_decide_eq_true au13
            obtain ⟨ad604,e604,hx604_0,hx604_1⟩ := at_T32 (Kd.R_reads' HO_8.out).2.2 x9_1 p604 q604
            obtain rfl : ad603 = ad604 := (by injection e604)
            replace p604 := eq_true p604
            replace q604 := eq_true q604
            go_wp2
            repeat (go_quiet (fail);try go_wp2)
            go_roundg k1
            case measure => have := HK1.out;omega
            case rel => exact ⟨(wrap64 (x9_1 + 1)),au4,H',⟨by have := HK1.out;omega⟩,⟨by (with_reducible repeat (first | apply Kd.R_alloc | apply Kd.R_drewN | apply Kd.R_drew));exact HO_6.out⟩,⟨by (with_reducible repeat (first | apply Kd.R_alloc | apply Kd.R_drewN | apply Kd.R_drew));exact HO_7.out⟩,⟨by (with_reducible repeat (first | apply Kd.R_alloc | apply Kd.R_drewN | apply Kd.R_drew));exact HO_8.out⟩,⟨au0⟩⟩
          ·rw [if_neg c22] at H
           exact absurd H (by simp)
         ·rw [if_neg c21] at H
          exact absurd H (by simp)
        ·rw [if_neg c20] at H
         exact absurd H (by simp)
       ·rw [if_neg c18] at H
        have c18b0 : decide (x9_1 < (t599.length : Int)) = false := decide_eq_false c18
        clear c18
        by_cases c24 : 0 ≤ (t596.length : Int)
        ·rw [if_pos c24] at H
         have c24b0 := eq_true c24
         have c24b1 : decide (0 ≤ (t596.length : Int)) = true := decide_eq_true c24
         clear c24
         by_cases c25 : (t596.length : Int) ≤ (t593.length : Int)
         ·rw [if_pos c25] at H
          have c25b0 := eq_true c25
          have c25b1 : decide ((t596.length : Int) ≤ (t593.length : Int)) = true := decide_eq_true c25
          clear c25
          obtain ⟨y605,hy605⟩ : ∃ y_ : List (S32),y_ = (t593.take ((t596.length : Int) : Int).toNat) := ⟨_,rfl⟩
          replace H : ((bodkinlaw05_same.f k1 y605 t596).bind fun t609 => (if t609 = true then ((word_Upper.f ((a0 ++ (⟨#[10]⟩ : ByteArray)) ++ a1)).bind fun t610 => ((word_Upper.f a0).bind fun t611 => (if t611.size + 1 ≤ 9223372036854775807 then ((word_Upper.f a1).bind fun t612 => (if (t611 ++ (⟨#[10]⟩ : ByteArray)).size + t612.size ≤ 9223372036854775807 then (if t610.toList = ((t611 ++ (⟨#[10]⟩ : ByteArray)) ++ t612).toList then ((word_Lower.f ((a0 ++ (⟨#[10]⟩ : ByteArray)) ++ a1)).bind fun t613 => ((word_Lower.f a0).bind fun t614 => (if t614.size + 1 ≤ 9223372036854775807 then ((word_Lower.f a1).bind fun t615 => (if (t614 ++ (⟨#[10]⟩ : ByteArray)).size + t615.size ≤ 9223372036854775807 then (if t613.toList = ((t614 ++ (⟨#[10]⟩ : ByteArray)) ++ t615).toList then ((word_Capital.f ((a0 ++ (⟨#[10]⟩ : ByteArray)) ++ a1)).bind fun t616 => ((word_Capital.f a0).bind fun t617 => (if t617.size + 1 ≤ 9223372036854775807 then ((word_Capital.f a1).bind fun t618 => (if (t617 ++ (⟨#[10]⟩ : ByteArray)).size + t618.size ≤ 9223372036854775807 then (some (t616.toList == ((t617 ++ (⟨#[10]⟩ : ByteArray)) ++ t618).toList)) else (none))) else (none)))) else (some false)) else (none))) else (none)))) else (some false)) else (none))) else (none)))) else (some false))) = some r := by first | (rw [hy605];with_reducible exact H) | (have H2_ := (Option.bind_some _ _).symm.trans H;rw [hy605];with_reducible exact H2_) | (have H2_ := (Option.bind_some _ _).symm.trans H;with_reducible exact H2_) | with_reducible exact H | (rw [hy605];exact H) | exact H
          have Ny605 := Aside0.mk hy605
          clear hy605
          replace H := Option.bind_eq_some_iff.mp H
          obtain ⟨t609,A260,H⟩ := H
          replace H : (if t609 = true then ((word_Upper.f ((a0 ++ (⟨#[10]⟩ : ByteArray)) ++ a1)).bind fun t610 => ((word_Upper.f a0).bind fun t611 => (if t611.size + 1 ≤ 9223372036854775807 then ((word_Upper.f a1).bind fun t612 => (if (t611 ++ (⟨#[10]⟩ : ByteArray)).size + t612.size ≤ 9223372036854775807 then (if t610.toList = ((t611 ++ (⟨#[10]⟩ : ByteArray)) ++ t612).toList then ((word_Lower.f ((a0 ++ (⟨#[10]⟩ : ByteArray)) ++ a1)).bind fun t613 => ((word_Lower.f a0).bind fun t614 => (if t614.size + 1 ≤ 9223372036854775807 then ((word_Lower.f a1).bind fun t615 => (if (t614 ++ (⟨#[10]⟩ : ByteArray)).size + t615.size ≤ 9223372036854775807 then (if t613.toList = ((t614 ++ (⟨#[10]⟩ : ByteArray)) ++ t615).toList then ((word_Capital.f ((a0 ++ (⟨#[10]⟩ : ByteArray)) ++ a1)).bind fun t616 => ((word_Capital.f a0).bind fun t617 => (if t617.size + 1 ≤ 9223372036854775807 then ((word_Capital.f a1).bind fun t618 => (if (t617 ++ (⟨#[10]⟩ : ByteArray)).size + t618.size ≤ 9223372036854775807 then (some (t616.toList == ((t617 ++ (⟨#[10]⟩ : ByteArray)) ++ t618).toList)) else (none))) else (none)))) else (some false)) else (none))) else (none)))) else (some false)) else (none))) else (none)))) else (some false)) = some r := H
          have A26 := Aside0.mk A260
          clear A260
          by_cases c27 : t609 = true
          ·subst c27
           have H1 : ((word_Upper.f ((a0 ++ (⟨#[10]⟩ : ByteArray)) ++ a1)).bind fun t610 => ((word_Upper.f a0).bind fun t611 => (if t611.size + 1 ≤ 9223372036854775807 then ((word_Upper.f a1).bind fun t612 => (if (t611 ++ (⟨#[10]⟩ : ByteArray)).size + t612.size ≤ 9223372036854775807 then (if t610.toList = ((t611 ++ (⟨#[10]⟩ : ByteArray)) ++ t612).toList then ((word_Lower.f ((a0 ++ (⟨#[10]⟩ : ByteArray)) ++ a1)).bind fun t613 => ((word_Lower.f a0).bind fun t614 => (if t614.size + 1 ≤ 9223372036854775807 then ((word_Lower.f a1).bind fun t615 => (if (t614 ++ (⟨#[10]⟩ : ByteArray)).size + t615.size ≤ 9223372036854775807 then (if t613.toList = ((t614 ++ (⟨#[10]⟩ : ByteArray)) ++ t615).toList then ((word_Capital.f ((a0 ++ (⟨#[10]⟩ : ByteArray)) ++ a1)).bind fun t616 => ((word_Capital.f a0).bind fun t617 => (if t617.size + 1 ≤ 9223372036854775807 then ((word_Capital.f a1).bind fun t618 => (if (t617 ++ (⟨#[10]⟩ : ByteArray)).size + t618.size ≤ 9223372036854775807 then (some (t616.toList == ((t617 ++ (⟨#[10]⟩ : ByteArray)) ++ t618).toList)) else (none))) else (none)))) else (some false)) else (none))) else (none)))) else (some false)) else (none))) else (none)))) = some r := by rw [if_pos rfl] at H;exact H
           clear H
           have H := H1
           clear H1
           replace H := Option.bind_eq_some_iff.mp H
           obtain ⟨t610,A280,H⟩ := H
           replace H : ((word_Upper.f a0).bind fun t611 => (if t611.size + 1 ≤ 9223372036854775807 then ((word_Upper.f a1).bind fun t612 => (if (t611 ++ (⟨#[10]⟩ : ByteArray)).size + t612.size ≤ 9223372036854775807 then (if t610.toList = ((t611 ++ (⟨#[10]⟩ : ByteArray)) ++ t612).toList then ((word_Lower.f ((a0 ++ (⟨#[10]⟩ : ByteArray)) ++ a1)).bind fun t613 => ((word_Lower.f a0).bind fun t614 => (if t614.size + 1 ≤ 9223372036854775807 then ((word_Lower.f a1).bind fun t615 => (if (t614 ++ (⟨#[10]⟩ : ByteArray)).size + t615.size ≤ 9223372036854775807 then (if t613.toList = ((t614 ++ (⟨#[10]⟩ : ByteArray)) ++ t615).toList then ((word_Capital.f ((a0 ++ (⟨#[10]⟩ : ByteArray)) ++ a1)).bind fun t616 => ((word_Capital.f a0).bind fun t617 => (if t617.size + 1 ≤ 9223372036854775807 then ((word_Capital.f a1).bind fun t618 => (if (t617 ++ (⟨#[10]⟩ : ByteArray)).size + t618.size ≤ 9223372036854775807 then (some (t616.toList == ((t617 ++ (⟨#[10]⟩ : ByteArray)) ++ t618).toList)) else (none))) else (none)))) else (some false)) else (none))) else (none)))) else (some false)) else (none))) else (none))) = some r := H
           have A28 := Aside0.mk A280
           clear A280
           replace H := Option.bind_eq_some_iff.mp H
           obtain ⟨t611,A290,H⟩ := H
           replace H : (if t611.size + 1 ≤ 9223372036854775807 then ((word_Upper.f a1).bind fun t612 => (if (t611 ++ (⟨#[10]⟩ : ByteArray)).size + t612.size ≤ 9223372036854775807 then (if t610.toList = ((t611 ++ (⟨#[10]⟩ : ByteArray)) ++ t612).toList then ((word_Lower.f ((a0 ++ (⟨#[10]⟩ : ByteArray)) ++ a1)).bind fun t613 => ((word_Lower.f a0).bind fun t614 => (if t614.size + 1 ≤ 9223372036854775807 then ((word_Lower.f a1).bind fun t615 => (if (t614 ++ (⟨#[10]⟩ : ByteArray)).size + t615.size ≤ 9223372036854775807 then (if t613.toList = ((t614 ++ (⟨#[10]⟩ : ByteArray)) ++ t615).toList then ((word_Capital.f ((a0 ++ (⟨#[10]⟩ : ByteArray)) ++ a1)).bind fun t616 => ((word_Capital.f a0).bind fun t617 => (if t617.size + 1 ≤ 9223372036854775807 then ((word_Capital.f a1).bind fun t618 => (if (t617 ++ (⟨#[10]⟩ : ByteArray)).size + t618.size ≤ 9223372036854775807 then (some (t616.toList == ((t617 ++ (⟨#[10]⟩ : ByteArray)) ++ t618).toList)) else (none))) else (none)))) else (some false)) else (none))) else (none)))) else (some false)) else (none))) else (none)) = some r := H
           have A29 := Aside0.mk A290
           clear A290
           by_cases c30 : t611.size + 1 ≤ 9223372036854775807
           ·rw [if_pos c30] at H
            have c30b0 := eq_true c30
            have c30b1 : decide (t611.size + 1 ≤ 9223372036854775807) = true := decide_eq_true c30
            try have c30b2 : (9223372036854775807 < t611.size + 1) = False := eq_false (Nat.not_lt.2 c30)
            replace H := Option.bind_eq_some_iff.mp H
            obtain ⟨t612,A310,H⟩ := H
            replace H : (if (t611 ++ (⟨#[10]⟩ : ByteArray)).size + t612.size ≤ 9223372036854775807 then (if t610.toList = ((t611 ++ (⟨#[10]⟩ : ByteArray)) ++ t612).toList then ((word_Lower.f ((a0 ++ (⟨#[10]⟩ : ByteArray)) ++ a1)).bind fun t613 => ((word_Lower.f a0).bind fun t614 => (if t614.size + 1 ≤ 9223372036854775807 then ((word_Lower.f a1).bind fun t615 => (if (t614 ++ (⟨#[10]⟩ : ByteArray)).size + t615.size ≤ 9223372036854775807 then (if t613.toList = ((t614 ++ (⟨#[10]⟩ : ByteArray)) ++ t615).toList then ((word_Capital.f ((a0 ++ (⟨#[10]⟩ : ByteArray)) ++ a1)).bind fun t616 => ((word_Capital.f a0).bind fun t617 => (if t617.size + 1 ≤ 9223372036854775807 then ((word_Capital.f a1).bind fun t618 => (if (t617 ++ (⟨#[10]⟩ : ByteArray)).size + t618.size ≤ 9223372036854775807 then (some (t616.toList == ((t617 ++ (⟨#[10]⟩ : ByteArray)) ++ t618).toList)) else (none))) else (none)))) else (some false)) else (none))) else (none)))) else (some false)) else (none)) = some r := H
            have A31 := Aside0.mk A310
            clear A310
            by_cases c32 : (t611 ++ (⟨#[10]⟩ : ByteArray)).size + t612.size ≤ 9223372036854775807
            ·rw [if_pos c32] at H
             have c32b0 := eq_true c32
             have c32b1 : decide ((t611 ++ (⟨#[10]⟩ : ByteArray)).size + t612.size ≤ 9223372036854775807) = true := decide_eq_true c32
             try have c32b2 : (9223372036854775807 < (t611 ++ (⟨#[10]⟩ : ByteArray)).size + t612.size) = False := eq_false (Nat.not_lt.2 c32)
             by_cases c33 : t610.toList = ((t611 ++ (⟨#[10]⟩ : ByteArray)) ++ t612).toList
             ·rw [if_pos c33] at H
              have c33b0 : (t610.toList == ((t611 ++ (⟨#[10]⟩ : ByteArray)) ++ t612).toList) = true := beq_iff_eq.mpr c33
              have c33b1 : (t610.toList != ((t611 ++ (⟨#[10]⟩ : ByteArray)) ++ t612).toList) = false := bne_eq_false_iff_eq.mpr c33
              clear c33
              replace H := Option.bind_eq_some_iff.mp H
              obtain ⟨t613,A340,H⟩ := H
              replace H : ((word_Lower.f a0).bind fun t614 => (if t614.size + 1 ≤ 9223372036854775807 then ((word_Lower.f a1).bind fun t615 => (if (t614 ++ (⟨#[10]⟩ : ByteArray)).size + t615.size ≤ 9223372036854775807 then (if t613.toList = ((t614 ++ (⟨#[10]⟩ : ByteArray)) ++ t615).toList then ((word_Capital.f ((a0 ++ (⟨#[10]⟩ : ByteArray)) ++ a1)).bind fun t616 => ((word_Capital.f a0).bind fun t617 => (if t617.size + 1 ≤ 9223372036854775807 then ((word_Capital.f a1).bind fun t618 => (if (t617 ++ (⟨#[10]⟩ : ByteArray)).size + t618.size ≤ 9223372036854775807 then (some (t616.toList == ((t617 ++ (⟨#[10]⟩ : ByteArray)) ++ t618).toList)) else (none))) else (none)))) else (some false)) else (none))) else (none))) = some r := H
              have A34 := Aside0.mk A340
              clear A340
              replace H := Option.bind_eq_some_iff.mp H
              obtain ⟨t614,A350,H⟩ := H
              replace H : (if t614.size + 1 ≤ 9223372036854775807 then ((word_Lower.f a1).bind fun t615 => (if (t614 ++ (⟨#[10]⟩ : ByteArray)).size + t615.size ≤ 9223372036854775807 then (if t613.toList = ((t614 ++ (⟨#[10]⟩ : ByteArray)) ++ t615).toList then ((word_Capital.f ((a0 ++ (⟨#[10]⟩ : ByteArray)) ++ a1)).bind fun t616 => ((word_Capital.f a0).bind fun t617 => (if t617.size + 1 ≤ 9223372036854775807 then ((word_Capital.f a1).bind fun t618 => (if (t617 ++ (⟨#[10]⟩ : ByteArray)).size + t618.size ≤ 9223372036854775807 then (some (t616.toList == ((t617 ++ (⟨#[10]⟩ : ByteArray)) ++ t618).toList)) else (none))) else (none)))) else (some false)) else (none))) else (none)) = some r := H
              have A35 := Aside0.mk A350
              clear A350
              by_cases c36 : t614.size + 1 ≤ 9223372036854775807
              ·rw [if_pos c36] at H
               have c36b0 := eq_true c36
               have c36b1 : decide (t614.size + 1 ≤ 9223372036854775807) = true := decide_eq_true c36
               try have c36b2 : (9223372036854775807 < t614.size + 1) = False := eq_false (Nat.not_lt.2 c36)
               replace H := Option.bind_eq_some_iff.mp H
               obtain ⟨t615,A370,H⟩ := H
               replace H : (if (t614 ++ (⟨#[10]⟩ : ByteArray)).size + t615.size ≤ 9223372036854775807 then (if t613.toList = ((t614 ++ (⟨#[10]⟩ : ByteArray)) ++ t615).toList then ((word_Capital.f ((a0 ++ (⟨#[10]⟩ : ByteArray)) ++ a1)).bind fun t616 => ((word_Capital.f a0).bind fun t617 => (if t617.size + 1 ≤ 9223372036854775807 then ((word_Capital.f a1).bind fun t618 => (if (t617 ++ (⟨#[10]⟩ : ByteArray)).size + t618.size ≤ 9223372036854775807 then (some (t616.toList == ((t617 ++ (⟨#[10]⟩ : ByteArray)) ++ t618).toList)) else (none))) else (none)))) else (some false)) else (none)) = some r := H
               have A37 := Aside0.mk A370
               clear A370
               by_cases c38 : (t614 ++ (⟨#[10]⟩ : ByteArray)).size + t615.size ≤ 9223372036854775807
               ·rw [if_pos c38] at H
                have c38b0 := eq_true c38
                have c38b1 : decide ((t614 ++ (⟨#[10]⟩ : ByteArray)).size + t615.size ≤ 9223372036854775807) = true := decide_eq_true c38
                try have c38b2 : (9223372036854775807 < (t614 ++ (⟨#[10]⟩ : ByteArray)).size + t615.size) = False := eq_false (Nat.not_lt.2 c38)
                by_cases c39 : t613.toList = ((t614 ++ (⟨#[10]⟩ : ByteArray)) ++ t615).toList
                ·rw [if_pos c39] at H
                 have c39b0 : (t613.toList == ((t614 ++ (⟨#[10]⟩ : ByteArray)) ++ t615).toList) = true := beq_iff_eq.mpr c39
                 have c39b1 : (t613.toList != ((t614 ++ (⟨#[10]⟩ : ByteArray)) ++ t615).toList) = false := bne_eq_false_iff_eq.mpr c39
                 clear c39
                 replace H := Option.bind_eq_some_iff.mp H
                 obtain ⟨t616,A400,H⟩ := H
                 replace H : ((word_Capital.f a0).bind fun t617 => (if t617.size + 1 ≤ 9223372036854775807 then ((word_Capital.f a1).bind fun t618 => (if (t617 ++ (⟨#[10]⟩ : ByteArray)).size + t618.size ≤ 9223372036854775807 then (some (t616.toList == ((t617 ++ (⟨#[10]⟩ : ByteArray)) ++ t618).toList)) else (none))) else (none))) = some r := H
                 have A40 := Aside0.mk A400
                 clear A400
                 replace H := Option.bind_eq_some_iff.mp H
                 obtain ⟨t617,A410,H⟩ := H
                 replace H : (if t617.size + 1 ≤ 9223372036854775807 then ((word_Capital.f a1).bind fun t618 => (if (t617 ++ (⟨#[10]⟩ : ByteArray)).size + t618.size ≤ 9223372036854775807 then (some (t616.toList == ((t617 ++ (⟨#[10]⟩ : ByteArray)) ++ t618).toList)) else (none))) else (none)) = some r := H
                 have A41 := Aside0.mk A410
                 clear A410
                 by_cases c42 : t617.size + 1 ≤ 9223372036854775807
                 ·rw [if_pos c42] at H
                  have c42b0 := eq_true c42
                  have c42b1 : decide (t617.size + 1 ≤ 9223372036854775807) = true := decide_eq_true c42
                  try have c42b2 : (9223372036854775807 < t617.size + 1) = False := eq_false (Nat.not_lt.2 c42)
                  replace H := Option.bind_eq_some_iff.mp H
                  obtain ⟨t618,A430,H⟩ := H
                  replace H : (if (t617 ++ (⟨#[10]⟩ : ByteArray)).size + t618.size ≤ 9223372036854775807 then (some (t616.toList == ((t617 ++ (⟨#[10]⟩ : ByteArray)) ++ t618).toList)) else (none)) = some r := H
                  have A43 := Aside0.mk A430
                  clear A430
                  by_cases c44 : (t617 ++ (⟨#[10]⟩ : ByteArray)).size + t618.size ≤ 9223372036854775807
                  ·rw [if_pos c44] at H
                   have c44b0 := eq_true c44
                   have c44b1 : decide ((t617 ++ (⟨#[10]⟩ : ByteArray)).size + t618.size ≤ 9223372036854775807) = true := decide_eq_true c44
                   try have c44b2 : (9223372036854775807 < (t617 ++ (⟨#[10]⟩ : ByteArray)).size + t618.size) = False := eq_false (Nat.not_lt.2 c44)
                   obtain rfl := Option.some.inj H
                   have q45 : ((t596.length : Int) : Int) ≤ ((t593.length : Int) : Int) := of_decide_eq_true au13
                   obtain ⟨i045,hi045,_,hsz45,_⟩ := info_parts info32
                   have hroom45 : t593.length ≤ co15 := (Kd.R_reads' HO_6.out).2.1
                   have hC45 : Kd.C k32 _ Ao15 t593.length t593 := (Kd.R_reads' HO_6.out).2.2
                   have hcut45 := cut_to (P := Tryd.prog) 28 32 .i64 Tryd.underlying28 hi045 Ao15 t593.length co15 (t596.length : Int) (of_decide_eq_true au13) q45 hroom45
                   have hr45 := Kd.C_take (m := ((t596.length : Int) : Int).toNat) hC45 (by omega)
                   have hy45 : y605.length = ((t596.length : Int) : Int).toNat := (by rw [Ny605.out,List.length_take];omega)
                   rw [← Ny605.out] at hr45
                   rw [← hy45] at hcut45
                   have HR608 := Aside0.mk hr45
                   have HC608 := Aside0.mk (show y605.length ≤ co15 from by omega)
                   clear hr45 hC45 hroom45 hi045 hsz45
                   have KY45 := Aside0.mk hy45
                   clear hy45
                   have KL45 := Aside0.mk (show ((t596.length : Int) : Int).toNat ≤ t593.length from by omega)
                   replace q45 := eq_true q45
                   go_wp2_with (first | (go_at_call 21;(with_reducible refine (bodkinlaw05_same.calls k1 _ _ y605 _ _ t596 true _ ?side1 ?side2 ?side3 ?side4 A26.out).mono ?_);(case side1 => repeat (first | exact au2 | (with_reducible refine Kd.C_alloc ?_ _) | (with_reducible refine Kd.C_drewN ?_ _) | (with_reducible refine Kd.C_drew ?_)));(case side2 => exact HC608.out);(case side3 => repeat (first | exact (Kd.R_reads' HO_7.out).2.2 | (with_reducible refine Kd.C_alloc ?_ _) | (with_reducible refine Kd.C_drewN ?_ _) | (with_reducible refine Kd.C_drew ?_)));(case side4 => exact (Kd.R_reads' HO_7.out).2.1);rintro e w' ⟨rfl,⟨nd,rfl⟩⟩;(try first | exact ⟨rfl,_,World.drewN_drewN _ _ _⟩ | exact ⟨rfl,_,Eq.trans (World.drewN_drewN _ _ _) (congrArg (World.drewN _) (Nat.add_assoc _ _ _))⟩)) | (go_at_call 30;(with_reducible refine (word_Upper.calls ((a0 ++ (⟨#[10]⟩ : ByteArray)) ++ a1) t610 _ ?side1 A28.out).mono ?_);(case side1 => exact tabs_below HT.out au0);rintro e w46 ⟨rfl,hb⟩;have n0_ := Aside0.mk (Kd.R_below au5 hb);have n1_ := Aside0.mk (Kd.R_below au6 hb);have n2_ := Aside0.mk (Kd.R_below au7 hb);have n3_ := Aside0.mk (Kd.C_below au2 hb);have n4_ := Aside0.mk (below_step au0 hb);clear HO_6;clear HO_7;clear HO_8;clear HR608;clear HB;have HO_6 := n0_;have HO_7 := n1_;have HO_8 := n2_;have HR608 := n3_;have HB := n4_;clear n0_ n1_ n2_ n3_ n4_;(try clear hb);(try clear hb2);(try clear hk);(try clear hi)) | (go_at_call 30;(with_reducible refine (word_Upper.calls a0 t611 _ ?side1 A29.out).mono ?_);(case side1 => exact tabs_below HT.out au0);rintro e w47 ⟨rfl,hb⟩;have n0_ := Aside0.mk (Kd.R_below au5 hb);have n1_ := Aside0.mk (Kd.R_below au6 hb);have n2_ := Aside0.mk (Kd.R_below au7 hb);have n3_ := Aside0.mk (Kd.C_below au2 hb);have n4_ := Aside0.mk (below_step au0 hb);clear HO_6;clear HO_7;clear HO_8;clear HR608;clear HB;have HO_6 := n0_;have HO_7 := n1_;have HO_8 := n2_;have HR608 := n3_;have HB := n4_;clear n0_ n1_ n2_ n3_ n4_;(try clear hb);(try clear hb2);(try clear hk);(try clear hi)) | (go_at_call 30;(with_reducible refine (word_Upper.calls a1 t612 _ ?side1 A31.out).mono ?_);(case side1 => exact tabs_below HT.out au0);rintro e w48 ⟨rfl,hb⟩;have n0_ := Aside0.mk (Kd.R_below au5 hb);have n1_ := Aside0.mk (Kd.R_below au6 hb);have n2_ := Aside0.mk (Kd.R_below au7 hb);have n3_ := Aside0.mk (Kd.C_below au2 hb);have n4_ := Aside0.mk (below_step au0 hb);clear HO_6;clear HO_7;clear HO_8;clear HR608;clear HB;have HO_6 := n0_;have HO_7 := n1_;have HO_8 := n2_;have HR608 := n3_;have HB := n4_;clear n0_ n1_ n2_ n3_ n4_;(try clear hb);(try clear hb2);(try clear hk);(try clear hi)) | (go_at_call 32;(with_reducible refine (word_Lower.calls ((a0 ++ (⟨#[10]⟩ : ByteArray)) ++ a1) t613 _ ?side1 A34.out).mono ?_);(case side1 => exact tabs_below HT.out au0);rintro e w49 ⟨rfl,hb⟩;have n0_ := Aside0.mk (Kd.R_below au5 hb);have n1_ := Aside0.mk (Kd.R_below au6 hb);have n2_ := Aside0.mk (Kd.R_below au7 hb);have n3_ := Aside0.mk (Kd.C_below au2 hb);have n4_ := Aside0.mk (below_step au0 hb);clear HO_6;clear HO_7;clear HO_8;clear HR608;clear HB;have HO_6 := n0_;have HO_7 := n1_;have HO_8 := n2_;have HR608 := n3_;have HB := n4_;clear n0_ n1_ n2_ n3_ n4_;(try clear hb);(try clear hb2);(try clear hk);(try clear hi)) | (go_at_call 32;(with_reducible refine (word_Lower.calls a0 t614 _ ?side1 A35.out).mono ?_);(case side1 => exact tabs_below HT.out au0);rintro e w50 ⟨rfl,hb⟩;have n0_ := Aside0.mk (Kd.R_below au5 hb);have n1_ := Aside0.mk (Kd.R_below au6 hb);have n2_ := Aside0.mk (Kd.R_below au7 hb);have n3_ := Aside0.mk (Kd.C_below au2 hb);have n4_ := Aside0.mk (below_step au0 hb);clear HO_6;clear HO_7;clear HO_8;clear HR608;clear HB;have HO_6 := n0_;have HO_7 := n1_;have HO_8 := n2_;have HR608 := n3_;have HB := n4_;clear n0_ n1_ n2_ n3_ n4_;(try clear hb);(try clear hb2);(try clear hk);(try clear hi)) | (go_at_call 32;(with_reducible refine (word_Lower.calls a1 t615 _ ?side1 A37.out).mono ?_);(case side1 => exact tabs_below HT.out au0);rintro e w51 ⟨rfl,hb⟩;have n0_ := Aside0.mk (Kd.R_below au5 hb);have n1_ := Aside0.mk (Kd.R_below au6 hb);have n2_ := Aside0.mk (Kd.R_below au7 hb);have n3_ := Aside0.mk (Kd.C_below au2 hb);have n4_ := Aside0.mk (below_step au0 hb);clear HO_6;clear HO_7;clear HO_8;clear HR608;clear HB;have HO_6 := n0_;have HO_7 := n1_;have HO_8 := n2_;have HR608 := n3_;have HB := n4_;clear n0_ n1_ n2_ n3_ n4_;(try clear hb);(try clear hb2);(try clear hk);(try clear hi)) | (go_at_call 34;(with_reducible refine (word_Capital.calls ((a0 ++ (⟨#[10]⟩ : ByteArray)) ++ a1) t616 _ ?side1 A40.out).mono ?_);(case side1 => exact tabs_below HT.out au0);rintro e w52 ⟨rfl,hb⟩;have n0_ := Aside0.mk (Kd.R_below au5 hb);have n1_ := Aside0.mk (Kd.R_below au6 hb);have n2_ := Aside0.mk (Kd.R_below au7 hb);have n3_ := Aside0.mk (Kd.C_below au2 hb);have n4_ := Aside0.mk (below_step au0 hb);clear HO_6;clear HO_7;clear HO_8;clear HR608;clear HB;have HO_6 := n0_;have HO_7 := n1_;have HO_8 := n2_;have HR608 := n3_;have HB := n4_;clear n0_ n1_ n2_ n3_ n4_;(try clear hb);(try clear hb2);(try clear hk);(try clear hi)) | (go_at_call 34;(with_reducible refine (word_Capital.calls a0 t617 _ ?side1 A41.out).mono ?_);(case side1 => exact tabs_below HT.out au0);rintro e w53 ⟨rfl,hb⟩;have n0_ := Aside0.mk (Kd.R_below au5 hb);have n1_ := Aside0.mk (Kd.R_below au6 hb);have n2_ := Aside0.mk (Kd.R_below au7 hb);have n3_ := Aside0.mk (Kd.C_below au2 hb);have n4_ := Aside0.mk (below_step au0 hb);clear HO_6;clear HO_7;clear HO_8;clear HR608;clear HB;have HO_6 := n0_;have HO_7 := n1_;have HO_8 := n2_;have HR608 := n3_;have HB := n4_;clear n0_ n1_ n2_ n3_ n4_;(try clear hb);(try clear hb2);(try clear hk);(try clear hi)) | (go_at_call 34;(with_reducible refine (word_Capital.calls a1 t618 _ ?side1 A43.out).mono ?_);(case side1 => exact tabs_below HT.out au0);rintro e w54 ⟨rfl,hb⟩;have n0_ := Aside0.mk (Kd.R_below au5 hb);have n1_ := Aside0.mk (Kd.R_below au6 hb);have n2_ := Aside0.mk (Kd.R_below au7 hb);have n3_ := Aside0.mk (Kd.C_below au2 hb);have n4_ := Aside0.mk (below_step au0 hb);clear HO_6;clear HO_7;clear HO_8;clear HR608;clear HB;have HO_6 := n0_;have HO_7 := n1_;have HO_8 := n2_;have HR608 := n3_;have HB := n4_;clear n0_ n1_ n2_ n3_ n4_;(try clear hb);(try clear hb2);(try clear hk);(try clear hi)))
                   repeat (go_quiet (first | (go_at_call 21;(with_reducible refine (bodkinlaw05_same.calls k1 _ _ y605 _ _ t596 true _ ?side1 ?side2 ?side3 ?side4 A26.out).mono ?_);(case side1 => repeat (first | exact au2 | (with_reducible refine Kd.C_alloc ?_ _) | (with_reducible refine Kd.C_drewN ?_ _) | (with_reducible refine Kd.C_drew ?_)));(case side2 => exact HC608.out);(case side3 => repeat (first | exact (Kd.R_reads' HO_7.out).2.2 | (with_reducible refine Kd.C_alloc ?_ _) | (with_reducible refine Kd.C_drewN ?_ _) | (with_reducible refine Kd.C_drew ?_)));(case side4 => exact (Kd.R_reads' HO_7.out).2.1);rintro e w' ⟨rfl,⟨nd,rfl⟩⟩;(try first | exact ⟨rfl,_,World.drewN_drewN _ _ _⟩ | exact ⟨rfl,_,Eq.trans (World.drewN_drewN _ _ _) (congrArg (World.drewN _) (Nat.add_assoc _ _ _))⟩)) | (go_at_call 30;(with_reducible refine (word_Upper.calls ((a0 ++ (⟨#[10]⟩ : ByteArray)) ++ a1) t610 _ ?side1 A28.out).mono ?_);(case side1 => exact tabs_below HT.out au0);rintro e w46 ⟨rfl,hb⟩;have n0_ := Aside0.mk (Kd.R_below au5 hb);have n1_ := Aside0.mk (Kd.R_below au6 hb);have n2_ := Aside0.mk (Kd.R_below au7 hb);have n3_ := Aside0.mk (Kd.C_below au2 hb);have n4_ := Aside0.mk (below_step au0 hb);clear HO_6;clear HO_7;clear HO_8;clear HR608;clear HB;have HO_6 := n0_;have HO_7 := n1_;have HO_8 := n2_;have HR608 := n3_;have HB := n4_;clear n0_ n1_ n2_ n3_ n4_;(try clear hb);(try clear hb2);(try clear hk);(try clear hi)) | (go_at_call 30;(with_reducible refine (word_Upper.calls a0 t611 _ ?side1 A29.out).mono ?_);(case side1 => exact tabs_below HT.out au0);rintro e w47 ⟨rfl,hb⟩;have n0_ := Aside0.mk (Kd.R_below au5 hb);have n1_ := Aside0.mk (Kd.R_below au6 hb);have n2_ := Aside0.mk (Kd.R_below au7 hb);have n3_ := Aside0.mk (Kd.C_below au2 hb);have n4_ := Aside0.mk (below_step au0 hb);clear HO_6;clear HO_7;clear HO_8;clear HR608;clear HB;have HO_6 := n0_;have HO_7 := n1_;have HO_8 := n2_;have HR608 := n3_;have HB := n4_;clear n0_ n1_ n2_ n3_ n4_;(try clear hb);(try clear hb2);(try clear hk);(try clear hi)) | (go_at_call 30;(with_reducible refine (word_Upper.calls a1 t612 _ ?side1 A31.out).mono ?_);(case side1 => exact tabs_below HT.out au0);rintro e w48 ⟨rfl,hb⟩;have n0_ := Aside0.mk (Kd.R_below au5 hb);have n1_ := Aside0.mk (Kd.R_below au6 hb);have n2_ := Aside0.mk (Kd.R_below au7 hb);have n3_ := Aside0.mk (Kd.C_below au2 hb);have n4_ := Aside0.mk (below_step au0 hb);clear HO_6;clear HO_7;clear HO_8;clear HR608;clear HB;have HO_6 := n0_;have HO_7 := n1_;have HO_8 := n2_;have HR608 := n3_;have HB := n4_;clear n0_ n1_ n2_ n3_ n4_;(try clear hb);(try clear hb2);(try clear hk);(try clear hi)) | (go_at_call 32;(with_reducible refine (word_Lower.calls ((a0 ++ (⟨#[10]⟩ : ByteArray)) ++ a1) t613 _ ?side1 A34.out).mono ?_);(case side1 => exact tabs_below HT.out au0);rintro e w49 ⟨rfl,hb⟩;have n0_ := Aside0.mk (Kd.R_below au5 hb);have n1_ := Aside0.mk (Kd.R_below au6 hb);have n2_ := Aside0.mk (Kd.R_below au7 hb);have n3_ := Aside0.mk (Kd.C_below au2 hb);have n4_ := Aside0.mk (below_step au0 hb);clear HO_6;clear HO_7;clear HO_8;clear HR608;clear HB;have HO_6 := n0_;have HO_7 := n1_;have HO_8 := n2_;have HR608 := n3_;have HB := n4_;clear n0_ n1_ n2_ n3_ n4_;(try clear hb);(try clear hb2);(try clear hk);(try clear hi)) | (go_at_call 32;(with_reducible refine (word_Lower.calls a0 t614 _ ?side1 A35.out).mono ?_);(case side1 => exact tabs_below HT.out au0);rintro e w50 ⟨rfl,hb⟩;have n0_ := Aside0.mk (Kd.R_below au5 hb);have n1_ := Aside0.mk (Kd.R_below au6 hb);have n2_ := Aside0.mk (Kd.R_below au7 hb);have n3_ := Aside0.mk (Kd.C_below au2 hb);have n4_ := Aside0.mk (below_step au0 hb);clear HO_6;clear HO_7;clear HO_8;clear HR608;clear HB;have HO_6 := n0_;have HO_7 := n1_;have HO_8 := n2_;have HR608 := n3_;have HB := n4_;clear n0_ n1_ n2_ n3_ n4_;(try clear hb);(try clear hb2);(try clear hk);(try clear hi)) | (go_at_call 32;(with_reducible refine (word_Lower.calls a1 t615 _ ?side1 A37.out).mono ?_);(case side1 => exact tabs_below HT.out au0);rintro e w51 ⟨rfl,hb⟩;have n0_ := Aside0.mk (Kd.R_below au5 hb);have n1_ := Aside0.mk (Kd.R_below au6 hb);have n2_ := Aside0.mk (Kd.R_below au7 hb);have n3_ := Aside0.mk (Kd.C_below au2 hb);have n4_ := Aside0.mk (below_step au0 hb);clear HO_6;clear HO_7;clear HO_8;clear HR608;clear HB;have HO_6 := n0_;have HO_7 := n1_;have HO_8 := n2_;have HR608 := n3_;have HB := n4_;clear n0_ n1_ n2_ n3_ n4_;(try clear hb);(try clear hb2);(try clear hk);(try clear hi)) | (go_at_call 34;(with_reducible refine (word_Capital.calls ((a0 ++ (⟨#[10]⟩ : ByteArray)) ++ a1) t616 _ ?side1 A40.out).mono ?_);(case side1 => exact tabs_below HT.out au0);rintro e w52 ⟨rfl,hb⟩;have n0_ := Aside0.mk (Kd.R_below au5 hb);have n1_ := Aside0.mk (Kd.R_below au6 hb);have n2_ := Aside0.mk (Kd.R_below au7 hb);have n3_ := Aside0.mk (Kd.C_below au2 hb);have n4_ := Aside0.mk (below_step au0 hb);clear HO_6;clear HO_7;clear HO_8;clear HR608;clear HB;have HO_6 := n0_;have HO_7 := n1_;have HO_8 := n2_;have HR608 := n3_;have HB := n4_;clear n0_ n1_ n2_ n3_ n4_;(try clear hb);(try clear hb2);(try clear hk);(try clear hi)) | (go_at_call 34;(with_reducible refine (word_Capital.calls a0 t617 _ ?side1 A41.out).mono ?_);(case side1 => exact tabs_below HT.out au0);rintro e w53 ⟨rfl,hb⟩;have n0_ := Aside0.mk (Kd.R_below au5 hb);have n1_ := Aside0.mk (Kd.R_below au6 hb);have n2_ := Aside0.mk (Kd.R_below au7 hb);have n3_ := Aside0.mk (Kd.C_below au2 hb);have n4_ := Aside0.mk (below_step au0 hb);clear HO_6;clear HO_7;clear HO_8;clear HR608;clear HB;have HO_6 := n0_;have HO_7 := n1_;have HO_8 := n2_;have HR608 := n3_;have HB := n4_;clear n0_ n1_ n2_ n3_ n4_;(try clear hb);(try clear hb2);(try clear hk);(try clear hi)) | (go_at_call 34;(with_reducible refine (word_Capital.calls a1 t618 _ ?side1 A43.out).mono ?_);(case side1 => exact tabs_below HT.out au0);rintro e w54 ⟨rfl,hb⟩;have n0_ := Aside0.mk (Kd.R_below au5 hb);have n1_ := Aside0.mk (Kd.R_below au6 hb);have n2_ := Aside0.mk (Kd.R_below au7 hb);have n3_ := Aside0.mk (Kd.C_below au2 hb);have n4_ := Aside0.mk (below_step au0 hb);clear HO_6;clear HO_7;clear HO_8;clear HR608;clear HB;have HO_6 := n0_;have HO_7 := n1_;have HO_8 := n2_;have HR608 := n3_;have HB := n4_;clear n0_ n1_ n2_ n3_ n4_;(try clear hb);(try clear hb2);(try clear hk);(try clear hi)));try go_wp2_with (first | (go_at_call 21;(with_reducible refine (bodkinlaw05_same.calls k1 _ _ y605 _ _ t596 true _ ?side1 ?side2 ?side3 ?side4 A26.out).mono ?_);(case side1 => repeat (first | exact au2 | (with_reducible refine Kd.C_alloc ?_ _) | (with_reducible refine Kd.C_drewN ?_ _) | (with_reducible refine Kd.C_drew ?_)));(case side2 => exact HC608.out);(case side3 => repeat (first | exact (Kd.R_reads' HO_7.out).2.2 | (with_reducible refine Kd.C_alloc ?_ _) | (with_reducible refine Kd.C_drewN ?_ _) | (with_reducible refine Kd.C_drew ?_)));(case side4 => exact (Kd.R_reads' HO_7.out).2.1);rintro e w' ⟨rfl,⟨nd,rfl⟩⟩;(try first | exact ⟨rfl,_,World.drewN_drewN _ _ _⟩ | exact ⟨rfl,_,Eq.trans (World.drewN_drewN _ _ _) (congrArg (World.drewN _) (Nat.add_assoc _ _ _))⟩)) | (go_at_call 30;(with_reducible refine (word_Upper.calls ((a0 ++ (⟨#[10]⟩ : ByteArray)) ++ a1) t610 _ ?side1 A28.out).mono ?_);(case side1 => exact tabs_below HT.out au0);rintro e w46 ⟨rfl,hb⟩;have n0_ := Aside0.mk (Kd.R_below au5 hb);have n1_ := Aside0.mk (Kd.R_below au6 hb);have n2_ := Aside0.mk (Kd.R_below au7 hb);have n3_ := Aside0.mk (Kd.C_below au2 hb);have n4_ := Aside0.mk (below_step au0 hb);clear HO_6;clear HO_7;clear HO_8;clear HR608;clear HB;have HO_6 := n0_;have HO_7 := n1_;have HO_8 := n2_;have HR608 := n3_;have HB := n4_;clear n0_ n1_ n2_ n3_ n4_;(try clear hb);(try clear hb2);(try clear hk);(try clear hi)) | (go_at_call 30;(with_reducible refine (word_Upper.calls a0 t611 _ ?side1 A29.out).mono ?_);(case side1 => exact tabs_below HT.out au0);rintro e w47 ⟨rfl,hb⟩;have n0_ := Aside0.mk (Kd.R_below au5 hb);have n1_ := Aside0.mk (Kd.R_below au6 hb);have n2_ := Aside0.mk (Kd.R_below au7 hb);have n3_ := Aside0.mk (Kd.C_below au2 hb);have n4_ := Aside0.mk (below_step au0 hb);clear HO_6;clear HO_7;clear HO_8;clear HR608;clear HB;have HO_6 := n0_;have HO_7 := n1_;have HO_8 := n2_;have HR608 := n3_;have HB := n4_;clear n0_ n1_ n2_ n3_ n4_;(try clear hb);(try clear hb2);(try clear hk);(try clear hi)) | (go_at_call 30;(with_reducible refine (word_Upper.calls a1 t612 _ ?side1 A31.out).mono ?_);(case side1 => exact tabs_below HT.out au0);rintro e w48 ⟨rfl,hb⟩;have n0_ := Aside0.mk (Kd.R_below au5 hb);have n1_ := Aside0.mk (Kd.R_below au6 hb);have n2_ := Aside0.mk (Kd.R_below au7 hb);have n3_ := Aside0.mk (Kd.C_below au2 hb);have n4_ := Aside0.mk (below_step au0 hb);clear HO_6;clear HO_7;clear HO_8;clear HR608;clear HB;have HO_6 := n0_;have HO_7 := n1_;have HO_8 := n2_;have HR608 := n3_;have HB := n4_;clear n0_ n1_ n2_ n3_ n4_;(try clear hb);(try clear hb2);(try clear hk);(try clear hi)) | (go_at_call 32;(with_reducible refine (word_Lower.calls ((a0 ++ (⟨#[10]⟩ : ByteArray)) ++ a1) t613 _ ?side1 A34.out).mono ?_);(case side1 => exact tabs_below HT.out au0);rintro e w49 ⟨rfl,hb⟩;have n0_ := Aside0.mk (Kd.R_below au5 hb);have n1_ := Aside0.mk (Kd.R_below au6 hb);have n2_ := Aside0.mk (Kd.R_below au7 hb);have n3_ := Aside0.mk (Kd.C_below au2 hb);have n4_ := Aside0.mk (below_step au0 hb);clear HO_6;clear HO_7;clear HO_8;clear HR608;clear HB;have HO_6 := n0_;have HO_7 := n1_;have HO_8 := n2_;have HR608 := n3_;have HB := n4_;clear n0_ n1_ n2_ n3_ n4_;(try clear hb);(try clear hb2);(try clear hk);(try clear hi)) | (go_at_call 32;(with_reducible refine (word_Lower.calls a0 t614 _ ?side1 A35.out).mono ?_);(case side1 => exact tabs_below HT.out au0);rintro e w50 ⟨rfl,hb⟩;have n0_ := Aside0.mk (Kd.R_below au5 hb);have n1_ := Aside0.mk (Kd.R_below au6 hb);have n2_ := Aside0.mk (Kd.R_below au7 hb);have n3_ := Aside0.mk (Kd.C_below au2 hb);have n4_ := Aside0.mk (below_step au0 hb);clear HO_6;clear HO_7;clear HO_8;clear HR608;clear HB;have HO_6 := n0_;have HO_7 := n1_;have HO_8 := n2_;have HR608 := n3_;have HB := n4_;clear n0_ n1_ n2_ n3_ n4_;(try clear hb);(try clear hb2);(try clear hk);(try clear hi)) | (go_at_call 32;(with_reducible refine (word_Lower.calls a1 t615 _ ?side1 A37.out).mono ?_);(case side1 => exact tabs_below HT.out au0);rintro e w51 ⟨rfl,hb⟩;have n0_ := Aside0.mk (Kd.R_below au5 hb);have n1_ := Aside0.mk (Kd.R_below au6 hb);have n2_ := Aside0.mk (Kd.R_below au7 hb);have n3_ := Aside0.mk (Kd.C_below au2 hb);have n4_ := Aside0.mk (below_step au0 hb);clear HO_6;clear HO_7;clear HO_8;clear HR608;clear HB;have HO_6 := n0_;have HO_7 := n1_;have HO_8 := n2_;have HR608 := n3_;have HB := n4_;clear n0_ n1_ n2_ n3_ n4_;(try clear hb);(try clear hb2);(try clear hk);(try clear hi)) | (go_at_call 34;(with_reducible refine (word_Capital.calls ((a0 ++ (⟨#[10]⟩ : ByteArray)) ++ a1) t616 _ ?side1 A40.out).mono ?_);(case side1 => exact tabs_below HT.out au0);rintro e w52 ⟨rfl,hb⟩;have n0_ := Aside0.mk (Kd.R_below au5 hb);have n1_ := Aside0.mk (Kd.R_below au6 hb);have n2_ := Aside0.mk (Kd.R_below au7 hb);have n3_ := Aside0.mk (Kd.C_below au2 hb);have n4_ := Aside0.mk (below_step au0 hb);clear HO_6;clear HO_7;clear HO_8;clear HR608;clear HB;have HO_6 := n0_;have HO_7 := n1_;have HO_8 := n2_;have HR608 := n3_;have HB := n4_;clear n0_ n1_ n2_ n3_ n4_;(try clear hb);(try clear hb2);(try clear hk);(try clear hi)) | (go_at_call 34;(with_reducible refine (word_Capital.calls a0 t617 _ ?side1 A41.out).mono ?_);(case side1 => exact tabs_below HT.out au0);rintro e w53 ⟨rfl,hb⟩;have n0_ := Aside0.mk (Kd.R_below au5 hb);have n1_ := Aside0.mk (Kd.R_below au6 hb);have n2_ := Aside0.mk (Kd.R_below au7 hb);have n3_ := Aside0.mk (Kd.C_below au2 hb);have n4_ := Aside0.mk (below_step au0 hb);clear HO_6;clear HO_7;clear HO_8;clear HR608;clear HB;have HO_6 := n0_;have HO_7 := n1_;have HO_8 := n2_;have HR608 := n3_;have HB := n4_;clear n0_ n1_ n2_ n3_ n4_;(try clear hb);(try clear hb2);(try clear hk);(try clear hi)) | (go_at_call 34;(with_reducible refine (word_Capital.calls a1 t618 _ ?side1 A43.out).mono ?_);(case side1 => exact tabs_below HT.out au0);rintro e w54 ⟨rfl,hb⟩;have n0_ := Aside0.mk (Kd.R_below au5 hb);have n1_ := Aside0.mk (Kd.R_below au6 hb);have n2_ := Aside0.mk (Kd.R_below au7 hb);have n3_ := Aside0.mk (Kd.C_below au2 hb);have n4_ := Aside0.mk (below_step au0 hb);clear HO_6;clear HO_7;clear HO_8;clear HR608;clear HB;have HO_6 := n0_;have HO_7 := n1_;have HO_8 := n2_;have HR608 := n3_;have HB := n4_;clear n0_ n1_ n2_ n3_ n4_;(try clear hb);(try clear hb2);(try clear hk);(try clear hi))))
                   go_ret
                   exact ⟨au3,au0⟩
                  ·rw [if_neg c44] at H
                   exact absurd H (by simp)
                 ·rw [if_neg c42] at H
                  exact absurd H (by simp)
                ·rw [if_neg c39] at H
                 have c39b0 : (t613.toList == ((t614 ++ (⟨#[10]⟩ : ByteArray)) ++ t615).toList) = false := beq_eq_false_iff_ne.mpr c39
                 have c39b1 : (t613.toList != ((t614 ++ (⟨#[10]⟩ : ByteArray)) ++ t615).toList) = true := bne_iff_ne.mpr c39
                 obtain rfl := Option.some.inj H
                 cases hr_
               ·rw [if_neg c38] at H
                exact absurd H (by simp)
              ·rw [if_neg c36] at H
               exact absurd H (by simp)
             ·rw [if_neg c33] at H
              have c33b0 : (t610.toList == ((t611 ++ (⟨#[10]⟩ : ByteArray)) ++ t612).toList) = false := beq_eq_false_iff_ne.mpr c33
              have c33b1 : (t610.toList != ((t611 ++ (⟨#[10]⟩ : ByteArray)) ++ t612).toList) = true := bne_iff_ne.mpr c33
              obtain rfl := Option.some.inj H
              cases hr_
            ·rw [if_neg c32] at H
             exact absurd H (by simp)
           ·rw [if_neg c30] at H
            exact absurd H (by simp)
          ·replace c27 := Bool.eq_false_iff.mpr c27
           subst c27
           have H1 : (some false) = some r := by rw [if_neg (show ¬ (false = true) by decide)] at H;exact H
           clear H
           have H := H1
           clear H1
           obtain rfl := Option.some.inj H
           cases hr_
         ·rw [if_neg c25] at H
          exact absurd H (by simp)
        ·rw [if_neg c24] at H
         exact absurd H (by simp)
    ·rw [if_neg c10] at H
     have c10b0 : ((t593.length : Int) == (wrap64 ((t596.length : Int) + (t599.length : Int)))) = false := beq_eq_false_iff_ne.mpr c10
     have c10b1 : ((t593.length : Int) != (wrap64 ((t596.length : Int) + (t599.length : Int)))) = true := bne_iff_ne.mpr c10
     obtain rfl := Option.some.inj H
     cases hr_
   ·rw [if_neg c6] at H
    exact absurd H (by simp)
  ·rw [if_neg c5] at H
   exact absurd H (by simp)
 ·replace c4 := Bool.eq_false_iff.mpr c4
  subst c4
  have H1 : (some false) = some r := by rw [if_neg (show ¬ (false = true) by decide)] at H;exact H
  clear H
  have H := H1
  clear H1
  obtain rfl := Option.some.inj H
  cases hr_
end Go.Proofs.YtkficbgnjpekaaaDoor.U
end
section
namespace Go.Proofs.YtkficbgnjpekaaaDoor.Pu
open Go Go.RowKit Go.Proofs.YtkficbgnjpekaaaDoor.Mu Go.Proofs.YtkficbgnjpekaaaDoor.U Go.Proofs.YtkficbgnjpekaaaDoorW.PrintWords Go.Proofs.YtkficbgnjpekaaaDoorW.PrintLast Go.Proofs.YtkficbgnjpekaaaDoorW.PrintMore
theorem awake_ans : Ev (fun k => bodkinlaw05_awake.f k) true := Ev.of (fun k => bodkinlaw05_awake.mono k) (k := 200) (by kernel_rfl)
end Go.Proofs.YtkficbgnjpekaaaDoor.Pu
end
section
namespace Go.Proofs.YtkficbgnjpekaaaDoor.Pu
open Go Go.RowKit Go.Proofs.YtkficbgnjpekaaaDoor.Mu Go.Proofs.YtkficbgnjpekaaaDoor.U Go.Proofs.YtkficbgnjpekaaaDoorW.PrintWords Go.Proofs.YtkficbgnjpekaaaDoorW.PrintLast Go.Proofs.YtkficbgnjpekaaaDoorW.PrintMore
/-- The bytes of a text from x on. -/
def bytsAt (s : ByteArray) (x n : Nat) : List Int := (List.range n).map fun i => (byt s (x + i) : Int)
/-- A good unit's bytes are its character's encoding. -/
theorem enc_unit (s : ByteArray) (x : Nat) (h : 0 ≤ uC s x) : okC (uC s x) ∧ encI (uC s x) = bytsAt s x (uN s x) := by
 have := byt_lt s x;have := byt_lt s (x + 1);have := byt_lt s (x + 2);have := byt_lt s (x + 3)
 unfold okC encI bytsAt
 rcases uC_cases s x with h1 | h1 | h1 | h1 | h1
 ·refine ⟨by omega,?_⟩
  rw [if_pos (by omega),h1.2.2,h1.2.1];rfl
 ·omega
 ·obtain ⟨a,b,c,d,e,f,g⟩ := h1
  refine ⟨by omega,?_⟩
  rw [if_neg (by omega),if_pos (by omega),g]
  show _ = [(byt s x : Int),(byt s (x + 1) : Int)]
  rw [show 192 + uC s x / 64 = (byt s x : Int) by omega,show 128 + uC s x % 64 = (byt s (x + 1) : Int) by omega]
 ·obtain ⟨a,b,c,d,d2,e,e2,f,g⟩ := h1
  refine ⟨by omega,?_⟩
  rw [if_neg (by omega),if_neg (by omega),if_pos (by omega),g]
  show _ = [(byt s x : Int),(byt s (x + 1) : Int),(byt s (x + 2) : Int)]
  rw [show 224 + uC s x / 4096 = (byt s x : Int) by omega,show 128 + uC s x / 64 % 64 = (byt s (x + 1) : Int) by omega,show 128 + uC s x % 64 = (byt s (x + 2) : Int) by omega]
 ·obtain ⟨a,b,c,d,d2,d3,e,e2,f,g⟩ := h1
  refine ⟨by omega,?_⟩
  rw [if_neg (by omega),if_neg (by omega),if_neg (by omega),g]
  show _ = [(byt s x : Int),(byt s (x + 1) : Int),(byt s (x + 2) : Int),(byt s (x + 3) : Int)]
  rw [show 240 + uC s x / 262144 = (byt s x : Int) by omega,show 128 + uC s x / 4096 % 64 = (byt s (x + 1) : Int) by omega,show 128 + uC s x / 64 % 64 = (byt s (x + 2) : Int) by omega,show 128 + uC s x % 64 = (byt s (x + 3) : Int) by omega]
theorem bytsAt_len (s : ByteArray) (x n : Nat) : (bytsAt s x n).length = n := by simp [bytsAt]
end Go.Proofs.YtkficbgnjpekaaaDoor.Pu
end
section
namespace Go.Proofs.YtkficbgnjpekaaaDoor.Pu
open Go Go.RowKit Go.Proofs.YtkficbgnjpekaaaDoor.Mu Go.Proofs.YtkficbgnjpekaaaDoor.U Go.Proofs.YtkficbgnjpekaaaDoorW.PrintWords Go.Proofs.YtkficbgnjpekaaaDoorW.PrintLast Go.Proofs.YtkficbgnjpekaaaDoorW.PrintMore
set_option linter.unusedVariables false
set_option linter.unusedSimpArgs false
def casL : List S55 := match bodkinref05_Pairs.f 200 with | some l => l | none => []
def casesOk : Bool := casL.all fun p => decide (upC p.f0 = p.f1) && decide (lowC p.f1 = p.f0)
def restOk : Bool := (List.range 1300).all fun n => (decide (upC (n : Int) = n) || casL.any (fun p => decide (p.f0 = n))) && (decide (lowC (n : Int) = n) || casL.any (fun p => decide (p.f1 = n)))
theorem cases_ok : casesOk = true := by kernel_rfl
theorem rest_ok : restOk = true := by kernel_rfl
theorem upC_far (c : Int) (h : c < 0 ∨ 1300 ≤ c) : upC c = c := by
 have e3 : runB c = false := by unfold runB;rw [decide_eq_false_iff_not];omega
 have o1 : oddB c 257 311 = false := by unfold oddB;rw [decide_eq_false_iff_not];omega
 have o2 : oddB c 331 375 = false := by unfold oddB;rw [decide_eq_false_iff_not];omega
 have o3 : oddB c 1121 1153 = false := by unfold oddB;rw [decide_eq_false_iff_not];omega
 unfold upC low3
 rw [e3,if_neg (by simp)]
 unfold low2
 rw [if_neg (by rw [decide_eq_true_iff];omega),if_neg (by omega)]
 unfold low1
 rw [o1,Bool.and_false,if_neg (by simp),o2,if_neg (by simp),o3,if_neg (by simp)]
theorem lowC_far (c : Int) (h : c < 0 ∨ 1300 ≤ c) : lowC c = c := by
 have hn : ∀ f r,lowTry c f r = r := fun f r => by unfold lowTry;rw [if_neg (by omega)]
 unfold lowC
 rw [if_neg (by omega),hn,hn,hn]
theorem up_of (p : S55) (h : p ∈ casL) : upC p.f0 = p.f1 ∧ lowC p.f1 = p.f0 := by
 have := List.all_eq_true.1 cases_ok p h
 simp only [Bool.and_eq_true,decide_eq_true_eq] at this
 exact this
theorem rest_of (c : Int) : (upC c = c ∨ ∃ p ∈ casL,p.f0 = c) ∧ (lowC c = c ∨ ∃ p ∈ casL,p.f1 = c) := by
 by_cases h : c < 0 ∨ 1300 ≤ c
 ·exact ⟨.inl (upC_far c h),.inl (lowC_far c h)⟩
 ·have := List.all_eq_true.1 rest_ok c.toNat (List.mem_range.2 (by omega))
  have e : ((c.toNat : Nat) : Int) = c := by omega
  rw [e] at this
  simp only [Bool.and_eq_true,Bool.or_eq_true,decide_eq_true_eq,List.any_eq_true] at this
  exact this
end Go.Proofs.YtkficbgnjpekaaaDoor.Pu
end
section
namespace Go.Proofs.YtkficbgnjpekaaaDoor.Pu
open Go Go.RowKit Go.Proofs.YtkficbgnjpekaaaDoor.Mu Go.Proofs.YtkficbgnjpekaaaDoor.U Go.Proofs.YtkficbgnjpekaaaDoorW.PrintWords Go.Proofs.YtkficbgnjpekaaaDoorW.PrintLast Go.Proofs.YtkficbgnjpekaaaDoorW.PrintMore
set_option linter.unusedVariables false
set_option linter.unusedSimpArgs false
/-- Does a cluster stand in a word? -/
def wC (s : ByteArray) (c : S61) : Bool := wAt s c.f0.toNat
def spR (s : ByteArray) : Option (Int × Int) → List S61 → List S32
 | none,[] => []
 | some (a,b),[] => [⟨a,b⟩]
 | none,c :: cs => if wC s c = true then spR s (some (c.f0,c.f1)) cs else spR s none cs
 | some (a,b),c :: cs => if wC s c = true then spR s (some (a,c.f1)) cs else ⟨a,b⟩ :: spR s none cs
theorem sp_fold (s : ByteArray) : ∀ (cs : List S61) (L : List S32),(cs.foldl (spStep s) (false,L)).2 = L ++ spR s none cs ∧ ∀ a b,(cs.foldl (spStep s) (true,L ++ [⟨a,b⟩])).2 = L ++ spR s (some (a,b)) cs
 | [],L => ⟨by simp [spR],fun a b => by simp [spR]⟩
 | c :: cs,L => by
  refine ⟨?_,fun a b => ?_⟩
  ·rw [List.foldl_cons,spR]
   cases hw : wC s c with
   | true => rw [spStep_new s L c hw,(sp_fold s cs L).2,if_pos rfl]
   | false => rw [spStep_off s false L c hw,(sp_fold s cs L).1,if_neg (by simp)]
  ·rw [List.foldl_cons,spR]
   cases hw : wC s c with
   | true => rw [spStep_on s L a b c hw,(sp_fold s cs L).2,if_pos rfl]
   | false => rw [spStep_off s true (L ++ [(⟨a,b⟩ : S32)]) c hw,(sp_fold s cs (L ++ [(⟨a,b⟩ : S32)])).1,if_neg (by simp),List.append_assoc];rfl
theorem spans_runs (s : ByteArray) : spansL s = spR s none (clusL s) := by
 have := (sp_fold s (clusL s) []).1
 rw [List.nil_append] at this
 exact this
section
variable (s : ByteArray) (hs : s.size ≤ 1099511627776)
end
theorem spans_ev (s : ByteArray) (hs : s.size ≤ 1099511627776) : word_Spans.f s = some (spansL s) := by unfold word_Spans.f;rw [if_pos hs]
theorem same_loop (L : List S32) (hL : L.length ≤ 1099511627776) : ∀ n i : Nat,i + n = L.length → Ev (fun k => bodkinlaw05_same.l0 k L L i) true := by
 intro n
 induction n with
 | zero => intro i hi;exact Ev.step (fun k => bodkinlaw05_same.l0.eq_2 ..) (ev_neg (by omega) (Ev.now _))
 | succ n ih =>
  intro i hi
  refine Ev.step (fun k => bodkinlaw05_same.l0.eq_2 ..) (ev_pos (by omega) (ev_pos (by omega) (ev_pos (by omega) (ev_neg (by simp) ?_))))
  rw [w64 (by omega) (by omega)]
  exact ih (i + 1) (by omega)
theorem same_ans (L : List S32) (hL : L.length ≤ 1099511627776) : Ev (fun k => bodkinlaw05_same.f k L L) true := ev_pos rfl (same_loop L hL L.length 0 (by omega))
end Go.Proofs.YtkficbgnjpekaaaDoor.Pu
end
section
namespace Go.Proofs.YtkficbgnjpekaaaDoor.Pu
open Go Go.RowKit Go.Proofs.YtkficbgnjpekaaaDoor.Mu Go.Proofs.YtkficbgnjpekaaaDoor.U Go.Proofs.YtkficbgnjpekaaaDoorW.PrintWords Go.Proofs.YtkficbgnjpekaaaDoorW.PrintLast Go.Proofs.YtkficbgnjpekaaaDoorW.PrintMore
set_option linter.unusedVariables false
set_option linter.unusedSimpArgs false
theorem wC_at (s : ByteArray) (x : Nat) : wC s (clAt s x) = wAt s x := by
 unfold wC;rw [show (clAt s x).f0 = (x : Int) from rfl,Int.toNat_natCast]
theorem clAt_f0 (s : ByteArray) (x : Nat) : (clAt s x).f0 = (x : Int) := rfl
theorem clAt_f1 (s : ByteArray) (x : Nat) : (clAt s x).f1 = (nxt s x : Int) := rfl
/-- Spans in order,from x on. -/
structure InOrd (s : ByteArray) (x : Int) (l : List S32) : Prop where
 one : ∀ p ∈ l,x ≤ p.f0 ∧ p.f0 < p.f1 ∧ CBI s p.f0 ∧ CBI s p.f1
 ord : l.Pairwise (fun p q => p.f1 < q.f0)
theorem InOrd.nil (s : ByteArray) (x : Int) : InOrd s x [] := ⟨(fun _ h => by cases h),List.Pairwise.nil⟩
theorem InOrd.mono {s : ByteArray} {x y : Int} {l : List S32} (h : InOrd s y l) (hxy : x ≤ y) : InOrd s x l := ⟨fun p hp => ⟨by have := (h.one p hp).1;omega,(h.one p hp).2⟩,h.ord⟩
theorem InOrd.cons {s : ByteArray} {a b x : Int} {l : List S32} (h : InOrd s x l) (hx : b < x) (hab : a < b) (ha : CBI s a) (hb : CBI s b) : InOrd s a (⟨a,b⟩ :: l) :=
 ⟨(fun p hp => by
  rcases List.mem_cons.1 hp with rfl | hp
  ·exact ⟨Int.le_refl _,hab,ha,hb⟩
  ·have := h.one p hp;exact ⟨by omega,this.2⟩),List.pairwise_cons.2 ⟨(fun q hq => by have := (h.one q hq).1;show b < q.f0;omega),h.ord⟩⟩
theorem sp_ord (s : ByteArray) : ∀ n x : Nat,s.size - x ≤ n → CB s x → InOrd s x (spR s none (ctl s x)) ∧ ∀ a : Int,CBI s a → a < x → InOrd s a (spR s (some (a,(x : Int))) (ctl s x)) := by
 intro n
 induction n with
 | zero =>
  intro x hn hc
  rw [ctl_end s x (by omega)]
  exact ⟨InOrd.nil _ _,fun a ha hx => (InOrd.nil s (x + 1)).cons (by omega) hx ha ((cbI_nat _ _).2 hc)⟩
 | succ n ih =>
  intro x hn hc
  by_cases hx : x < s.size
  ·have h1 := nxt_pos s x hx
   have hcn := nxt_cb s x hc.1 hx
   obtain ⟨i1,i2⟩ := ih (nxt s x) (by omega) hcn
   rw [ctl_go s x hx]
   have hcx : CBI s (x : Int) := (cbI_nat _ _).2 hc
   refine ⟨?_,fun a ha hax => ?_⟩
   ·rw [spR]
    by_cases hw : wC s (clAt s x) = true
    ·rw [if_pos hw,clAt_f0,clAt_f1];exact i2 x hcx (by omega)
    ·rw [if_neg hw];exact i1.mono (by omega)
   ·rw [spR]
    by_cases hw : wC s (clAt s x) = true
    ·rw [if_pos hw,clAt_f1];exact i2 a ha (by omega)
    ·rw [if_neg hw];exact i1.cons (by omega) hax ha hcx
  ·rw [ctl_end s x (by omega)]
   exact ⟨InOrd.nil _ _,fun a ha hx => (InOrd.nil s (x + 1)).cons (by omega) hx ha ((cbI_nat _ _).2 hc)⟩
theorem spans_ord (s : ByteArray) : InOrd s 0 (spansL s) := by
 rw [spans_runs,clusL_ctl]
 exact (sp_ord s s.size 0 (by omega) (cb_zero s)).1
end Go.Proofs.YtkficbgnjpekaaaDoor.Pu
end
section
namespace Go.Proofs.YtkficbgnjpekaaaDoor.Pu
open Go Go.RowKit Go.Proofs.YtkficbgnjpekaaaDoor.Mu Go.Proofs.YtkficbgnjpekaaaDoor.U Go.Proofs.YtkficbgnjpekaaaDoorW.PrintWords Go.Proofs.YtkficbgnjpekaaaDoorW.PrintLast Go.Proofs.YtkficbgnjpekaaaDoorW.PrintMore
set_option linter.unusedVariables false
set_option linter.unusedSimpArgs false
/-- A form: each character becomes one of the same length,class and kind. -/
structure GoodF (F : Int → Int → Int) : Prop where
 ok : ∀ a c,okC c → okC (F a c)
 len : ∀ a c,okC c → (encI (F a c)).length = (encI c).length
 cls : ∀ a c,okC c → cls (F a c) = cls c
 word : ∀ a c,okC c → wordB (F a c) = wordB c
 cr : ∀ a c,okC c → (F a c = 13 ↔ c = 13)
 nl : ∀ a c,okC c → (F a c = 10 ↔ c = 10)
/-- The changed text. -/
def chg (s : ByteArray) (F : Int → Int → Int) : ByteArray := strOfNums (eachT s F)
section
variable {s : ByteArray} {F : Int → Int → Int}
theorem good_unit (hF : GoodF F) (i : Nat) (h : ¬ uC s i < 0) : okC (uC s i) ∧ okC (F i (uC s i)) ∧ eachU s F i = encI (F i (uC s i)) ∧ (encI (F i (uC s i))).length = uN s i := by
 obtain ⟨h1,h2⟩ := enc_unit s i (by omega)
 have h3 := hF.ok i _ h1
 have h4 := hF.len i _ h1
 have h5 := congrArg List.length h2
 rw [bytsAt_len] at h5
 refine ⟨h1,h3,?_,by omega⟩
 unfold eachU
 rw [if_neg h]
 unfold encO
 rw [if_pos h3]
theorem eachU_length (hF : GoodF F) (i : Nat) (hi : i < s.size) : (eachU s F i).length = uN s i := by
 by_cases h : uC s i < 0
 ·unfold eachU
  rw [if_pos h,bytesOf_length,size_extract _ _ _ (uN_le s i hi)];omega
 ·obtain ⟨_,_,h3,h4⟩ := good_unit hF i h
  rw [h3,h4]
theorem eachL_length (hF : GoodF F) : ∀ k i,s.size ≤ i + k → i ≤ s.size → (eachL s F k i).length = s.size - i
 | 0,i,hk,hi => by rw [eachL];simp;omega
 | k + 1,i,hk,hi => by
  rw [eachL]
  have hp := uN_pos s i
  split
  ·rename_i h
   have hle := uN_le s i h
   rw [List.length_append,eachU_length hF i h,eachL_length hF k _ (by omega) hle];omega
  ·simp;omega
theorem chg_size (hF : GoodF F) : (chg s F).size = s.size := by
 unfold chg eachT
 rw [strOfNums_size,eachL_length hF _ _ (by omega) (Nat.zero_le _)];omega
theorem eachU_congr {G : Int → Int → Int} (i : Nat) (h : okC (uC s i) → F i (uC s i) = G i (uC s i)) : eachU s F i = eachU s G i := by
 unfold eachU
 by_cases hn : uC s i < 0
 ·rw [if_pos hn,if_pos hn]
 ·rw [if_neg hn,if_neg hn,h (enc_unit s i (by omega)).1]
theorem eachL_congr {G : Int → Int → Int} : ∀ k i : Nat,(∀ x,okC (uC s x) → F x (uC s x) = G x (uC s x)) → eachL s F k i = eachL s G k i
 | 0,_,_ => rfl
 | k + 1,i,h => by rw [eachL,eachL,eachU_congr i (h i),eachL_congr k _ h]
end
def goodsOk : Bool := casL.all fun p => decide (okC p.f0) && decide (okC p.f1) && decide ((encI p.f0).length = (encI p.f1).length) && decide (cls p.f0 = cls p.f1) && (wordB p.f0 == wordB p.f1) && decide (p.f0 ≠ 13 ∧ p.f0 ≠ 10 ∧ p.f1 ≠ 13 ∧ p.f1 ≠ 10) && decide (upC p.f1 = p.f1) && decide (lowC p.f0 = p.f0)
theorem goods_ok : goodsOk = true := by kernel_rfl
theorem goods_of (p : S55) (h : p ∈ casL) : okC p.f0 ∧ okC p.f1 ∧ (encI p.f0).length = (encI p.f1).length ∧ cls p.f0 = cls p.f1 ∧ wordB p.f0 = wordB p.f1 ∧ (p.f0 ≠ 13 ∧ p.f0 ≠ 10 ∧ p.f1 ≠ 13 ∧ p.f1 ≠ 10) ∧ upC p.f1 = p.f1 ∧ lowC p.f0 = p.f0 := by
 have := List.all_eq_true.1 goods_ok p h
 simp only [Bool.and_eq_true,decide_eq_true_eq,beq_iff_eq] at this
 obtain ⟨⟨⟨⟨⟨⟨⟨a,b⟩,c⟩,d⟩,e⟩,f⟩,g⟩,i⟩ := this
 exact ⟨a,b,c,d,e,f,g,i⟩
structure GoodTo (c d : Int) : Prop where
 ok : okC d
 len : (encI d).length = (encI c).length
 cls : cls d = cls c
 word : wordB d = wordB c
 cr : d = 13 ↔ c = 13
 nl : d = 10 ↔ c = 10
theorem GoodTo.same {c : Int} (h : okC c) : GoodTo c c := ⟨h,rfl,rfl,rfl,Iff.rfl,Iff.rfl⟩
theorem up_good (c : Int) (h : okC c) : GoodTo c (upC c) := by
 rcases (rest_of c).1 with h1 | ⟨p,hp,h1⟩
 ·rw [h1];exact GoodTo.same h
 ·obtain ⟨a,b,c',d,e,f,g,i⟩ := goods_of p hp
  rw [← h1,(up_of p hp).1]
  exact ⟨b,c'.symm,d.symm,e.symm,by omega,by omega⟩
theorem low_good (c : Int) (h : okC c) : GoodTo c (lowC c) := by
 rcases (rest_of c).2 with h1 | ⟨p,hp,h1⟩
 ·rw [h1];exact GoodTo.same h
 ·obtain ⟨a,b,c',d,e,f,g,i⟩ := goods_of p hp
  rw [← h1,(up_of p hp).2]
  exact ⟨a,c',d,e,by omega,by omega⟩
theorem GoodF.of {F : Int → Int → Int} (h : ∀ a c,okC c → GoodTo c (F a c)) : GoodF F :=
 ⟨fun a c hc => (h a c hc).ok,fun a c hc => (h a c hc).len,fun a c hc => (h a c hc).cls,fun a c hc => (h a c hc).word,fun a c hc => (h a c hc).cr,fun a c hc => (h a c hc).nl⟩
theorem good_up : GoodF upF := .of fun _ c h => up_good c h
theorem good_low : GoodF lowF := .of fun _ c h => low_good c h
theorem good_cap (s : ByteArray) : GoodF (capF s) := .of fun a c h => by
 unfold capF
 split
 ·exact up_good c h
 ·exact low_good c h
end Go.Proofs.YtkficbgnjpekaaaDoor.Pu
end
