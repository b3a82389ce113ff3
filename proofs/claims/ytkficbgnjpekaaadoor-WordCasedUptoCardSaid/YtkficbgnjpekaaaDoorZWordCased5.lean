/- What the law WordCased reaches of this seat's own texts, merged; what nothing uses is left out. -/
import Derived.Test.YtkficbgnjpekaaaDoorZWordCased0
import Derived.Test.YtkficbgnjpekaaaDoorZWordCased2
import Derived.Test.YtkficbgnjpekaaaDoorZWordCased4
section
namespace Go.Proofs.YtkficbgnjpekaaaDoor.U
open Go.RowKit Go.Proofs.YtkficbgnjpekaaaDoorW.PrintWords Go.Proofs.YtkficbgnjpekaaaDoorW.PrintLast Go.Proofs.YtkficbgnjpekaaaDoorW.PrintMore
attribute [local go_sem] max2_int min2_int max_two min_two max_three min_three max_four min_four   -- for this text's walks alone
set_option linter.unusedVariables false
set_option linter.unusedSimpArgs false
attribute [local go_sem high] eqA32
def word_Ahead.l0 : Nat → ByteArray → Int → List (S32) → Int → Int → Option (Int)
 | 0,_,_,_,_,_ => none
 | k + 1,x0,x1,x13,x14,x15 => if x15 < x14 then (if 0 ≤ x15 then (if x15 < (x13.length : Int) then (if ((rd_T32 x13 x15).f1) > x1 then (some ((rd_T32 x13 x15).f1)) else (word_Ahead.l0 k x0 x1 x13 x14 (wrap64 (x15 + 1)))) else (none)) else (none)) else (some (x0.size : Int))
def word_Ahead.f (k : Nat) (a0 : ByteArray) (a1 : Int) : Option (Int) := (word_Spans.f a0).bind fun t101 => (word_Ahead.l0 k a0 (mn (mx a1 0) (a0.size : Int)) t101 (t101.length : Int) 0)
theorem word_Ahead.mono_l : ∀ k,(∀ y0 y1 y2 y3 y4,LeO (word_Ahead.l0 k y0 y1 y2 y3 y4) (word_Ahead.l0 (k + 1) y0 y1 y2 y3 y4))
 | 0 => fun _ _ _ _ _ r h => by simp [word_Ahead.l0] at h
 | k + 1 => by
  have ih0 := word_Ahead.mono_l k
  ·intro y0 y1 y2 y3 y4
   unfold word_Ahead.l0
   repeat' first
   | (with_reducible exact ih0 _ _ _ _ _)
   | (with_reducible exact LeO.refl _)
   | (with_reducible exact LeO.none _)
   | (with_reducible refine LeO.ite ?_ ?_)
   | (with_reducible refine LeO.bind ?_ (fun _ => ?_))
   | exact ih0 _ _ _ _ _
   | exact LeO.none _
   | refine LeO.ite ?_ ?_
   | refine LeO.bind ?_ (fun _ => ?_)
theorem word_Ahead.mono : ∀ a0 a1 k,LeO (word_Ahead.f k a0 a1) (word_Ahead.f (k + 1) a0 a1) := by
 intro a0 a1 k
 have ih0 := word_Ahead.mono_l k
 unfold word_Ahead.f
 repeat' first
   | (with_reducible exact ih0 _ _ _ _ _)
   | (with_reducible exact LeO.refl _)
   | (with_reducible exact LeO.none _)
   | (with_reducible refine LeO.ite ?_ ?_)
   | (with_reducible refine LeO.bind ?_ (fun _ => ?_))
   | exact ih0 _ _ _ _ _
   | exact LeO.none _
   | refine LeO.ite ?_ ?_
   | refine LeO.bind ?_ (fun _ => ?_)
set_option maxHeartbeats 8000000 in
set_option maxRecDepth 100000 in
theorem word_Ahead.calls (k : Nat) (a0 : ByteArray) (a1 : Int) (r : Int) (w : World) (hT : Lib.Utf8Tabs 0 1 w) (h : word_Ahead.f k a0 a1 = some r) :
  Calls Tryd.prog 22 #[.string a0,.int .i64 a1] w fun e w' => e = .returned (.int .i64 r) ∧ Below w.heap.size w w' := by
 have hu32 := Tryd.underlying32
 have HT := Aside0.mk hT
 clear hT
 have HB := Aside0.mk (Below.refl w.heap.size w)
 have H : ((word_Spans.f a0).bind fun t101 => (word_Ahead.l0 k a0 (mn (mx a1 0) (a0.size : Int)) t101 (t101.length : Int) 0)) = some r := h
 clear h
 obtain ⟨ji3,hji3⟩ : ∃ j_ : Int,(mx a1 0) = j_ := ⟨_,rfl⟩
 replace H : ((word_Spans.f a0).bind fun t101 => (word_Ahead.l0 k a0 (mn (ji3) (a0.size : Int)) t101 (t101.length : Int) 0)) = some r := by first | (rw [hji3] at H;exact H) | (simp only [hji3] at H ⊢;exact H)
 (try (have hji3l : 0 ≤ ji3 := by (rw [← hji3];unfold mx;(repeat' split) <;> omega)))
 (try (have hji3m : 0 ≤ ji3 := by omega))
 have hji3_ : (if a1 < 0 then 0 else a1) = ji3 := hji3
 obtain ⟨ji4,hji4⟩ : ∃ j_ : Int,(mn (ji3) (a0.size : Int)) = j_ := ⟨_,rfl⟩
 replace H : ((word_Spans.f a0).bind fun t101 => (word_Ahead.l0 k a0 ji4 t101 (t101.length : Int) 0)) = some r := by first | (rw [hji4] at H;exact H) | (simp only [hji4] at H ⊢;exact H)
 have hji4_ : (if (a0.size : Int) < (ji3) then (a0.size : Int) else (ji3)) = ji4 := hji4
 replace H := Option.bind_eq_some_iff.mp H
 obtain ⟨t101,A50,H⟩ := H
 replace H : (word_Ahead.l0 k a0 ji4 t101 (t101.length : Int) 0) = some r := H
 have A5 := Aside0.mk A50
 clear A50
 have H' := Aside0.mk H
 clear H
 go_enter Tryd.func22,Tryd.ntmps22
 go_wp2_with (first | ((with_reducible refine gate_callee (f := 20) rfl ?_);refine goesL_ (some 13) rfl rfl Tryd.func20 (by kernel_rfl) rfl #[.string a0] rfl au1 ?_;(with_reducible refine (word_Spans.calls a0 t101 _ ?side1 A5.out).mono ?_);(case side1 => exact tabs_below HT.out au0);rintro e w6 ⟨v102,rfl,ho0,hb⟩;refine ⟨_,rfl,?_⟩;have n0_ := Aside0.mk (Kd.R_lower ho0 (below_size au0));have n1_ := Aside0.mk (below_step au0 hb);clear HB;have HO103 := n0_;have HB := n1_;clear n0_ n1_;(try clear hb);(try clear hb2);(try clear hk);(try clear hi);(try clear ho0);obtain ⟨Ao7,co7,eo7⟩ := Kd.R_slice HO103.out;subst eo7))
 go_loopg [15] k (fun kq v15 w' => ∃ (x15_1 : Int),v15 = .int .i64 x15_1 ∧ Aside0 (word_Ahead.l0 kq a0 ji4 t101 (t101.length : Int) x15_1 = some r) ∧ Aside0 (kq ≤ k) ∧ Aside0 (Kd.R k32 32 w' w.heap.size (fun _ => True) (.slice Ao7 t101.length co7) t101) ∧ Aside0 (Below w.heap.size w w'))
 case atStart => exact ⟨(0),au3,H',⟨Nat.le_refl _⟩,⟨by (with_reducible repeat (first | apply Kd.R_alloc | apply Kd.R_drewN | apply Kd.R_drew));exact HO103.out⟩,⟨au0⟩⟩
 case round =>
  clear H'
  try clear c2
  try clear p2
  obtain ⟨x15_1,rfl,HA,HK1,HO_13,HB⟩ := hrel
  cases gk with
  | zero => exact absurd HA.out (by simp [word_Ahead.l0])
  | succ k1 =>
   have H := HA.out
   clear HA
   simp only [word_Ahead.l0] at H
   by_cases c8 : x15_1 < (t101.length : Int)
   ·rw [if_pos c8] at H
    have c8b0 : decide (x15_1 < (t101.length : Int)) = true := decide_eq_true c8
    clear c8
    by_cases c9 : 0 ≤ x15_1
    ·rw [if_pos c9] at H
     have c9b0 : decide (0 ≤ x15_1) = true := decide_eq_true c9
     clear c9
     by_cases c10 : x15_1 < (t101.length : Int)
     ·rw [if_pos c10] at H
      have c10b0 : decide (x15_1 < (t101.length : Int)) = true := decide_eq_true c10
      clear c10
      by_cases c11 : ((rd_T32 t101 x15_1).f1) > ji4
      ·rw [if_pos c11] at H
       have c11b0 : decide (ji4 < ((rd_T32 t101 x15_1).f1)) = true := decide_eq_true c11
       clear c11
       obtain rfl := Option.some.inj H
       have p104 : 0 ≤ (x15_1 : Int) := of_decide_eq_true au9
       have q104 : x15_1 < (t101.length : Int) := of_decide_eq_true au9
       obtain ⟨ad104,e104,hx104_0,hx104_1⟩ := at_T32 (Kd.R_reads' HO_13.out).2.2 x15_1 p104 q104
       cases e104
       replace p104 := eq_true p104
       replace q104 := eq_true q104
       go_wp2_with (first | ((with_reducible refine gate_dst (N := 6) rfl ?_);refine box_event ?hg (N := 6) ?hd (cs := #[.int .i64 0,.int .i64 0]) (t := 32) ?hr ?_;(case hd => rfl);(case hg => rfl);(case hr => first | (go_simp;done) | (go_simp;rfl));intro gb105 hg w12 hbox hb;have n0_ := Aside0.mk (Kd.R_below (Kd.R_elderB (by (with_reducible repeat (first | apply Kd.R_alloc | apply Kd.R_drewN | apply Kd.R_drew));exact HO_13.out) gb105 (Nat.le_of_eq hg.symm)) hb);have n1_ := Aside0.mk (below_step au0 hb);have n2_ := Aside0.mk (hbox);have n3_ := Aside0.mk ((by rw [hg];exact (below_size au0) : w.heap.size ≤ gb105));have n4_ := Aside0.mk ((by rw [hg];exact (below_size au0) : w.heap.size ≤ gb105));clear HO_13;clear HB;have HO_13 := n0_;have HB := n1_;have BK105 := n2_;have GW105 := n3_;have GE105 := n4_;clear n0_ n1_ n2_ n3_ n4_;clear hb hbox hg;have hcz13_0 : w12.cell? ⟨gb105,0,none⟩ = some (.int .i64 0) := (blk_cell BK105.out 0).trans rfl;have hcz13_1 : w12.cell? ⟨gb105,1,none⟩ = some (.int .i64 0) := (blk_cell BK105.out 1).trans rfl;have hfz13_0 := blk_frozen BK105.out 0;have hfz13_1 := blk_frozen BK105.out 1))
       go_ret
       exact ⟨by first | rfl | (simp [errW_none,errW_some] <;> rfl) | (simp only [← hji3,← hji4];first | rfl | (simp [errW_none,errW_some] <;> rfl)) | (simp [*,errW_none,errW_some] <;> rfl),by repeat (first | (with_reducible first | exact HB.out | apply below_alloc | apply pw_below_drewN | apply below_drew1 | refine below_set ?_ GE105.out) | exact HB.out)⟩
      ·rw [if_neg c11] at H
       have c11b0 : decide (ji4 < ((rd_T32 t101 x15_1).f1)) = false := decide_eq_false c11
       clear c11
       have H' := Aside0.mk H
       clear H
       have p104 : 0 ≤ (x15_1 : Int) := of_decide_eq_true au9
       have q104 : x15_1 < (t101.length : Int) := of_decide_eq_true au9
       obtain ⟨ad104,e104,hx104_0,hx104_1⟩ := at_T32 (Kd.R_reads' HO_13.out).2.2 x15_1 p104 q104
       cases e104
       replace p104 := eq_true p104
       replace q104 := eq_true q104
       go_wp2_with (first | ((with_reducible refine gate_dst (N := 6) rfl ?_);refine box_event ?hg (N := 6) ?hd (cs := #[.int .i64 0,.int .i64 0]) (t := 32) ?hr ?_;(case hd => rfl);(case hg => rfl);(case hr => first | (go_simp;done) | (go_simp;rfl));intro gb105 hg w14 hbox hb;have n0_ := Aside0.mk (Kd.R_below (Kd.R_elderB (by (with_reducible repeat (first | apply Kd.R_alloc | apply Kd.R_drewN | apply Kd.R_drew));exact HO_13.out) gb105 (Nat.le_of_eq hg.symm)) hb);have n1_ := Aside0.mk (below_step au0 hb);have n2_ := Aside0.mk (hbox);have n3_ := Aside0.mk ((by rw [hg];exact (below_size au0) : w.heap.size ≤ gb105));have n4_ := Aside0.mk ((by rw [hg];exact (below_size au0) : w.heap.size ≤ gb105));clear HO_13;clear HB;have HO_13 := n0_;have HB := n1_;have BK105 := n2_;have GW105 := n3_;have GE105 := n4_;clear n0_ n1_ n2_ n3_ n4_;clear hb hbox hg;have hcz15_0 : w14.cell? ⟨gb105,0,none⟩ = some (.int .i64 0) := (blk_cell BK105.out 0).trans rfl;have hcz15_1 : w14.cell? ⟨gb105,1,none⟩ = some (.int .i64 0) := (blk_cell BK105.out 1).trans rfl;have hfz15_0 := blk_frozen BK105.out 0;have hfz15_1 := blk_frozen BK105.out 1))
       go_roundg k1
       case measure => have := HK1.out;omega
       case rel => exact ⟨(wrap64 (x15_1 + 1)),au3,H',⟨by have := HK1.out;omega⟩,⟨by (with_reducible repeat (first | apply Kd.R_alloc | apply Kd.R_drewN | apply Kd.R_drew));exact Kd.R_mono (Kd.R_far (p := ⟨gb105,1,none⟩) (Kd.R_far (p := ⟨gb105,0,none⟩) (Kd.R_mono HO_13.out (fun k_ hk => (⟨hk,hk.2⟩ : _ ∧ k_ ≠ gb105))) (fun _ hk => hk.2) (.int .i64 ((rd_T32 t101 x15_1).f0))) (fun _ hk => hk.2) (.int .i64 ((rd_T32 t101 x15_1).f1))) (fun _ hk => trivial)⟩,⟨by repeat (first | (with_reducible first | exact HB.out | apply below_alloc | apply pw_below_drewN | apply below_drew1 | refine below_set ?_ GE105.out) | exact HB.out)⟩⟩
     ·rw [if_neg c10] at H
      exact absurd H (by simp)
    ·rw [if_neg c9] at H
     exact absurd H (by simp)
   ·rw [if_neg c8] at H
    have c8b0 : decide (x15_1 < (t101.length : Int)) = false := decide_eq_false c8
    clear c8
    obtain rfl := Option.some.inj H
    go_wp2
    go_ret
    exact ⟨by first | rfl | (simp [errW_none,errW_some] <;> rfl) | (simp only [← hji3,← hji4];first | rfl | (simp [errW_none,errW_some] <;> rfl)) | (simp [*,errW_none,errW_some] <;> rfl),au0⟩
def word_Behind.l0 : Nat → Int → Int → List (S32) → Int → Int → Option (Int)
 | 0,_,_,_,_,_ => none
 | k + 1,x1,x5,x14,x15,x16 => if x16 < x15 then (if 0 ≤ x16 then (if x16 < (x14.length : Int) then (if ((rd_T32 x14 x16).f0) < x1 then (word_Behind.l0 k x1 ((rd_T32 x14 x16).f0) x14 x15 (wrap64 (x16 + 1))) else (word_Behind.l0 k x1 x5 x14 x15 (wrap64 (x16 + 1)))) else (none)) else (none)) else (some x5)
def word_Behind.f (k : Nat) (a0 : ByteArray) (a1 : Int) : Option (Int) := (word_Spans.f a0).bind fun t106 => (word_Behind.l0 k (mn (mx a1 0) (a0.size : Int)) 0 t106 (t106.length : Int) 0)
theorem word_Behind.mono_l : ∀ k,(∀ y0 y1 y2 y3 y4,LeO (word_Behind.l0 k y0 y1 y2 y3 y4) (word_Behind.l0 (k + 1) y0 y1 y2 y3 y4))
 | 0 => fun _ _ _ _ _ r h => by simp [word_Behind.l0] at h
 | k + 1 => by
  have ih0 := word_Behind.mono_l k
  ·intro y0 y1 y2 y3 y4
   unfold word_Behind.l0
   repeat' first
   | (with_reducible exact ih0 _ _ _ _ _)
   | (with_reducible exact LeO.refl _)
   | (with_reducible exact LeO.none _)
   | (with_reducible refine LeO.ite ?_ ?_)
   | (with_reducible refine LeO.bind ?_ (fun _ => ?_))
   | exact ih0 _ _ _ _ _
   | exact LeO.none _
   | refine LeO.ite ?_ ?_
   | refine LeO.bind ?_ (fun _ => ?_)
theorem word_Behind.mono : ∀ a0 a1 k,LeO (word_Behind.f k a0 a1) (word_Behind.f (k + 1) a0 a1) := by
 intro a0 a1 k
 have ih0 := word_Behind.mono_l k
 unfold word_Behind.f
 repeat' first
   | (with_reducible exact ih0 _ _ _ _ _)
   | (with_reducible exact LeO.refl _)
   | (with_reducible exact LeO.none _)
   | (with_reducible refine LeO.ite ?_ ?_)
   | (with_reducible refine LeO.bind ?_ (fun _ => ?_))
   | exact ih0 _ _ _ _ _
   | exact LeO.none _
   | refine LeO.ite ?_ ?_
   | refine LeO.bind ?_ (fun _ => ?_)
set_option maxHeartbeats 8000000 in
set_option maxRecDepth 100000 in
theorem word_Behind.calls (k : Nat) (a0 : ByteArray) (a1 : Int) (r : Int) (w : World) (hT : Lib.Utf8Tabs 0 1 w) (h : word_Behind.f k a0 a1 = some r) :
  Calls Tryd.prog 24 #[.string a0,.int .i64 a1] w fun e w' => e = .returned (.int .i64 r) ∧ Below w.heap.size w w' := by
 have hu32 := Tryd.underlying32
 have HT := Aside0.mk hT
 clear hT
 have HB := Aside0.mk (Below.refl w.heap.size w)
 have H : ((word_Spans.f a0).bind fun t106 => (word_Behind.l0 k (mn (mx a1 0) (a0.size : Int)) 0 t106 (t106.length : Int) 0)) = some r := h
 clear h
 obtain ⟨ji3,hji3⟩ : ∃ j_ : Int,(mx a1 0) = j_ := ⟨_,rfl⟩
 replace H : ((word_Spans.f a0).bind fun t106 => (word_Behind.l0 k (mn (ji3) (a0.size : Int)) 0 t106 (t106.length : Int) 0)) = some r := by first | (rw [hji3] at H;exact H) | (simp only [hji3] at H ⊢;exact H)
 (try (have hji3l : 0 ≤ ji3 := by (rw [← hji3];unfold mx;(repeat' split) <;> omega)))
 (try (have hji3m : 0 ≤ ji3 := by omega))
 have hji3_ : (if a1 < 0 then 0 else a1) = ji3 := hji3
 obtain ⟨ji4,hji4⟩ : ∃ j_ : Int,(mn (ji3) (a0.size : Int)) = j_ := ⟨_,rfl⟩
 replace H : ((word_Spans.f a0).bind fun t106 => (word_Behind.l0 k ji4 0 t106 (t106.length : Int) 0)) = some r := by first | (rw [hji4] at H;exact H) | (simp only [hji4] at H ⊢;exact H)
 have hji4_ : (if (a0.size : Int) < (ji3) then (a0.size : Int) else (ji3)) = ji4 := hji4
 replace H := Option.bind_eq_some_iff.mp H
 obtain ⟨t106,A50,H⟩ := H
 replace H : (word_Behind.l0 k ji4 0 t106 (t106.length : Int) 0) = some r := H
 have A5 := Aside0.mk A50
 clear A50
 have H' := Aside0.mk H
 clear H
 go_enter Tryd.func24,Tryd.ntmps24
 go_wp2_with (first | ((with_reducible refine gate_callee (f := 20) rfl ?_);refine goesL_ (some 14) rfl rfl Tryd.func20 (by kernel_rfl) rfl #[.string a0] rfl au1 ?_;(with_reducible refine (word_Spans.calls a0 t106 _ ?side1 A5.out).mono ?_);(case side1 => exact tabs_below HT.out au0);rintro e w6 ⟨v107,rfl,ho0,hb⟩;refine ⟨_,rfl,?_⟩;have n0_ := Aside0.mk (Kd.R_lower ho0 (below_size au0));have n1_ := Aside0.mk (below_step au0 hb);clear HB;have HO108 := n0_;have HB := n1_;clear n0_ n1_;(try clear hb);(try clear hb2);(try clear hk);(try clear hi);(try clear ho0);obtain ⟨Ao7,co7,eo7⟩ := Kd.R_slice HO108.out;subst eo7))
 go_loopg [5,16] k (fun kq v5 v16 w' => ∃ (x5_1 : Int) (x16_1 : Int),v5 = .int .i64 x5_1 ∧ v16 = .int .i64 x16_1 ∧ Aside0 (word_Behind.l0 kq ji4 x5_1 t106 (t106.length : Int) x16_1 = some r) ∧ Aside0 (kq ≤ k) ∧ Aside0 (Kd.R k32 32 w' w.heap.size (fun _ => True) (.slice Ao7 t106.length co7) t106) ∧ Aside0 (Below w.heap.size w w'))
 case atStart => exact ⟨(0),(0),au3,au3,H',⟨Nat.le_refl _⟩,⟨by (with_reducible repeat (first | apply Kd.R_alloc | apply Kd.R_drewN | apply Kd.R_drew));exact HO108.out⟩,⟨au0⟩⟩
 case round =>
  clear H'
  try clear c2
  try clear p2
  obtain ⟨x5_1,x16_1,rfl,rfl,HA,HK1,HO_14,HB⟩ := hrel
  cases gk with
  | zero => exact absurd HA.out (by simp [word_Behind.l0])
  | succ k1 =>
   have H := HA.out
   clear HA
   simp only [word_Behind.l0] at H
   by_cases c8 : x16_1 < (t106.length : Int)
   ·rw [if_pos c8] at H
    have c8b0 : decide (x16_1 < (t106.length : Int)) = true := decide_eq_true c8
    clear c8
    by_cases c9 : 0 ≤ x16_1
    ·rw [if_pos c9] at H
     have c9b0 : decide (0 ≤ x16_1) = true := decide_eq_true c9
     clear c9
     by_cases c10 : x16_1 < (t106.length : Int)
     ·rw [if_pos c10] at H
      have c10b0 : decide (x16_1 < (t106.length : Int)) = true := decide_eq_true c10
      clear c10
      by_cases c11 : ((rd_T32 t106 x16_1).f0) < ji4
      ·rw [if_pos c11] at H
       have c11b0 : decide (((rd_T32 t106 x16_1).f0) < ji4) = true := decide_eq_true c11
       clear c11
       have H' := Aside0.mk H
       clear H
       have p109 : 0 ≤ (x16_1 : Int) := of_decide_eq_true au9
       have q109 : x16_1 < (t106.length : Int) := of_decide_eq_true au9
       obtain ⟨ad109,e109,hx109_0,hx109_1⟩ := at_T32 (Kd.R_reads' HO_14.out).2.2 x16_1 p109 q109
       cases e109
       replace p109 := eq_true p109
       replace q109 := eq_true q109
       go_wp2_with (first | ((with_reducible refine gate_dst (N := 7) rfl ?_);refine box_event ?hg (N := 7) ?hd (cs := #[.int .i64 0,.int .i64 0]) (t := 32) ?hr ?_;(case hd => rfl);(case hg => rfl);(case hr => first | (go_simp;done) | (go_simp;rfl));intro gb110 hg w12 hbox hb;have n0_ := Aside0.mk (Kd.R_below (Kd.R_elderB (by (with_reducible repeat (first | apply Kd.R_alloc | apply Kd.R_drewN | apply Kd.R_drew));exact HO_14.out) gb110 (Nat.le_of_eq hg.symm)) hb);have n1_ := Aside0.mk (below_step au0 hb);have n2_ := Aside0.mk (hbox);have n3_ := Aside0.mk ((by rw [hg];exact (below_size au0) : w.heap.size ≤ gb110));have n4_ := Aside0.mk ((by rw [hg];exact (below_size au0) : w.heap.size ≤ gb110));clear HO_14;clear HB;have HO_14 := n0_;have HB := n1_;have BK110 := n2_;have GW110 := n3_;have GE110 := n4_;clear n0_ n1_ n2_ n3_ n4_;clear hb hbox hg;have hcz13_0 : w12.cell? ⟨gb110,0,none⟩ = some (.int .i64 0) := (blk_cell BK110.out 0).trans rfl;have hcz13_1 : w12.cell? ⟨gb110,1,none⟩ = some (.int .i64 0) := (blk_cell BK110.out 1).trans rfl;have hfz13_0 := blk_frozen BK110.out 0;have hfz13_1 := blk_frozen BK110.out 1))
       go_roundg k1
       case measure => have := HK1.out;omega
       case rel => exact ⟨((rd_T32 t106 x16_1).f0),(wrap64 (x16_1 + 1)),au3,au3,H',⟨by have := HK1.out;omega⟩,⟨by (with_reducible repeat (first | apply Kd.R_alloc | apply Kd.R_drewN | apply Kd.R_drew));exact Kd.R_mono (Kd.R_far (p := ⟨gb110,1,none⟩) (Kd.R_far (p := ⟨gb110,0,none⟩) (Kd.R_mono HO_14.out (fun k_ hk => (⟨hk,hk.2⟩ : _ ∧ k_ ≠ gb110))) (fun _ hk => hk.2) (.int .i64 ((rd_T32 t106 x16_1).f0))) (fun _ hk => hk.2) (.int .i64 ((rd_T32 t106 x16_1).f1))) (fun _ hk => trivial)⟩,⟨by repeat (first | (with_reducible first | exact HB.out | apply below_alloc | apply pw_below_drewN | apply below_drew1 | refine below_set ?_ GE110.out) | exact HB.out)⟩⟩
      ·rw [if_neg c11] at H
       have c11b0 : decide (((rd_T32 t106 x16_1).f0) < ji4) = false := decide_eq_false c11
       clear c11
       have H' := Aside0.mk H
       clear H
       have p109 : 0 ≤ (x16_1 : Int) := of_decide_eq_true au9
       have q109 : x16_1 < (t106.length : Int) := of_decide_eq_true au9
       obtain ⟨ad109,e109,hx109_0,hx109_1⟩ := at_T32 (Kd.R_reads' HO_14.out).2.2 x16_1 p109 q109
       cases e109
       replace p109 := eq_true p109
       replace q109 := eq_true q109
       go_wp2_with (first | ((with_reducible refine gate_dst (N := 7) rfl ?_);refine box_event ?hg (N := 7) ?hd (cs := #[.int .i64 0,.int .i64 0]) (t := 32) ?hr ?_;(case hd => rfl);(case hg => rfl);(case hr => first | (go_simp;done) | (go_simp;rfl));intro gb110 hg w14 hbox hb;have n0_ := Aside0.mk (Kd.R_below (Kd.R_elderB (by (with_reducible repeat (first | apply Kd.R_alloc | apply Kd.R_drewN | apply Kd.R_drew));exact HO_14.out) gb110 (Nat.le_of_eq hg.symm)) hb);have n1_ := Aside0.mk (below_step au0 hb);have n2_ := Aside0.mk (hbox);have n3_ := Aside0.mk ((by rw [hg];exact (below_size au0) : w.heap.size ≤ gb110));have n4_ := Aside0.mk ((by rw [hg];exact (below_size au0) : w.heap.size ≤ gb110));clear HO_14;clear HB;have HO_14 := n0_;have HB := n1_;have BK110 := n2_;have GW110 := n3_;have GE110 := n4_;clear n0_ n1_ n2_ n3_ n4_;clear hb hbox hg;have hcz15_0 : w14.cell? ⟨gb110,0,none⟩ = some (.int .i64 0) := (blk_cell BK110.out 0).trans rfl;have hcz15_1 : w14.cell? ⟨gb110,1,none⟩ = some (.int .i64 0) := (blk_cell BK110.out 1).trans rfl;have hfz15_0 := blk_frozen BK110.out 0;have hfz15_1 := blk_frozen BK110.out 1))
       go_roundg k1
       case measure => have := HK1.out;omega
       case rel => exact ⟨(x5_1),(wrap64 (x16_1 + 1)),au3,au3,H',⟨by have := HK1.out;omega⟩,⟨by (with_reducible repeat (first | apply Kd.R_alloc | apply Kd.R_drewN | apply Kd.R_drew));exact Kd.R_mono (Kd.R_far (p := ⟨gb110,1,none⟩) (Kd.R_far (p := ⟨gb110,0,none⟩) (Kd.R_mono HO_14.out (fun k_ hk => (⟨hk,hk.2⟩ : _ ∧ k_ ≠ gb110))) (fun _ hk => hk.2) (.int .i64 ((rd_T32 t106 x16_1).f0))) (fun _ hk => hk.2) (.int .i64 ((rd_T32 t106 x16_1).f1))) (fun _ hk => trivial)⟩,⟨by repeat (first | (with_reducible first | exact HB.out | apply below_alloc | apply pw_below_drewN | apply below_drew1 | refine below_set ?_ GE110.out) | exact HB.out)⟩⟩
     ·rw [if_neg c10] at H
      exact absurd H (by simp)
    ·rw [if_neg c9] at H
     exact absurd H (by simp)
   ·rw [if_neg c8] at H
    have c8b0 : decide (x16_1 < (t106.length : Int)) = false := decide_eq_false c8
    clear c8
    obtain rfl := Option.some.inj H
    go_wp2
    go_ret
    exact ⟨by first | rfl | (simp [errW_none,errW_some] <;> rfl) | (simp only [← hji3,← hji4];first | rfl | (simp [errW_none,errW_some] <;> rfl)) | (simp [*,errW_none,errW_some] <;> rfl),au0⟩
def bodkinlaw05_awake.f (k : Nat)  : Option (Bool) := (cluster_Next.f k (⟨#[97]⟩ : ByteArray) 0).bind fun t159 => (if t159 = 1 then ((word_Spans.f (⟨#[97,98,44,32,99,95,49,32,32]⟩ : ByteArray)).bind fun t160 => (if (t160.length : Int) = 2 then (if 1 < (t160.length : Int) then (if (((rd_T32 t160 1).f0) == 4 && (((rd_T32 t160 1).f1) == 7)) = true then ((word_Ahead.f k (⟨#[97,98,32,99,100]⟩ : ByteArray) 2).bind fun t164 => (if t164 = 5 then ((word_Behind.f k (⟨#[97,98,32,99,100]⟩ : ByteArray) 4).bind fun t165 => (if t165 = 3 then ((word_Capital.f (⟨#[104,101,76,76,79,32,49,119,79,82,76,68,32,97,95,98]⟩ : ByteArray)).bind fun t166 => (some (t166.toList == ([72,101,108,108,111,32,49,119,111,114,108,100,32,65,95,98] : List UInt8)))) else (some false))) else (some false))) else (some false)) else (none)) else (some false))) else (some false))
theorem bodkinlaw05_awake.mono : ∀ k,LeO (bodkinlaw05_awake.f k ) (bodkinlaw05_awake.f (k + 1) ) := by
 intro  k
 unfold bodkinlaw05_awake.f
 repeat' first
   | (with_reducible exact cluster_Next.mono _ _ _)
   | (with_reducible exact word_Ahead.mono _ _ _)
   | (with_reducible exact word_Behind.mono _ _ _)
   | (with_reducible exact LeO.refl _)
   | (with_reducible exact LeO.none _)
   | (with_reducible refine LeO.ite ?_ ?_)
   | (with_reducible refine LeO.bind ?_ (fun _ => ?_))
   | exact cluster_Next.mono _ _ _
   | exact word_Ahead.mono _ _ _
   | exact word_Behind.mono _ _ _
   | exact LeO.none _
   | refine LeO.ite ?_ ?_
   | refine LeO.bind ?_ (fun _ => ?_)
set_option maxHeartbeats 8000000 in
set_option maxRecDepth 100000 in
theorem bodkinlaw05_awake.calls (k : Nat)  (r : Bool) (hr_ : r = true) (w : World) (hT : Lib.Utf8Tabs 0 1 w) (h : bodkinlaw05_awake.f k  = some r) :
  Calls Tryd.prog 12 #[] w fun e w' => e = .returned (.bool r) ∧ Below w.heap.size w w' := by
 have hu32 := Tryd.underlying32
 have HT := Aside0.mk hT
 clear hT
 have HB := Aside0.mk (Below.refl w.heap.size w)
 have H : ((cluster_Next.f k (⟨#[97]⟩ : ByteArray) 0).bind fun t159 => (if t159 = 1 then ((word_Spans.f (⟨#[97,98,44,32,99,95,49,32,32]⟩ : ByteArray)).bind fun t160 => (if (t160.length : Int) = 2 then (if 1 < (t160.length : Int) then (if (((rd_T32 t160 1).f0) == 4 && (((rd_T32 t160 1).f1) == 7)) = true then ((word_Ahead.f k (⟨#[97,98,32,99,100]⟩ : ByteArray) 2).bind fun t164 => (if t164 = 5 then ((word_Behind.f k (⟨#[97,98,32,99,100]⟩ : ByteArray) 4).bind fun t165 => (if t165 = 3 then ((word_Capital.f (⟨#[104,101,76,76,79,32,49,119,79,82,76,68,32,97,95,98]⟩ : ByteArray)).bind fun t166 => (some (t166.toList == ([72,101,108,108,111,32,49,119,111,114,108,100,32,65,95,98] : List UInt8)))) else (some false))) else (some false))) else (some false)) else (none)) else (some false))) else (some false))) = some r := h
 clear h
 replace H := Option.bind_eq_some_iff.mp H
 obtain ⟨t159,A10,H⟩ := H
 replace H : (if t159 = 1 then ((word_Spans.f (⟨#[97,98,44,32,99,95,49,32,32]⟩ : ByteArray)).bind fun t160 => (if (t160.length : Int) = 2 then (if 1 < (t160.length : Int) then (if (((rd_T32 t160 1).f0) == 4 && (((rd_T32 t160 1).f1) == 7)) = true then ((word_Ahead.f k (⟨#[97,98,32,99,100]⟩ : ByteArray) 2).bind fun t164 => (if t164 = 5 then ((word_Behind.f k (⟨#[97,98,32,99,100]⟩ : ByteArray) 4).bind fun t165 => (if t165 = 3 then ((word_Capital.f (⟨#[104,101,76,76,79,32,49,119,79,82,76,68,32,97,95,98]⟩ : ByteArray)).bind fun t166 => (some (t166.toList == ([72,101,108,108,111,32,49,119,111,114,108,100,32,65,95,98] : List UInt8)))) else (some false))) else (some false))) else (some false)) else (none)) else (some false))) else (some false)) = some r := H
 have A1 := Aside0.mk A10
 clear A10
 by_cases c2 : t159 = 1
 ·rw [if_pos c2] at H
  have c2b0 : (t159 == 1) = true := beq_iff_eq.mpr c2
  have c2b1 : (t159 != 1) = false := bne_eq_false_iff_eq.mpr c2
  clear c2
  replace H := Option.bind_eq_some_iff.mp H
  obtain ⟨t160,A30,H⟩ := H
  replace H : (if (t160.length : Int) = 2 then (if 1 < (t160.length : Int) then (if (((rd_T32 t160 1).f0) == 4 && (((rd_T32 t160 1).f1) == 7)) = true then ((word_Ahead.f k (⟨#[97,98,32,99,100]⟩ : ByteArray) 2).bind fun t164 => (if t164 = 5 then ((word_Behind.f k (⟨#[97,98,32,99,100]⟩ : ByteArray) 4).bind fun t165 => (if t165 = 3 then ((word_Capital.f (⟨#[104,101,76,76,79,32,49,119,79,82,76,68,32,97,95,98]⟩ : ByteArray)).bind fun t166 => (some (t166.toList == ([72,101,108,108,111,32,49,119,111,114,108,100,32,65,95,98] : List UInt8)))) else (some false))) else (some false))) else (some false)) else (none)) else (some false)) = some r := H
  have A3 := Aside0.mk A30
  clear A30
  by_cases c4 : (t160.length : Int) = 2
  ·rw [if_pos c4] at H
   have c4b0 : ((t160.length : Int) == 2) = true := beq_iff_eq.mpr c4
   have c4b1 : ((t160.length : Int) != 2) = false := bne_eq_false_iff_eq.mpr c4
   clear c4
   by_cases c5 : 1 < (t160.length : Int)
   ·rw [if_pos c5] at H
    have c5b0 : decide (1 < (t160.length : Int)) = true := decide_eq_true c5
    have c5b1 : decide (1 < t160.length) = true := decide_eq_true (by omega)
    clear c5
    by_cases c6 : (((rd_T32 t160 1).f0) == 4 && (((rd_T32 t160 1).f1) == 7)) = true
    ·rw [if_pos c6] at H
     have c6b0 : (((rd_T32 t160 1).f0) == 4 && (((rd_T32 t160 1).f1) == 7)) = true := c6
     (try (have c6b1 : decide (((rd_T32 t160 1).f0) = 4 && (((rd_T32 t160 1).f1) == 7)) = true := by simpa using c6))
     (try (have c6b2 : (((rd_T32 t160 1).f0) == 4 && (((rd_T32 t160 1).f1) == 7)) = true := by simpa using c6))
     clear c6
     replace H := Option.bind_eq_some_iff.mp H
     obtain ⟨t164,A70,H⟩ := H
     replace H : (if t164 = 5 then ((word_Behind.f k (⟨#[97,98,32,99,100]⟩ : ByteArray) 4).bind fun t165 => (if t165 = 3 then ((word_Capital.f (⟨#[104,101,76,76,79,32,49,119,79,82,76,68,32,97,95,98]⟩ : ByteArray)).bind fun t166 => (some (t166.toList == ([72,101,108,108,111,32,49,119,111,114,108,100,32,65,95,98] : List UInt8)))) else (some false))) else (some false)) = some r := H
     have A7 := Aside0.mk A70
     clear A70
     by_cases c8 : t164 = 5
     ·rw [if_pos c8] at H
      have c8b0 : (t164 == 5) = true := beq_iff_eq.mpr c8
      have c8b1 : (t164 != 5) = false := bne_eq_false_iff_eq.mpr c8
      clear c8
      replace H := Option.bind_eq_some_iff.mp H
      obtain ⟨t165,A90,H⟩ := H
      replace H : (if t165 = 3 then ((word_Capital.f (⟨#[104,101,76,76,79,32,49,119,79,82,76,68,32,97,95,98]⟩ : ByteArray)).bind fun t166 => (some (t166.toList == ([72,101,108,108,111,32,49,119,111,114,108,100,32,65,95,98] : List UInt8)))) else (some false)) = some r := H
      have A9 := Aside0.mk A90
      clear A90
      by_cases c10 : t165 = 3
      ·rw [if_pos c10] at H
       have c10b0 : (t165 == 3) = true := beq_iff_eq.mpr c10
       have c10b1 : (t165 != 3) = false := bne_eq_false_iff_eq.mpr c10
       clear c10
       replace H := Option.bind_eq_some_iff.mp H
       obtain ⟨t166,A110,H⟩ := H
       replace H : (some (t166.toList == ([72,101,108,108,111,32,49,119,111,114,108,100,32,65,95,98] : List UInt8))) = some r := H
       have A11 := Aside0.mk A110
       clear A110
       obtain rfl := Option.some.inj H
       go_enter Tryd.func12,Tryd.ntmps12
       go_wp2_with (first | ((with_reducible refine gate_callee (f := 27) rfl ?_);refine goesL_ (some 2) rfl rfl Tryd.func27 (by kernel_rfl) rfl #[.string (⟨#[97]⟩ : ByteArray),.int .i64 0] rfl au1 ?_;(with_reducible refine (cluster_Next.calls k (⟨#[97]⟩ : ByteArray) 0 t159 _ ?side1 A1.out).mono ?_);(case side1 => exact tabs_below HT.out au0);rintro e w12 ⟨rfl,hb⟩;refine ⟨_,rfl,?_⟩;have n0_ := Aside0.mk (below_step au0 hb);clear HB;have HB := n0_;clear n0_;(try clear hb);(try clear hb2);(try clear hk);(try clear hi)) | ((with_reducible refine gate_callee (f := 20) rfl ?_);refine goesL_ (some 4) rfl rfl Tryd.func20 (by kernel_rfl) rfl #[.string (⟨#[97,98,44,32,99,95,49,32,32]⟩ : ByteArray)] rfl au1 ?_;(with_reducible refine (word_Spans.calls (⟨#[97,98,44,32,99,95,49,32,32]⟩ : ByteArray) t160 _ ?side1 A3.out).mono ?_);(case side1 => exact tabs_below HT.out au0);rintro e w13 ⟨v161,rfl,ho0,hb⟩;refine ⟨_,rfl,?_⟩;have n0_ := Aside0.mk (Kd.R_lower ho0 (below_size au0));have n1_ := Aside0.mk (below_step au0 hb);clear HB;have HO162 := n0_;have HB := n1_;clear n0_ n1_;(try clear hb);(try clear hb2);(try clear hk);(try clear hi);(try clear ho0);obtain ⟨Ao14,co14,eo14⟩ := Kd.R_slice HO162.out;subst eo14;have p163 : 0 ≤ (1 : Int) := (by omega);have q163 : 1 < (t160.length : Int) := of_decide_eq_true au9;obtain ⟨ad163,e163,hx163_0,hx163_1⟩ := at_T32 (Kd.R_reads' HO162.out).2.2 1 p163 q163;cases e163;(try simp only [show (1 : Int).toNat = 1 from rfl,Nat.reduceMul,Nat.reduceEqDiff,Go.Addr.add,↓reduceIte] at hx163_0);(try simp only [show (1 : Int).toNat = 1 from rfl,Nat.reduceMul,Nat.reduceEqDiff,Go.Addr.add,↓reduceIte] at hx163_1);have qi163 : (1 < t160.length) = True := eq_true (by omega);(try rw [show ((1 : Int)).toNat = 1 from rfl] at hx163_0);(try rw [show 1 * 2 = 2 from rfl] at hx163_0);(try rw [show ((1 : Int)).toNat = 1 from rfl] at hx163_1);(try rw [show 1 * 2 = 2 from rfl] at hx163_1);replace p163 := eq_true p163;replace q163 := eq_true q163) | (go_at_call 22;(with_reducible refine (word_Ahead.calls k (⟨#[97,98,32,99,100]⟩ : ByteArray) 2 t164 _ ?side1 A7.out).mono ?_);(case side1 => exact tabs_below HT.out au0);rintro e w15 ⟨rfl,hb⟩;have n0_ := Aside0.mk (Kd.R_below (by (with_reducible repeat (first | apply Kd.R_alloc | apply Kd.R_drewN | apply Kd.R_drew));exact HO162.out) hb);have n1_ := Aside0.mk (below_step au0 hb);clear HO162;clear HB;have HO162 := n0_;have HB := n1_;clear n0_ n1_;(try clear hb);(try clear hb2);(try clear hk);(try clear hi)) | (go_at_call 24;(with_reducible refine (word_Behind.calls k (⟨#[97,98,32,99,100]⟩ : ByteArray) 4 t165 _ ?side1 A9.out).mono ?_);(case side1 => exact tabs_below HT.out au0);rintro e w16 ⟨rfl,hb⟩;have n0_ := Aside0.mk (Kd.R_below (by (with_reducible repeat (first | apply Kd.R_alloc | apply Kd.R_drewN | apply Kd.R_drew));exact HO162.out) hb);have n1_ := Aside0.mk (below_step au0 hb);clear HO162;clear HB;have HO162 := n0_;have HB := n1_;clear n0_ n1_;(try clear hb);(try clear hb2);(try clear hk);(try clear hi)) | (go_at_call 34;(with_reducible refine (word_Capital.calls (⟨#[104,101,76,76,79,32,49,119,79,82,76,68,32,97,95,98]⟩ : ByteArray) t166 _ ?side1 A11.out).mono ?_);(case side1 => exact tabs_below HT.out au0);rintro e w17 ⟨rfl,hb⟩;have n0_ := Aside0.mk (Kd.R_below (by (with_reducible repeat (first | apply Kd.R_alloc | apply Kd.R_drewN | apply Kd.R_drew));exact HO162.out) hb);have n1_ := Aside0.mk (below_step au0 hb);clear HO162;clear HB;have HO162 := n0_;have HB := n1_;clear n0_ n1_;(try clear hb);(try clear hb2);(try clear hk);(try clear hi)))
       go_ret
       exact ⟨au2,au0⟩
      ·rw [if_neg c10] at H
       have c10b0 : (t165 == 3) = false := beq_eq_false_iff_ne.mpr c10
       have c10b1 : (t165 != 3) = true := bne_iff_ne.mpr c10
       obtain rfl := Option.some.inj H
       cases hr_
     ·rw [if_neg c8] at H
      have c8b0 : (t164 == 5) = false := beq_eq_false_iff_ne.mpr c8
      have c8b1 : (t164 != 5) = true := bne_iff_ne.mpr c8
      obtain rfl := Option.some.inj H
      cases hr_
    ·rw [if_neg c6] at H
     have c6b0 : (((rd_T32 t160 1).f0) == 4 && (((rd_T32 t160 1).f1) == 7)) = false := by simpa using c6
     (try (have c6b1 : decide (((rd_T32 t160 1).f0) = 4 && (((rd_T32 t160 1).f1) == 7)) = false := by simpa using c6))
     (try (have c6b2 : (((rd_T32 t160 1).f0) == 4 && (((rd_T32 t160 1).f1) == 7)) = false := by simpa using c6))
     (try (have c6b3 : ¬ (((rd_T32 t160 1).f0) = 4 && (((rd_T32 t160 1).f1) == 7)) := by simpa using c6))
     clear c6
     obtain rfl := Option.some.inj H
     cases hr_
   ·rw [if_neg c5] at H
    exact absurd H (by simp)
  ·rw [if_neg c4] at H
   have c4b0 : ((t160.length : Int) == 2) = false := beq_eq_false_iff_ne.mpr c4
   have c4b1 : ((t160.length : Int) != 2) = true := bne_iff_ne.mpr c4
   obtain rfl := Option.some.inj H
   cases hr_
 ·rw [if_neg c2] at H
  have c2b0 : (t159 == 1) = false := beq_eq_false_iff_ne.mpr c2
  have c2b1 : (t159 != 1) = true := bne_iff_ne.mpr c2
  obtain rfl := Option.some.inj H
  cases hr_
end Go.Proofs.YtkficbgnjpekaaaDoor.U
end
