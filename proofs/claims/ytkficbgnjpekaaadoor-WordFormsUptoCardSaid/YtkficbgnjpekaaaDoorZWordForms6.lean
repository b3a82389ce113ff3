/- What the law WordForms reaches of this seat's own texts, merged; what nothing uses is left out. -/
import Derived.Test.YtkficbgnjpekaaaDoorProg
import Derived.Below
import Derived.Deep.Draws
import Derived.Deep.AppendLies
import Derived.Maps.AppendAt
import Derived.OwnWalk
import Derived.Laws.BytesArg
import Derived.Laws.MakeOwn
import Derived.Laws.OwnMore
import Derived.Deep.OwnRows
import Derived.Tactics
import Derived.Lib.ConvBytes
import Derived.Laws.Slices
import Derived.WalkKit
import Derived.KernelRfl
import Derived.RowKit3
import Derived.Deep.LoopGhost
import Derived.Deep.QuietTactic
import Derived.BigQuiet
import Derived.WideLaws
import Derived.Deep.DeepCutAuto
import Derived.Deep.CutBlock
import Derived.Deep.RegionHeld3
import Derived.Laws.Rows
import Derived.Lib.AppendStr
import Derived.ArgAppend
import Derived.Laws.IdiomCopy
import Derived.OrdersHeld
import Derived.Laws.BitsLemmas
import Derived.RowKit
import Derived.Shelf.Small.Utf8
import Derived.Shelf.Utf8.AppendRunePlain
import Derived.Shelf.Strings.Prefix
import Derived.Shelf.Unicode.Decode
import Derived.Shelf.Unicode.DecodeSlow
import Derived.Shelf.Unicode.DecodeAny
import Derived.Lib.LaidU8
import Derived.RangeFuncNested
import Derived.RangeFuncBound
import Derived.RangeFuncCalls
import Derived.RangeFuncLeaves
import Derived.Lib.DecodeN
import Derived.Lib.MapLaws
import Derived.Laws.DeepStrings4
import Derived.Shelf.Unicode.DecodeLastEight
import Derived.Shelf.Abstract
import Derived.Shelf.RegionOpen
import Derived.OwnWalkIn
import Derived.TacticsInMore
import Derived.LoopNIn
import Derived.LoopIn
import Derived.Lib.Hide
import Derived.Great.BuildSlice
import Derived.Great.Walk
import Derived.Deep.WholeRow
import Derived.Sort.BigQuietIn
import Derived.Sort.CutIn
import Derived.Lib.Bytes
import Derived.Maps.Own
import Derived.Maps.OwnOps
import Derived.Maps.Views
import Derived.Test.YtkficbgnjpekaaaDoorRows
import Derived.ProofKit
import Derived.Deep.DeepHandedRow
import Derived.LaidMore
import Derived.Lay
import Derived.Test.YtkficbgnjpekaaaDoorWWords
import Derived.Test.YtkficbgnjpekaaaDoorWLast
import Derived.Test.YtkficbgnjpekaaaDoorWTab
import Derived.Test.YtkficbgnjpekaaaDoorWQPut
import Derived.Test.YtkficbgnjpekaaaDoorWApart
import Derived.Test.YtkficbgnjpekaaaDoorWArr
import Derived.Test.YtkficbgnjpekaaaDoorWZeros
import Derived.Test.YtkficbgnjpekaaaDoorWFoot
import Derived.Test.YtkficbgnjpekaaaDoorWKept
import Derived.Test.YtkficbgnjpekaaaDoorWShare
import Derived.Test.YtkficbgnjpekaaaDoorWN
import Derived.Test.YtkficbgnjpekaaaDoorWEqStruct
import Derived.Test.YtkficbgnjpekaaaDoorWRepsOne
import Derived.Test.YtkficbgnjpekaaaDoorWInv
import Derived.Test.YtkficbgnjpekaaaDoorWGuard
import Derived.Test.YtkficbgnjpekaaaDoorWNEv
import Derived.Test.YtkficbgnjpekaaaDoorWMore
import Derived.Test.YtkficbgnjpekaaaDoorWSized
import Derived.Test.YtkficbgnjpekaaaDoorZWordForms0
import Derived.Test.YtkficbgnjpekaaaDoorZWordForms1
import Derived.Test.YtkficbgnjpekaaaDoorZWordForms3
import Derived.Test.YtkficbgnjpekaaaDoorZWordForms4
import Derived.Test.YtkficbgnjpekaaaDoorZWordForms5
section
namespace Go.Proofs.YtkficbgnjpekaaaDoor.U
open Go.RowKit Go.Proofs.YtkficbgnjpekaaaDoorW.PrintWords Go.Proofs.YtkficbgnjpekaaaDoorW.PrintLast Go.Proofs.YtkficbgnjpekaaaDoorW.PrintMore
attribute [local go_sem] max2_int min2_int max_two min_two max_three min_three max_four min_four   -- for this text's walks alone
set_option linter.unusedVariables false
set_option linter.unusedSimpArgs false
attribute [local go_sem high] eqA32
def word_Ahead.l0 : Nat → ByteArray → Int → List (S32) → Int → Int → Option (Int)
 | 0,_,_,_,_,_ => none
 | k + 1,x0,x1,x13,x14,x15 => if x15 < x14 then (if 0 ≤ x15 then (if x15 < (x13.length : Int) then (if ((rd_T32 x13 x15).f1) > x1 then (some ((rd_T32 x13 x15).f1)) else (word_Ahead.l0 k x0 x1 x13 x14 (wrap64 (x15 + 1)))) else (none)) else (none)) else (some (x0.size : Int))
def word_Ahead.f (k : Nat) (a0 : ByteArray) (a1 : Int) : Option (Int) := (word_Spans.f a0).bind fun t101 => (word_Ahead.l0 k a0 (mn (mx a1 0) (a0.size : Int)) t101 (t101.length : Int) 0)
theorem word_Ahead.mono_l : ∀ k,(∀ y0 y1 y2 y3 y4,LeO (word_Ahead.l0 k y0 y1 y2 y3 y4) (word_Ahead.l0 (k + 1) y0 y1 y2 y3 y4))
 | 0 => fun _ _ _ _ _ r h => by simp [word_Ahead.l0] at h
 | k + 1 => by
  have ih0 := word_Ahead.mono_l k
  ·intro y0 y1 y2 y3 y4
   unfold word_Ahead.l0
   repeat' first
   | (with_reducible exact ih0 _ _ _ _ _)
   | (with_reducible exact LeO.refl _)
   | (with_reducible exact LeO.none _)
   | (with_reducible refine LeO.ite ?_ ?_)
   | (with_reducible refine LeO.bind ?_ (fun _ => ?_))
   | exact ih0 _ _ _ _ _
   | exact LeO.none _
   | refine LeO.ite ?_ ?_
   | refine LeO.bind ?_ (fun _ => ?_)
theorem word_Ahead.mono : ∀ a0 a1 k,LeO (word_Ahead.f k a0 a1) (word_Ahead.f (k + 1) a0 a1) := by
 intro a0 a1 k
 have ih0 := word_Ahead.mono_l k
 unfold word_Ahead.f
 repeat' first
   | (with_reducible exact ih0 _ _ _ _ _)
   | (with_reducible exact LeO.refl _)
   | (with_reducible exact LeO.none _)
   | (with_reducible refine LeO.ite ?_ ?_)
   | (with_reducible refine LeO.bind ?_ (fun _ => ?_))
   | exact ih0 _ _ _ _ _
   | exact LeO.none _
   | refine LeO.ite ?_ ?_
   | refine LeO.bind ?_ (fun _ => ?_)
set_option maxHeartbeats 8000000 in
set_option maxRecDepth 100000 in
theorem word_Ahead.calls (k : Nat) (a0 : ByteArray) (a1 : Int) (r : Int) (w : World) (hT : Lib.Utf8Tabs 0 1 w) (h : word_Ahead.f k a0 a1 = some r) :
  Calls Tryd.prog 22 #[.string a0,.int .i64 a1] w fun e w' => e = .returned (.int .i64 r) ∧ Below w.heap.size w w' := by
 have hu32 := Tryd.underlying32
 have HT := Aside0.mk hT
 clear hT
 have HB := Aside0.mk (Below.refl w.heap.size w)
 have H : ((word_Spans.f a0).bind fun t101 => (word_Ahead.l0 k a0 (mn (mx a1 0) (a0.size : Int)) t101 (t101.length : Int) 0)) = some r := h
 clear h
 obtain ⟨ji3,hji3⟩ : ∃ j_ : Int,(mx a1 0) = j_ := ⟨_,rfl⟩
 replace H : ((word_Spans.f a0).bind fun t101 => (word_Ahead.l0 k a0 (mn (ji3) (a0.size : Int)) t101 (t101.length : Int) 0)) = some r := by first | (rw [hji3] at H;exact H) | (simp only [hji3] at H ⊢;exact H)
 (try (have hji3l : 0 ≤ ji3 := by (rw [← hji3];unfold mx;(repeat' split) <;> omega)))
 (try (have hji3m : 0 ≤ ji3 := by omega))
 have hji3_ : (if a1 < 0 then 0 else a1) = ji3 := hji3
 obtain ⟨ji4,hji4⟩ : ∃ j_ : Int,(mn (ji3) (a0.size : Int)) = j_ := ⟨_,rfl⟩
 replace H : ((word_Spans.f a0).bind fun t101 => (word_Ahead.l0 k a0 ji4 t101 (t101.length : Int) 0)) = some r := by first | (rw [hji4] at H;exact H) | (simp only [hji4] at H ⊢;exact H)
 have hji4_ : (if (a0.size : Int) < (ji3) then (a0.size : Int) else (ji3)) = ji4 := hji4
 replace H := Option.bind_eq_some_iff.mp H
 obtain ⟨t101,A50,H⟩ := H
 replace H : (word_Ahead.l0 k a0 ji4 t101 (t101.length : Int) 0) = some r := H
 have A5 := Aside0.mk A50
 clear A50
 have H' := Aside0.mk H
 clear H
 go_enter Tryd.func22,Tryd.ntmps22
 go_wp2_with (first | ((with_reducible refine gate_callee (f := 20) rfl ?_);refine goesL_ (some 13) rfl rfl Tryd.func20 (by kernel_rfl) rfl #[.string a0] rfl (by (try simp only [List.map_toArray,List.map_cons,List.map_nil]);first | done | rfl | (simp only [List.length_drop,List.length_take];rfl)) ?_;(with_reducible refine (word_Spans.calls a0 t101 _ ?side1 A5.out).mono ?_);(case side1 => exact tabs_below HT.out (by repeat (first | (with_reducible first | exact HB.out | apply below_alloc | apply pw_below_drewN | apply below_drew1) | exact HB.out)));rintro e w6 ⟨v102,rfl,ho0,hb⟩;refine ⟨_,rfl,?_⟩;have n0_ := Aside0.mk (Kd.R_lower ho0 (below_size (by repeat (first | (with_reducible first | exact HB.out | apply below_alloc | apply pw_below_drewN | apply below_drew1) | exact HB.out))));have n1_ := Aside0.mk (below_step (by repeat (first | (with_reducible first | exact HB.out | apply below_alloc | apply pw_below_drewN | apply below_drew1) | exact HB.out)) hb);clear HB;have HO103 := n0_;have HB := n1_;clear n0_ n1_;(try clear hb);(try clear hb2);(try clear hk);(try clear hi);(try clear ho0);obtain ⟨Ao7,co7,eo7⟩ := Kd.R_slice HO103.out;subst eo7))
 go_loopg [15] k (fun kq v15 w' => ∃ (x15_1 : Int),v15 = .int .i64 x15_1 ∧ Aside0 (word_Ahead.l0 kq a0 ji4 t101 (t101.length : Int) x15_1 = some r) ∧ Aside0 (kq ≤ k) ∧ Aside0 (Kd.R k32 32 w' w.heap.size (fun _ => True) (.slice Ao7 t101.length co7) t101) ∧ Aside0 (Below w.heap.size w w'))
 case atStart => exact ⟨(0),(by first | rfl | (simp;done) | (simp [*];done)),H',⟨Nat.le_refl _⟩,⟨by (with_reducible repeat (first | apply Kd.R_alloc | apply Kd.R_drewN | apply Kd.R_drew));exact HO103.out⟩,⟨by repeat (first | (with_reducible first | exact HB.out | apply below_alloc | apply pw_below_drewN | apply below_drew1) | exact HB.out)⟩⟩
 case round =>
  clear H'
  try clear c2
  try clear p2
  obtain ⟨x15_1,rfl,HA,HK1,HO_13,HB⟩ := hrel
  cases gk with
  | zero => exact absurd HA.out (by simp [word_Ahead.l0])
  | succ k1 =>
   have H := HA.out
   clear HA
   simp only [word_Ahead.l0] at H
   by_cases c8 : x15_1 < (t101.length : Int)
   ·rw [if_pos c8] at H
    have c8b0 : decide (x15_1 < (t101.length : Int)) = true := decide_eq_true c8
    clear c8
    by_cases c9 : 0 ≤ x15_1
    ·rw [if_pos c9] at H
     have c9b0 : decide (0 ≤ x15_1) = true := decide_eq_true c9
     clear c9
     by_cases c10 : x15_1 < (t101.length : Int)
     ·rw [if_pos c10] at H
      have c10b0 : decide (x15_1 < (t101.length : Int)) = true := decide_eq_true c10
      clear c10
      by_cases c11 : ((rd_T32 t101 x15_1).f1) > ji4
      ·rw [if_pos c11] at H
       have c11b0 : decide (ji4 < ((rd_T32 t101 x15_1).f1)) = true := decide_eq_true c11
       clear c11
       obtain rfl := Option.some.inj H
       have p104 : 0 ≤ (x15_1 : Int) := of_decide_eq_true (by first | (with_reducible assumption) | assumption)
       have q104 : x15_1 < (t101.length : Int) := of_decide_eq_true (by first | (with_reducible assumption) | assumption)
       obtain ⟨ad104,e104,hx104_0,hx104_1⟩ := at_T32 (Kd.R_reads' HO_13.out).2.2 x15_1 p104 q104
       cases e104
       replace p104 := eq_true p104
       replace q104 := eq_true q104
       go_wp2_with (first | ((with_reducible refine gate_dst (N := 6) rfl ?_);refine box_event ?hg (N := 6) ?hd (cs := #[.int .i64 0,.int .i64 0]) (t := 32) ?hr ?_;(case hd => rfl);(case hg => rfl);(case hr => first | (go_simp;done) | (go_simp;rfl));intro gb105 hg w12 hbox hb;have n0_ := Aside0.mk (Kd.R_below (Kd.R_elderB (by (with_reducible repeat (first | apply Kd.R_alloc | apply Kd.R_drewN | apply Kd.R_drew));exact HO_13.out) gb105 (Nat.le_of_eq hg.symm)) hb);have n1_ := Aside0.mk (below_step (by repeat (first | (with_reducible first | exact HB.out | apply below_alloc | apply pw_below_drewN | apply below_drew1) | exact HB.out)) hb);have n2_ := Aside0.mk (hbox);have n3_ := Aside0.mk ((by rw [hg];exact (below_size (by repeat (first | (with_reducible first | exact HB.out | apply below_alloc | apply pw_below_drewN | apply below_drew1) | exact HB.out))) : w.heap.size ≤ gb105));have n4_ := Aside0.mk ((by rw [hg];exact (below_size (by repeat (first | (with_reducible first | exact HB.out | apply below_alloc | apply pw_below_drewN | apply below_drew1) | exact HB.out))) : w.heap.size ≤ gb105));clear HO_13;clear HB;have HO_13 := n0_;have HB := n1_;have BK105 := n2_;have GW105 := n3_;have GE105 := n4_;clear n0_ n1_ n2_ n3_ n4_;clear hb hbox hg;have hcz13_0 : w12.cell? ⟨gb105,0,none⟩ = some (.int .i64 0) := (blk_cell BK105.out 0).trans rfl;have hcz13_1 : w12.cell? ⟨gb105,1,none⟩ = some (.int .i64 0) := (blk_cell BK105.out 1).trans rfl;have hfz13_0 := blk_frozen BK105.out 0;have hfz13_1 := blk_frozen BK105.out 1))
       go_ret
       exact ⟨by first | rfl | (simp [errW_none,errW_some] <;> rfl) | (simp only [← hji3,← hji4];first | rfl | (simp [errW_none,errW_some] <;> rfl)) | (simp [*,errW_none,errW_some] <;> rfl),by repeat (first | (with_reducible first | exact HB.out | apply below_alloc | apply pw_below_drewN | apply below_drew1 | refine below_set ?_ GE105.out) | exact HB.out)⟩
      ·rw [if_neg c11] at H
       have c11b0 : decide (ji4 < ((rd_T32 t101 x15_1).f1)) = false := decide_eq_false c11
       clear c11
       have H' := Aside0.mk H
       clear H
       have p104 : 0 ≤ (x15_1 : Int) := of_decide_eq_true (by first | (with_reducible assumption) | assumption)
       have q104 : x15_1 < (t101.length : Int) := of_decide_eq_true (by first | (with_reducible assumption) | assumption)
       obtain ⟨ad104,e104,hx104_0,hx104_1⟩ := at_T32 (Kd.R_reads' HO_13.out).2.2 x15_1 p104 q104
       cases e104
       replace p104 := eq_true p104
       replace q104 := eq_true q104
       go_wp2_with (first | ((with_reducible refine gate_dst (N := 6) rfl ?_);refine box_event ?hg (N := 6) ?hd (cs := #[.int .i64 0,.int .i64 0]) (t := 32) ?hr ?_;(case hd => rfl);(case hg => rfl);(case hr => first | (go_simp;done) | (go_simp;rfl));intro gb105 hg w14 hbox hb;have n0_ := Aside0.mk (Kd.R_below (Kd.R_elderB (by (with_reducible repeat (first | apply Kd.R_alloc | apply Kd.R_drewN | apply Kd.R_drew));exact HO_13.out) gb105 (Nat.le_of_eq hg.symm)) hb);have n1_ := Aside0.mk (below_step (by repeat (first | (with_reducible first | exact HB.out | apply below_alloc | apply pw_below_drewN | apply below_drew1) | exact HB.out)) hb);have n2_ := Aside0.mk (hbox);have n3_ := Aside0.mk ((by rw [hg];exact (below_size (by repeat (first | (with_reducible first | exact HB.out | apply below_alloc | apply pw_below_drewN | apply below_drew1) | exact HB.out))) : w.heap.size ≤ gb105));have n4_ := Aside0.mk ((by rw [hg];exact (below_size (by repeat (first | (with_reducible first | exact HB.out | apply below_alloc | apply pw_below_drewN | apply below_drew1) | exact HB.out))) : w.heap.size ≤ gb105));clear HO_13;clear HB;have HO_13 := n0_;have HB := n1_;have BK105 := n2_;have GW105 := n3_;have GE105 := n4_;clear n0_ n1_ n2_ n3_ n4_;clear hb hbox hg;have hcz15_0 : w14.cell? ⟨gb105,0,none⟩ = some (.int .i64 0) := (blk_cell BK105.out 0).trans rfl;have hcz15_1 : w14.cell? ⟨gb105,1,none⟩ = some (.int .i64 0) := (blk_cell BK105.out 1).trans rfl;have hfz15_0 := blk_frozen BK105.out 0;have hfz15_1 := blk_frozen BK105.out 1))
       go_roundg k1
       case measure => have := HK1.out;omega
       case rel => exact ⟨(wrap64 (x15_1 + 1)),(by first | rfl | (simp;done) | (simp [*];done)),H',⟨by have := HK1.out;omega⟩,⟨by (with_reducible repeat (first | apply Kd.R_alloc | apply Kd.R_drewN | apply Kd.R_drew));exact Kd.R_mono (Kd.R_far (p := ⟨gb105,1,none⟩) (Kd.R_far (p := ⟨gb105,0,none⟩) (Kd.R_mono HO_13.out (fun k_ hk => (⟨hk,hk.2⟩ : _ ∧ k_ ≠ gb105))) (fun _ hk => hk.2) (.int .i64 ((rd_T32 t101 x15_1).f0))) (fun _ hk => hk.2) (.int .i64 ((rd_T32 t101 x15_1).f1))) (fun _ hk => trivial)⟩,⟨by repeat (first | (with_reducible first | exact HB.out | apply below_alloc | apply pw_below_drewN | apply below_drew1 | refine below_set ?_ GE105.out) | exact HB.out)⟩⟩
     ·rw [if_neg c10] at H
      exact absurd H (by simp)
    ·rw [if_neg c9] at H
     exact absurd H (by simp)
   ·rw [if_neg c8] at H
    have c8b0 : decide (x15_1 < (t101.length : Int)) = false := decide_eq_false c8
    clear c8
    obtain rfl := Option.some.inj H
    go_wp2
    go_ret
    exact ⟨by first | rfl | (simp [errW_none,errW_some] <;> rfl) | (simp only [← hji3,← hji4];first | rfl | (simp [errW_none,errW_some] <;> rfl)) | (simp [*,errW_none,errW_some] <;> rfl),by repeat (first | (with_reducible first | exact HB.out | apply below_alloc | apply pw_below_drewN | apply below_drew1) | exact HB.out)⟩
def word_Behind.l0 : Nat → Int → Int → List (S32) → Int → Int → Option (Int)
 | 0,_,_,_,_,_ => none
 | k + 1,x1,x5,x14,x15,x16 => if x16 < x15 then (if 0 ≤ x16 then (if x16 < (x14.length : Int) then (if ((rd_T32 x14 x16).f0) < x1 then (word_Behind.l0 k x1 ((rd_T32 x14 x16).f0) x14 x15 (wrap64 (x16 + 1))) else (word_Behind.l0 k x1 x5 x14 x15 (wrap64 (x16 + 1)))) else (none)) else (none)) else (some x5)
def word_Behind.f (k : Nat) (a0 : ByteArray) (a1 : Int) : Option (Int) := (word_Spans.f a0).bind fun t106 => (word_Behind.l0 k (mn (mx a1 0) (a0.size : Int)) 0 t106 (t106.length : Int) 0)
theorem word_Behind.mono_l : ∀ k,(∀ y0 y1 y2 y3 y4,LeO (word_Behind.l0 k y0 y1 y2 y3 y4) (word_Behind.l0 (k + 1) y0 y1 y2 y3 y4))
 | 0 => fun _ _ _ _ _ r h => by simp [word_Behind.l0] at h
 | k + 1 => by
  have ih0 := word_Behind.mono_l k
  ·intro y0 y1 y2 y3 y4
   unfold word_Behind.l0
   repeat' first
   | (with_reducible exact ih0 _ _ _ _ _)
   | (with_reducible exact LeO.refl _)
   | (with_reducible exact LeO.none _)
   | (with_reducible refine LeO.ite ?_ ?_)
   | (with_reducible refine LeO.bind ?_ (fun _ => ?_))
   | exact ih0 _ _ _ _ _
   | exact LeO.none _
   | refine LeO.ite ?_ ?_
   | refine LeO.bind ?_ (fun _ => ?_)
theorem word_Behind.mono : ∀ a0 a1 k,LeO (word_Behind.f k a0 a1) (word_Behind.f (k + 1) a0 a1) := by
 intro a0 a1 k
 have ih0 := word_Behind.mono_l k
 unfold word_Behind.f
 repeat' first
   | (with_reducible exact ih0 _ _ _ _ _)
   | (with_reducible exact LeO.refl _)
   | (with_reducible exact LeO.none _)
   | (with_reducible refine LeO.ite ?_ ?_)
   | (with_reducible refine LeO.bind ?_ (fun _ => ?_))
   | exact ih0 _ _ _ _ _
   | exact LeO.none _
   | refine LeO.ite ?_ ?_
   | refine LeO.bind ?_ (fun _ => ?_)
set_option maxHeartbeats 8000000 in
set_option maxRecDepth 100000 in
theorem word_Behind.calls (k : Nat) (a0 : ByteArray) (a1 : Int) (r : Int) (w : World) (hT : Lib.Utf8Tabs 0 1 w) (h : word_Behind.f k a0 a1 = some r) :
  Calls Tryd.prog 24 #[.string a0,.int .i64 a1] w fun e w' => e = .returned (.int .i64 r) ∧ Below w.heap.size w w' := by
 have hu32 := Tryd.underlying32
 have HT := Aside0.mk hT
 clear hT
 have HB := Aside0.mk (Below.refl w.heap.size w)
 have H : ((word_Spans.f a0).bind fun t106 => (word_Behind.l0 k (mn (mx a1 0) (a0.size : Int)) 0 t106 (t106.length : Int) 0)) = some r := h
 clear h
 obtain ⟨ji3,hji3⟩ : ∃ j_ : Int,(mx a1 0) = j_ := ⟨_,rfl⟩
 replace H : ((word_Spans.f a0).bind fun t106 => (word_Behind.l0 k (mn (ji3) (a0.size : Int)) 0 t106 (t106.length : Int) 0)) = some r := by first | (rw [hji3] at H;exact H) | (simp only [hji3] at H ⊢;exact H)
 (try (have hji3l : 0 ≤ ji3 := by (rw [← hji3];unfold mx;(repeat' split) <;> omega)))
 (try (have hji3m : 0 ≤ ji3 := by omega))
 have hji3_ : (if a1 < 0 then 0 else a1) = ji3 := hji3
 obtain ⟨ji4,hji4⟩ : ∃ j_ : Int,(mn (ji3) (a0.size : Int)) = j_ := ⟨_,rfl⟩
 replace H : ((word_Spans.f a0).bind fun t106 => (word_Behind.l0 k ji4 0 t106 (t106.length : Int) 0)) = some r := by first | (rw [hji4] at H;exact H) | (simp only [hji4] at H ⊢;exact H)
 have hji4_ : (if (a0.size : Int) < (ji3) then (a0.size : Int) else (ji3)) = ji4 := hji4
 replace H := Option.bind_eq_some_iff.mp H
 obtain ⟨t106,A50,H⟩ := H
 replace H : (word_Behind.l0 k ji4 0 t106 (t106.length : Int) 0) = some r := H
 have A5 := Aside0.mk A50
 clear A50
 have H' := Aside0.mk H
 clear H
 go_enter Tryd.func24,Tryd.ntmps24
 go_wp2_with (first | ((with_reducible refine gate_callee (f := 20) rfl ?_);refine goesL_ (some 14) rfl rfl Tryd.func20 (by kernel_rfl) rfl #[.string a0] rfl (by (try simp only [List.map_toArray,List.map_cons,List.map_nil]);first | done | rfl | (simp only [List.length_drop,List.length_take];rfl)) ?_;(with_reducible refine (word_Spans.calls a0 t106 _ ?side1 A5.out).mono ?_);(case side1 => exact tabs_below HT.out (by repeat (first | (with_reducible first | exact HB.out | apply below_alloc | apply pw_below_drewN | apply below_drew1) | exact HB.out)));rintro e w6 ⟨v107,rfl,ho0,hb⟩;refine ⟨_,rfl,?_⟩;have n0_ := Aside0.mk (Kd.R_lower ho0 (below_size (by repeat (first | (with_reducible first | exact HB.out | apply below_alloc | apply pw_below_drewN | apply below_drew1) | exact HB.out))));have n1_ := Aside0.mk (below_step (by repeat (first | (with_reducible first | exact HB.out | apply below_alloc | apply pw_below_drewN | apply below_drew1) | exact HB.out)) hb);clear HB;have HO108 := n0_;have HB := n1_;clear n0_ n1_;(try clear hb);(try clear hb2);(try clear hk);(try clear hi);(try clear ho0);obtain ⟨Ao7,co7,eo7⟩ := Kd.R_slice HO108.out;subst eo7))
 go_loopg [5,16] k (fun kq v5 v16 w' => ∃ (x5_1 : Int) (x16_1 : Int),v5 = .int .i64 x5_1 ∧ v16 = .int .i64 x16_1 ∧ Aside0 (word_Behind.l0 kq ji4 x5_1 t106 (t106.length : Int) x16_1 = some r) ∧ Aside0 (kq ≤ k) ∧ Aside0 (Kd.R k32 32 w' w.heap.size (fun _ => True) (.slice Ao7 t106.length co7) t106) ∧ Aside0 (Below w.heap.size w w'))
 case atStart => exact ⟨(0),(0),(by first | rfl | (simp;done) | (simp [*];done)),(by first | rfl | (simp;done) | (simp [*];done)),H',⟨Nat.le_refl _⟩,⟨by (with_reducible repeat (first | apply Kd.R_alloc | apply Kd.R_drewN | apply Kd.R_drew));exact HO108.out⟩,⟨by repeat (first | (with_reducible first | exact HB.out | apply below_alloc | apply pw_below_drewN | apply below_drew1) | exact HB.out)⟩⟩
 case round =>
  clear H'
  try clear c2
  try clear p2
  obtain ⟨x5_1,x16_1,rfl,rfl,HA,HK1,HO_14,HB⟩ := hrel
  cases gk with
  | zero => exact absurd HA.out (by simp [word_Behind.l0])
  | succ k1 =>
   have H := HA.out
   clear HA
   simp only [word_Behind.l0] at H
   by_cases c8 : x16_1 < (t106.length : Int)
   ·rw [if_pos c8] at H
    have c8b0 : decide (x16_1 < (t106.length : Int)) = true := decide_eq_true c8
    clear c8
    by_cases c9 : 0 ≤ x16_1
    ·rw [if_pos c9] at H
     have c9b0 : decide (0 ≤ x16_1) = true := decide_eq_true c9
     clear c9
     by_cases c10 : x16_1 < (t106.length : Int)
     ·rw [if_pos c10] at H
      have c10b0 : decide (x16_1 < (t106.length : Int)) = true := decide_eq_true c10
      clear c10
      by_cases c11 : ((rd_T32 t106 x16_1).f0) < ji4
      ·rw [if_pos c11] at H
       have c11b0 : decide (((rd_T32 t106 x16_1).f0) < ji4) = true := decide_eq_true c11
       clear c11
       have H' := Aside0.mk H
       clear H
       have p109 : 0 ≤ (x16_1 : Int) := of_decide_eq_true (by first | (with_reducible assumption) | assumption)
       have q109 : x16_1 < (t106.length : Int) := of_decide_eq_true (by first | (with_reducible assumption) | assumption)
       obtain ⟨ad109,e109,hx109_0,hx109_1⟩ := at_T32 (Kd.R_reads' HO_14.out).2.2 x16_1 p109 q109
       cases e109
       replace p109 := eq_true p109
       replace q109 := eq_true q109
       go_wp2_with (first | ((with_reducible refine gate_dst (N := 7) rfl ?_);refine box_event ?hg (N := 7) ?hd (cs := #[.int .i64 0,.int .i64 0]) (t := 32) ?hr ?_;(case hd => rfl);(case hg => rfl);(case hr => first | (go_simp;done) | (go_simp;rfl));intro gb110 hg w12 hbox hb;have n0_ := Aside0.mk (Kd.R_below (Kd.R_elderB (by (with_reducible repeat (first | apply Kd.R_alloc | apply Kd.R_drewN | apply Kd.R_drew));exact HO_14.out) gb110 (Nat.le_of_eq hg.symm)) hb);have n1_ := Aside0.mk (below_step (by repeat (first | (with_reducible first | exact HB.out | apply below_alloc | apply pw_below_drewN | apply below_drew1) | exact HB.out)) hb);have n2_ := Aside0.mk (hbox);have n3_ := Aside0.mk ((by rw [hg];exact (below_size (by repeat (first | (with_reducible first | exact HB.out | apply below_alloc | apply pw_below_drewN | apply below_drew1) | exact HB.out))) : w.heap.size ≤ gb110));have n4_ := Aside0.mk ((by rw [hg];exact (below_size (by repeat (first | (with_reducible first | exact HB.out | apply below_alloc | apply pw_below_drewN | apply below_drew1) | exact HB.out))) : w.heap.size ≤ gb110));clear HO_14;clear HB;have HO_14 := n0_;have HB := n1_;have BK110 := n2_;have GW110 := n3_;have GE110 := n4_;clear n0_ n1_ n2_ n3_ n4_;clear hb hbox hg;have hcz13_0 : w12.cell? ⟨gb110,0,none⟩ = some (.int .i64 0) := (blk_cell BK110.out 0).trans rfl;have hcz13_1 : w12.cell? ⟨gb110,1,none⟩ = some (.int .i64 0) := (blk_cell BK110.out 1).trans rfl;have hfz13_0 := blk_frozen BK110.out 0;have hfz13_1 := blk_frozen BK110.out 1))
       go_roundg k1
       case measure => have := HK1.out;omega
       case rel => exact ⟨((rd_T32 t106 x16_1).f0),(wrap64 (x16_1 + 1)),(by first | rfl | (simp;done) | (simp [*];done)),(by first | rfl | (simp;done) | (simp [*];done)),H',⟨by have := HK1.out;omega⟩,⟨by (with_reducible repeat (first | apply Kd.R_alloc | apply Kd.R_drewN | apply Kd.R_drew));exact Kd.R_mono (Kd.R_far (p := ⟨gb110,1,none⟩) (Kd.R_far (p := ⟨gb110,0,none⟩) (Kd.R_mono HO_14.out (fun k_ hk => (⟨hk,hk.2⟩ : _ ∧ k_ ≠ gb110))) (fun _ hk => hk.2) (.int .i64 ((rd_T32 t106 x16_1).f0))) (fun _ hk => hk.2) (.int .i64 ((rd_T32 t106 x16_1).f1))) (fun _ hk => trivial)⟩,⟨by repeat (first | (with_reducible first | exact HB.out | apply below_alloc | apply pw_below_drewN | apply below_drew1 | refine below_set ?_ GE110.out) | exact HB.out)⟩⟩
      ·rw [if_neg c11] at H
       have c11b0 : decide (((rd_T32 t106 x16_1).f0) < ji4) = false := decide_eq_false c11
       clear c11
       have H' := Aside0.mk H
       clear H
       have p109 : 0 ≤ (x16_1 : Int) := of_decide_eq_true (by first | (with_reducible assumption) | assumption)
       have q109 : x16_1 < (t106.length : Int) := of_decide_eq_true (by first | (with_reducible assumption) | assumption)
       obtain ⟨ad109,e109,hx109_0,hx109_1⟩ := at_T32 (Kd.R_reads' HO_14.out).2.2 x16_1 p109 q109
       cases e109
       replace p109 := eq_true p109
       replace q109 := eq_true q109
       go_wp2_with (first | ((with_reducible refine gate_dst (N := 7) rfl ?_);refine box_event ?hg (N := 7) ?hd (cs := #[.int .i64 0,.int .i64 0]) (t := 32) ?hr ?_;(case hd => rfl);(case hg => rfl);(case hr => first | (go_simp;done) | (go_simp;rfl));intro gb110 hg w14 hbox hb;have n0_ := Aside0.mk (Kd.R_below (Kd.R_elderB (by (with_reducible repeat (first | apply Kd.R_alloc | apply Kd.R_drewN | apply Kd.R_drew));exact HO_14.out) gb110 (Nat.le_of_eq hg.symm)) hb);have n1_ := Aside0.mk (below_step (by repeat (first | (with_reducible first | exact HB.out | apply below_alloc | apply pw_below_drewN | apply below_drew1) | exact HB.out)) hb);have n2_ := Aside0.mk (hbox);have n3_ := Aside0.mk ((by rw [hg];exact (below_size (by repeat (first | (with_reducible first | exact HB.out | apply below_alloc | apply pw_below_drewN | apply below_drew1) | exact HB.out))) : w.heap.size ≤ gb110));have n4_ := Aside0.mk ((by rw [hg];exact (below_size (by repeat (first | (with_reducible first | exact HB.out | apply below_alloc | apply pw_below_drewN | apply below_drew1) | exact HB.out))) : w.heap.size ≤ gb110));clear HO_14;clear HB;have HO_14 := n0_;have HB := n1_;have BK110 := n2_;have GW110 := n3_;have GE110 := n4_;clear n0_ n1_ n2_ n3_ n4_;clear hb hbox hg;have hcz15_0 : w14.cell? ⟨gb110,0,none⟩ = some (.int .i64 0) := (blk_cell BK110.out 0).trans rfl;have hcz15_1 : w14.cell? ⟨gb110,1,none⟩ = some (.int .i64 0) := (blk_cell BK110.out 1).trans rfl;have hfz15_0 := blk_frozen BK110.out 0;have hfz15_1 := blk_frozen BK110.out 1))
       go_roundg k1
       case measure => have := HK1.out;omega
       case rel => exact ⟨(x5_1),(wrap64 (x16_1 + 1)),(by first | rfl | (simp;done) | (simp [*];done)),(by first | rfl | (simp;done) | (simp [*];done)),H',⟨by have := HK1.out;omega⟩,⟨by (with_reducible repeat (first | apply Kd.R_alloc | apply Kd.R_drewN | apply Kd.R_drew));exact Kd.R_mono (Kd.R_far (p := ⟨gb110,1,none⟩) (Kd.R_far (p := ⟨gb110,0,none⟩) (Kd.R_mono HO_14.out (fun k_ hk => (⟨hk,hk.2⟩ : _ ∧ k_ ≠ gb110))) (fun _ hk => hk.2) (.int .i64 ((rd_T32 t106 x16_1).f0))) (fun _ hk => hk.2) (.int .i64 ((rd_T32 t106 x16_1).f1))) (fun _ hk => trivial)⟩,⟨by repeat (first | (with_reducible first | exact HB.out | apply below_alloc | apply pw_below_drewN | apply below_drew1 | refine below_set ?_ GE110.out) | exact HB.out)⟩⟩
     ·rw [if_neg c10] at H
      exact absurd H (by simp)
    ·rw [if_neg c9] at H
     exact absurd H (by simp)
   ·rw [if_neg c8] at H
    have c8b0 : decide (x16_1 < (t106.length : Int)) = false := decide_eq_false c8
    clear c8
    obtain rfl := Option.some.inj H
    go_wp2
    go_ret
    exact ⟨by first | rfl | (simp [errW_none,errW_some] <;> rfl) | (simp only [← hji3,← hji4];first | rfl | (simp [errW_none,errW_some] <;> rfl)) | (simp [*,errW_none,errW_some] <;> rfl),by repeat (first | (with_reducible first | exact HB.out | apply below_alloc | apply pw_below_drewN | apply below_drew1) | exact HB.out)⟩
def bodkinlaw05_awake.f (k : Nat)  : Option (Bool) := (cluster_Next.f k (⟨#[97]⟩ : ByteArray) 0).bind fun t159 => (if t159 = 1 then ((word_Spans.f (⟨#[97,98,44,32,99,95,49,32,32]⟩ : ByteArray)).bind fun t160 => (if (t160.length : Int) = 2 then (if 1 < (t160.length : Int) then (if (((rd_T32 t160 1).f0) == 4 && (((rd_T32 t160 1).f1) == 7)) = true then ((word_Ahead.f k (⟨#[97,98,32,99,100]⟩ : ByteArray) 2).bind fun t164 => (if t164 = 5 then ((word_Behind.f k (⟨#[97,98,32,99,100]⟩ : ByteArray) 4).bind fun t165 => (if t165 = 3 then ((word_Capital.f (⟨#[104,101,76,76,79,32,49,119,79,82,76,68,32,97,95,98]⟩ : ByteArray)).bind fun t166 => (some (t166.toList == ([72,101,108,108,111,32,49,119,111,114,108,100,32,65,95,98] : List UInt8)))) else (some false))) else (some false))) else (some false)) else (none)) else (some false))) else (some false))
theorem bodkinlaw05_awake.mono : ∀ k,LeO (bodkinlaw05_awake.f k ) (bodkinlaw05_awake.f (k + 1) ) := by
 intro  k
 unfold bodkinlaw05_awake.f
 repeat' first
   | (with_reducible exact cluster_Next.mono _ _ _)
   | (with_reducible exact word_Ahead.mono _ _ _)
   | (with_reducible exact word_Behind.mono _ _ _)
   | (with_reducible exact LeO.refl _)
   | (with_reducible exact LeO.none _)
   | (with_reducible refine LeO.ite ?_ ?_)
   | (with_reducible refine LeO.bind ?_ (fun _ => ?_))
   | exact cluster_Next.mono _ _ _
   | exact word_Ahead.mono _ _ _
   | exact word_Behind.mono _ _ _
   | exact LeO.none _
   | refine LeO.ite ?_ ?_
   | refine LeO.bind ?_ (fun _ => ?_)
set_option maxHeartbeats 8000000 in
set_option maxRecDepth 100000 in
theorem bodkinlaw05_awake.calls (k : Nat)  (r : Bool) (w : World) (hT : Lib.Utf8Tabs 0 1 w) (h : bodkinlaw05_awake.f k  = some r) :
  Calls Tryd.prog 12 #[] w fun e w' => e = .returned (.bool r) ∧ Below w.heap.size w w' := by
 have hu32 := Tryd.underlying32
 have HT := Aside0.mk hT
 clear hT
 have HB := Aside0.mk (Below.refl w.heap.size w)
 have H : ((cluster_Next.f k (⟨#[97]⟩ : ByteArray) 0).bind fun t159 => (if t159 = 1 then ((word_Spans.f (⟨#[97,98,44,32,99,95,49,32,32]⟩ : ByteArray)).bind fun t160 => (if (t160.length : Int) = 2 then (if 1 < (t160.length : Int) then (if (((rd_T32 t160 1).f0) == 4 && (((rd_T32 t160 1).f1) == 7)) = true then ((word_Ahead.f k (⟨#[97,98,32,99,100]⟩ : ByteArray) 2).bind fun t164 => (if t164 = 5 then ((word_Behind.f k (⟨#[97,98,32,99,100]⟩ : ByteArray) 4).bind fun t165 => (if t165 = 3 then ((word_Capital.f (⟨#[104,101,76,76,79,32,49,119,79,82,76,68,32,97,95,98]⟩ : ByteArray)).bind fun t166 => (some (t166.toList == ([72,101,108,108,111,32,49,119,111,114,108,100,32,65,95,98] : List UInt8)))) else (some false))) else (some false))) else (some false)) else (none)) else (some false))) else (some false))) = some r := h
 clear h
 replace H := Option.bind_eq_some_iff.mp H
 obtain ⟨t159,A10,H⟩ := H
 replace H : (if t159 = 1 then ((word_Spans.f (⟨#[97,98,44,32,99,95,49,32,32]⟩ : ByteArray)).bind fun t160 => (if (t160.length : Int) = 2 then (if 1 < (t160.length : Int) then (if (((rd_T32 t160 1).f0) == 4 && (((rd_T32 t160 1).f1) == 7)) = true then ((word_Ahead.f k (⟨#[97,98,32,99,100]⟩ : ByteArray) 2).bind fun t164 => (if t164 = 5 then ((word_Behind.f k (⟨#[97,98,32,99,100]⟩ : ByteArray) 4).bind fun t165 => (if t165 = 3 then ((word_Capital.f (⟨#[104,101,76,76,79,32,49,119,79,82,76,68,32,97,95,98]⟩ : ByteArray)).bind fun t166 => (some (t166.toList == ([72,101,108,108,111,32,49,119,111,114,108,100,32,65,95,98] : List UInt8)))) else (some false))) else (some false))) else (some false)) else (none)) else (some false))) else (some false)) = some r := H
 have A1 := Aside0.mk A10
 clear A10
 by_cases c2 : t159 = 1
 ·rw [if_pos c2] at H
  have c2b0 : (t159 == 1) = true := beq_iff_eq.mpr c2
  have c2b1 : (t159 != 1) = false := bne_eq_false_iff_eq.mpr c2
  clear c2
  replace H := Option.bind_eq_some_iff.mp H
  obtain ⟨t160,A30,H⟩ := H
  replace H : (if (t160.length : Int) = 2 then (if 1 < (t160.length : Int) then (if (((rd_T32 t160 1).f0) == 4 && (((rd_T32 t160 1).f1) == 7)) = true then ((word_Ahead.f k (⟨#[97,98,32,99,100]⟩ : ByteArray) 2).bind fun t164 => (if t164 = 5 then ((word_Behind.f k (⟨#[97,98,32,99,100]⟩ : ByteArray) 4).bind fun t165 => (if t165 = 3 then ((word_Capital.f (⟨#[104,101,76,76,79,32,49,119,79,82,76,68,32,97,95,98]⟩ : ByteArray)).bind fun t166 => (some (t166.toList == ([72,101,108,108,111,32,49,119,111,114,108,100,32,65,95,98] : List UInt8)))) else (some false))) else (some false))) else (some false)) else (none)) else (some false)) = some r := H
  have A3 := Aside0.mk A30
  clear A30
  by_cases c4 : (t160.length : Int) = 2
  ·rw [if_pos c4] at H
   have c4b0 : ((t160.length : Int) == 2) = true := beq_iff_eq.mpr c4
   have c4b1 : ((t160.length : Int) != 2) = false := bne_eq_false_iff_eq.mpr c4
   clear c4
   by_cases c5 : 1 < (t160.length : Int)
   ·rw [if_pos c5] at H
    have c5b0 : decide (1 < (t160.length : Int)) = true := decide_eq_true c5
    have c5b1 : decide (1 < t160.length) = true := decide_eq_true (by omega)
    clear c5
    by_cases c6 : (((rd_T32 t160 1).f0) == 4 && (((rd_T32 t160 1).f1) == 7)) = true
    ·rw [if_pos c6] at H
     have c6b0 : (((rd_T32 t160 1).f0) == 4 && (((rd_T32 t160 1).f1) == 7)) = true := c6
     (try (have c6b1 : decide (((rd_T32 t160 1).f0) = 4 && (((rd_T32 t160 1).f1) == 7)) = true := by simpa using c6))
     (try (have c6b2 : (((rd_T32 t160 1).f0) == 4 && (((rd_T32 t160 1).f1) == 7)) = true := by simpa using c6))
     clear c6
     replace H := Option.bind_eq_some_iff.mp H
     obtain ⟨t164,A70,H⟩ := H
     replace H : (if t164 = 5 then ((word_Behind.f k (⟨#[97,98,32,99,100]⟩ : ByteArray) 4).bind fun t165 => (if t165 = 3 then ((word_Capital.f (⟨#[104,101,76,76,79,32,49,119,79,82,76,68,32,97,95,98]⟩ : ByteArray)).bind fun t166 => (some (t166.toList == ([72,101,108,108,111,32,49,119,111,114,108,100,32,65,95,98] : List UInt8)))) else (some false))) else (some false)) = some r := H
     have A7 := Aside0.mk A70
     clear A70
     by_cases c8 : t164 = 5
     ·rw [if_pos c8] at H
      have c8b0 : (t164 == 5) = true := beq_iff_eq.mpr c8
      have c8b1 : (t164 != 5) = false := bne_eq_false_iff_eq.mpr c8
      clear c8
      replace H := Option.bind_eq_some_iff.mp H
      obtain ⟨t165,A90,H⟩ := H
      replace H : (if t165 = 3 then ((word_Capital.f (⟨#[104,101,76,76,79,32,49,119,79,82,76,68,32,97,95,98]⟩ : ByteArray)).bind fun t166 => (some (t166.toList == ([72,101,108,108,111,32,49,119,111,114,108,100,32,65,95,98] : List UInt8)))) else (some false)) = some r := H
      have A9 := Aside0.mk A90
      clear A90
      by_cases c10 : t165 = 3
      ·rw [if_pos c10] at H
       have c10b0 : (t165 == 3) = true := beq_iff_eq.mpr c10
       have c10b1 : (t165 != 3) = false := bne_eq_false_iff_eq.mpr c10
       clear c10
       replace H := Option.bind_eq_some_iff.mp H
       obtain ⟨t166,A110,H⟩ := H
       replace H : (some (t166.toList == ([72,101,108,108,111,32,49,119,111,114,108,100,32,65,95,98] : List UInt8))) = some r := H
       have A11 := Aside0.mk A110
       clear A110
       obtain rfl := Option.some.inj H
       go_enter Tryd.func12,Tryd.ntmps12
       go_wp2_with (first | ((with_reducible refine gate_callee (f := 27) rfl ?_);refine goesL_ (some 2) rfl rfl Tryd.func27 (by kernel_rfl) rfl #[.string (⟨#[97]⟩ : ByteArray),.int .i64 0] rfl (by (try simp only [List.map_toArray,List.map_cons,List.map_nil]);first | done | rfl | (simp only [List.length_drop,List.length_take];rfl)) ?_;(with_reducible refine (cluster_Next.calls k (⟨#[97]⟩ : ByteArray) 0 t159 _ ?side1 A1.out).mono ?_);(case side1 => exact tabs_below HT.out (by repeat (first | (with_reducible first | exact HB.out | apply below_alloc | apply pw_below_drewN | apply below_drew1) | exact HB.out)));rintro e w12 ⟨rfl,hb⟩;refine ⟨_,rfl,?_⟩;have n0_ := Aside0.mk (below_step (by repeat (first | (with_reducible first | exact HB.out | apply below_alloc | apply pw_below_drewN | apply below_drew1) | exact HB.out)) hb);clear HB;have HB := n0_;clear n0_;(try clear hb);(try clear hb2);(try clear hk);(try clear hi)) | ((with_reducible refine gate_callee (f := 20) rfl ?_);refine goesL_ (some 4) rfl rfl Tryd.func20 (by kernel_rfl) rfl #[.string (⟨#[97,98,44,32,99,95,49,32,32]⟩ : ByteArray)] rfl (by (try simp only [List.map_toArray,List.map_cons,List.map_nil]);first | done | rfl | (simp only [List.length_drop,List.length_take];rfl)) ?_;(with_reducible refine (word_Spans.calls (⟨#[97,98,44,32,99,95,49,32,32]⟩ : ByteArray) t160 _ ?side1 A3.out).mono ?_);(case side1 => exact tabs_below HT.out (by repeat (first | (with_reducible first | exact HB.out | apply below_alloc | apply pw_below_drewN | apply below_drew1) | exact HB.out)));rintro e w13 ⟨v161,rfl,ho0,hb⟩;refine ⟨_,rfl,?_⟩;have n0_ := Aside0.mk (Kd.R_lower ho0 (below_size (by repeat (first | (with_reducible first | exact HB.out | apply below_alloc | apply pw_below_drewN | apply below_drew1) | exact HB.out))));have n1_ := Aside0.mk (below_step (by repeat (first | (with_reducible first | exact HB.out | apply below_alloc | apply pw_below_drewN | apply below_drew1) | exact HB.out)) hb);clear HB;have HO162 := n0_;have HB := n1_;clear n0_ n1_;(try clear hb);(try clear hb2);(try clear hk);(try clear hi);(try clear ho0);obtain ⟨Ao14,co14,eo14⟩ := Kd.R_slice HO162.out;subst eo14;have p163 : 0 ≤ (1 : Int) := (by omega);have q163 : 1 < (t160.length : Int) := of_decide_eq_true (by first | (with_reducible assumption) | assumption);obtain ⟨ad163,e163,hx163_0,hx163_1⟩ := at_T32 (Kd.R_reads' HO162.out).2.2 1 p163 q163;cases e163;(try simp only [show (1 : Int).toNat = 1 from rfl,Nat.reduceMul,Nat.reduceEqDiff,Go.Addr.add,↓reduceIte] at hx163_0);(try simp only [show (1 : Int).toNat = 1 from rfl,Nat.reduceMul,Nat.reduceEqDiff,Go.Addr.add,↓reduceIte] at hx163_1);have qi163 : (1 < t160.length) = True := eq_true (by omega);(try rw [show ((1 : Int)).toNat = 1 from rfl] at hx163_0);(try rw [show 1 * 2 = 2 from rfl] at hx163_0);(try rw [show ((1 : Int)).toNat = 1 from rfl] at hx163_1);(try rw [show 1 * 2 = 2 from rfl] at hx163_1);replace p163 := eq_true p163;replace q163 := eq_true q163) | (go_at_call 22;(with_reducible refine (word_Ahead.calls k (⟨#[97,98,32,99,100]⟩ : ByteArray) 2 t164 _ ?side1 A7.out).mono ?_);(case side1 => exact tabs_below HT.out (by repeat (first | (with_reducible first | exact HB.out | apply below_alloc | apply pw_below_drewN | apply below_drew1) | exact HB.out)));rintro e w15 ⟨rfl,hb⟩;have n0_ := Aside0.mk (Kd.R_below (by (with_reducible repeat (first | apply Kd.R_alloc | apply Kd.R_drewN | apply Kd.R_drew));exact HO162.out) hb);have n1_ := Aside0.mk (below_step (by repeat (first | (with_reducible first | exact HB.out | apply below_alloc | apply pw_below_drewN | apply below_drew1) | exact HB.out)) hb);clear HO162;clear HB;have HO162 := n0_;have HB := n1_;clear n0_ n1_;(try clear hb);(try clear hb2);(try clear hk);(try clear hi)) | (go_at_call 24;(with_reducible refine (word_Behind.calls k (⟨#[97,98,32,99,100]⟩ : ByteArray) 4 t165 _ ?side1 A9.out).mono ?_);(case side1 => exact tabs_below HT.out (by repeat (first | (with_reducible first | exact HB.out | apply below_alloc | apply pw_below_drewN | apply below_drew1) | exact HB.out)));rintro e w16 ⟨rfl,hb⟩;have n0_ := Aside0.mk (Kd.R_below (by (with_reducible repeat (first | apply Kd.R_alloc | apply Kd.R_drewN | apply Kd.R_drew));exact HO162.out) hb);have n1_ := Aside0.mk (below_step (by repeat (first | (with_reducible first | exact HB.out | apply below_alloc | apply pw_below_drewN | apply below_drew1) | exact HB.out)) hb);clear HO162;clear HB;have HO162 := n0_;have HB := n1_;clear n0_ n1_;(try clear hb);(try clear hb2);(try clear hk);(try clear hi)) | (go_at_call 34;(with_reducible refine (word_Capital.calls (⟨#[104,101,76,76,79,32,49,119,79,82,76,68,32,97,95,98]⟩ : ByteArray) t166 _ ?side1 A11.out).mono ?_);(case side1 => exact tabs_below HT.out (by repeat (first | (with_reducible first | exact HB.out | apply below_alloc | apply pw_below_drewN | apply below_drew1) | exact HB.out)));rintro e w17 ⟨rfl,hb⟩;have n0_ := Aside0.mk (Kd.R_below (by (with_reducible repeat (first | apply Kd.R_alloc | apply Kd.R_drewN | apply Kd.R_drew));exact HO162.out) hb);have n1_ := Aside0.mk (below_step (by repeat (first | (with_reducible first | exact HB.out | apply below_alloc | apply pw_below_drewN | apply below_drew1) | exact HB.out)) hb);clear HO162;clear HB;have HO162 := n0_;have HB := n1_;clear n0_ n1_;(try clear hb);(try clear hb2);(try clear hk);(try clear hi)))
       go_ret
       exact ⟨by first | rfl | (simp [errW_none,errW_some] <;> rfl) | (simp [*,errW_none,errW_some] <;> rfl),by repeat (first | (with_reducible first | exact HB.out | apply below_alloc | apply pw_below_drewN | apply below_drew1) | exact HB.out)⟩
      ·rw [if_neg c10] at H
       have c10b0 : (t165 == 3) = false := beq_eq_false_iff_ne.mpr c10
       have c10b1 : (t165 != 3) = true := bne_iff_ne.mpr c10
       obtain rfl := Option.some.inj H
       go_enter Tryd.func12,Tryd.ntmps12
       go_wp2_with (first | ((with_reducible refine gate_callee (f := 27) rfl ?_);refine goesL_ (some 2) rfl rfl Tryd.func27 (by kernel_rfl) rfl #[.string (⟨#[97]⟩ : ByteArray),.int .i64 0] rfl (by (try simp only [List.map_toArray,List.map_cons,List.map_nil]);first | done | rfl | (simp only [List.length_drop,List.length_take];rfl)) ?_;(with_reducible refine (cluster_Next.calls k (⟨#[97]⟩ : ByteArray) 0 t159 _ ?side1 A1.out).mono ?_);(case side1 => exact tabs_below HT.out (by repeat (first | (with_reducible first | exact HB.out | apply below_alloc | apply pw_below_drewN | apply below_drew1) | exact HB.out)));rintro e w18 ⟨rfl,hb⟩;refine ⟨_,rfl,?_⟩;have n0_ := Aside0.mk (below_step (by repeat (first | (with_reducible first | exact HB.out | apply below_alloc | apply pw_below_drewN | apply below_drew1) | exact HB.out)) hb);clear HB;have HB := n0_;clear n0_;(try clear hb);(try clear hb2);(try clear hk);(try clear hi)) | ((with_reducible refine gate_callee (f := 20) rfl ?_);refine goesL_ (some 4) rfl rfl Tryd.func20 (by kernel_rfl) rfl #[.string (⟨#[97,98,44,32,99,95,49,32,32]⟩ : ByteArray)] rfl (by (try simp only [List.map_toArray,List.map_cons,List.map_nil]);first | done | rfl | (simp only [List.length_drop,List.length_take];rfl)) ?_;(with_reducible refine (word_Spans.calls (⟨#[97,98,44,32,99,95,49,32,32]⟩ : ByteArray) t160 _ ?side1 A3.out).mono ?_);(case side1 => exact tabs_below HT.out (by repeat (first | (with_reducible first | exact HB.out | apply below_alloc | apply pw_below_drewN | apply below_drew1) | exact HB.out)));rintro e w19 ⟨v161,rfl,ho0,hb⟩;refine ⟨_,rfl,?_⟩;have n0_ := Aside0.mk (Kd.R_lower ho0 (below_size (by repeat (first | (with_reducible first | exact HB.out | apply below_alloc | apply pw_below_drewN | apply below_drew1) | exact HB.out))));have n1_ := Aside0.mk (below_step (by repeat (first | (with_reducible first | exact HB.out | apply below_alloc | apply pw_below_drewN | apply below_drew1) | exact HB.out)) hb);clear HB;have HO162 := n0_;have HB := n1_;clear n0_ n1_;(try clear hb);(try clear hb2);(try clear hk);(try clear hi);(try clear ho0);obtain ⟨Ao20,co20,eo20⟩ := Kd.R_slice HO162.out;subst eo20;have p163 : 0 ≤ (1 : Int) := (by omega);have q163 : 1 < (t160.length : Int) := of_decide_eq_true (by first | (with_reducible assumption) | assumption);obtain ⟨ad163,e163,hx163_0,hx163_1⟩ := at_T32 (Kd.R_reads' HO162.out).2.2 1 p163 q163;cases e163;(try simp only [show (1 : Int).toNat = 1 from rfl,Nat.reduceMul,Nat.reduceEqDiff,Go.Addr.add,↓reduceIte] at hx163_0);(try simp only [show (1 : Int).toNat = 1 from rfl,Nat.reduceMul,Nat.reduceEqDiff,Go.Addr.add,↓reduceIte] at hx163_1);have qi163 : (1 < t160.length) = True := eq_true (by omega);(try rw [show ((1 : Int)).toNat = 1 from rfl] at hx163_0);(try rw [show 1 * 2 = 2 from rfl] at hx163_0);(try rw [show ((1 : Int)).toNat = 1 from rfl] at hx163_1);(try rw [show 1 * 2 = 2 from rfl] at hx163_1);replace p163 := eq_true p163;replace q163 := eq_true q163) | (go_at_call 22;(with_reducible refine (word_Ahead.calls k (⟨#[97,98,32,99,100]⟩ : ByteArray) 2 t164 _ ?side1 A7.out).mono ?_);(case side1 => exact tabs_below HT.out (by repeat (first | (with_reducible first | exact HB.out | apply below_alloc | apply pw_below_drewN | apply below_drew1) | exact HB.out)));rintro e w21 ⟨rfl,hb⟩;have n0_ := Aside0.mk (Kd.R_below (by (with_reducible repeat (first | apply Kd.R_alloc | apply Kd.R_drewN | apply Kd.R_drew));exact HO162.out) hb);have n1_ := Aside0.mk (below_step (by repeat (first | (with_reducible first | exact HB.out | apply below_alloc | apply pw_below_drewN | apply below_drew1) | exact HB.out)) hb);clear HO162;clear HB;have HO162 := n0_;have HB := n1_;clear n0_ n1_;(try clear hb);(try clear hb2);(try clear hk);(try clear hi)) | (go_at_call 24;(with_reducible refine (word_Behind.calls k (⟨#[97,98,32,99,100]⟩ : ByteArray) 4 t165 _ ?side1 A9.out).mono ?_);(case side1 => exact tabs_below HT.out (by repeat (first | (with_reducible first | exact HB.out | apply below_alloc | apply pw_below_drewN | apply below_drew1) | exact HB.out)));rintro e w22 ⟨rfl,hb⟩;have n0_ := Aside0.mk (Kd.R_below (by (with_reducible repeat (first | apply Kd.R_alloc | apply Kd.R_drewN | apply Kd.R_drew));exact HO162.out) hb);have n1_ := Aside0.mk (below_step (by repeat (first | (with_reducible first | exact HB.out | apply below_alloc | apply pw_below_drewN | apply below_drew1) | exact HB.out)) hb);clear HO162;clear HB;have HO162 := n0_;have HB := n1_;clear n0_ n1_;(try clear hb);(try clear hb2);(try clear hk);(try clear hi)))
       go_ret
       exact ⟨by first | rfl | (simp [errW_none,errW_some] <;> rfl) | (simp [*,errW_none,errW_some] <;> rfl),by repeat (first | (with_reducible first | exact HB.out | apply below_alloc | apply pw_below_drewN | apply below_drew1) | exact HB.out)⟩
     ·rw [if_neg c8] at H
      have c8b0 : (t164 == 5) = false := beq_eq_false_iff_ne.mpr c8
      have c8b1 : (t164 != 5) = true := bne_iff_ne.mpr c8
      obtain rfl := Option.some.inj H
      go_enter Tryd.func12,Tryd.ntmps12
      go_wp2_with (first | ((with_reducible refine gate_callee (f := 27) rfl ?_);refine goesL_ (some 2) rfl rfl Tryd.func27 (by kernel_rfl) rfl #[.string (⟨#[97]⟩ : ByteArray),.int .i64 0] rfl (by (try simp only [List.map_toArray,List.map_cons,List.map_nil]);first | done | rfl | (simp only [List.length_drop,List.length_take];rfl)) ?_;(with_reducible refine (cluster_Next.calls k (⟨#[97]⟩ : ByteArray) 0 t159 _ ?side1 A1.out).mono ?_);(case side1 => exact tabs_below HT.out (by repeat (first | (with_reducible first | exact HB.out | apply below_alloc | apply pw_below_drewN | apply below_drew1) | exact HB.out)));rintro e w23 ⟨rfl,hb⟩;refine ⟨_,rfl,?_⟩;have n0_ := Aside0.mk (below_step (by repeat (first | (with_reducible first | exact HB.out | apply below_alloc | apply pw_below_drewN | apply below_drew1) | exact HB.out)) hb);clear HB;have HB := n0_;clear n0_;(try clear hb);(try clear hb2);(try clear hk);(try clear hi)) | ((with_reducible refine gate_callee (f := 20) rfl ?_);refine goesL_ (some 4) rfl rfl Tryd.func20 (by kernel_rfl) rfl #[.string (⟨#[97,98,44,32,99,95,49,32,32]⟩ : ByteArray)] rfl (by (try simp only [List.map_toArray,List.map_cons,List.map_nil]);first | done | rfl | (simp only [List.length_drop,List.length_take];rfl)) ?_;(with_reducible refine (word_Spans.calls (⟨#[97,98,44,32,99,95,49,32,32]⟩ : ByteArray) t160 _ ?side1 A3.out).mono ?_);(case side1 => exact tabs_below HT.out (by repeat (first | (with_reducible first | exact HB.out | apply below_alloc | apply pw_below_drewN | apply below_drew1) | exact HB.out)));rintro e w24 ⟨v161,rfl,ho0,hb⟩;refine ⟨_,rfl,?_⟩;have n0_ := Aside0.mk (Kd.R_lower ho0 (below_size (by repeat (first | (with_reducible first | exact HB.out | apply below_alloc | apply pw_below_drewN | apply below_drew1) | exact HB.out))));have n1_ := Aside0.mk (below_step (by repeat (first | (with_reducible first | exact HB.out | apply below_alloc | apply pw_below_drewN | apply below_drew1) | exact HB.out)) hb);clear HB;have HO162 := n0_;have HB := n1_;clear n0_ n1_;(try clear hb);(try clear hb2);(try clear hk);(try clear hi);(try clear ho0);obtain ⟨Ao25,co25,eo25⟩ := Kd.R_slice HO162.out;subst eo25;have p163 : 0 ≤ (1 : Int) := (by omega);have q163 : 1 < (t160.length : Int) := of_decide_eq_true (by first | (with_reducible assumption) | assumption);obtain ⟨ad163,e163,hx163_0,hx163_1⟩ := at_T32 (Kd.R_reads' HO162.out).2.2 1 p163 q163;cases e163;(try simp only [show (1 : Int).toNat = 1 from rfl,Nat.reduceMul,Nat.reduceEqDiff,Go.Addr.add,↓reduceIte] at hx163_0);(try simp only [show (1 : Int).toNat = 1 from rfl,Nat.reduceMul,Nat.reduceEqDiff,Go.Addr.add,↓reduceIte] at hx163_1);have qi163 : (1 < t160.length) = True := eq_true (by omega);(try rw [show ((1 : Int)).toNat = 1 from rfl] at hx163_0);(try rw [show 1 * 2 = 2 from rfl] at hx163_0);(try rw [show ((1 : Int)).toNat = 1 from rfl] at hx163_1);(try rw [show 1 * 2 = 2 from rfl] at hx163_1);replace p163 := eq_true p163;replace q163 := eq_true q163) | (go_at_call 22;(with_reducible refine (word_Ahead.calls k (⟨#[97,98,32,99,100]⟩ : ByteArray) 2 t164 _ ?side1 A7.out).mono ?_);(case side1 => exact tabs_below HT.out (by repeat (first | (with_reducible first | exact HB.out | apply below_alloc | apply pw_below_drewN | apply below_drew1) | exact HB.out)));rintro e w26 ⟨rfl,hb⟩;have n0_ := Aside0.mk (Kd.R_below (by (with_reducible repeat (first | apply Kd.R_alloc | apply Kd.R_drewN | apply Kd.R_drew));exact HO162.out) hb);have n1_ := Aside0.mk (below_step (by repeat (first | (with_reducible first | exact HB.out | apply below_alloc | apply pw_below_drewN | apply below_drew1) | exact HB.out)) hb);clear HO162;clear HB;have HO162 := n0_;have HB := n1_;clear n0_ n1_;(try clear hb);(try clear hb2);(try clear hk);(try clear hi)))
      go_ret
      exact ⟨by first | rfl | (simp [errW_none,errW_some] <;> rfl) | (simp [*,errW_none,errW_some] <;> rfl),by repeat (first | (with_reducible first | exact HB.out | apply below_alloc | apply pw_below_drewN | apply below_drew1) | exact HB.out)⟩
    ·rw [if_neg c6] at H
     have c6b0 : (((rd_T32 t160 1).f0) == 4 && (((rd_T32 t160 1).f1) == 7)) = false := by simpa using c6
     (try (have c6b1 : decide (((rd_T32 t160 1).f0) = 4 && (((rd_T32 t160 1).f1) == 7)) = false := by simpa using c6))
     (try (have c6b2 : (((rd_T32 t160 1).f0) == 4 && (((rd_T32 t160 1).f1) == 7)) = false := by simpa using c6))
     (try (have c6b3 : ¬ (((rd_T32 t160 1).f0) = 4 && (((rd_T32 t160 1).f1) == 7)) := by simpa using c6))
     clear c6
     obtain rfl := Option.some.inj H
     go_enter Tryd.func12,Tryd.ntmps12
     go_wp2_with (first | ((with_reducible refine gate_callee (f := 27) rfl ?_);refine goesL_ (some 2) rfl rfl Tryd.func27 (by kernel_rfl) rfl #[.string (⟨#[97]⟩ : ByteArray),.int .i64 0] rfl (by (try simp only [List.map_toArray,List.map_cons,List.map_nil]);first | done | rfl | (simp only [List.length_drop,List.length_take];rfl)) ?_;(with_reducible refine (cluster_Next.calls k (⟨#[97]⟩ : ByteArray) 0 t159 _ ?side1 A1.out).mono ?_);(case side1 => exact tabs_below HT.out (by repeat (first | (with_reducible first | exact HB.out | apply below_alloc | apply pw_below_drewN | apply below_drew1) | exact HB.out)));rintro e w27 ⟨rfl,hb⟩;refine ⟨_,rfl,?_⟩;have n0_ := Aside0.mk (below_step (by repeat (first | (with_reducible first | exact HB.out | apply below_alloc | apply pw_below_drewN | apply below_drew1) | exact HB.out)) hb);clear HB;have HB := n0_;clear n0_;(try clear hb);(try clear hb2);(try clear hk);(try clear hi)) | ((with_reducible refine gate_callee (f := 20) rfl ?_);refine goesL_ (some 4) rfl rfl Tryd.func20 (by kernel_rfl) rfl #[.string (⟨#[97,98,44,32,99,95,49,32,32]⟩ : ByteArray)] rfl (by (try simp only [List.map_toArray,List.map_cons,List.map_nil]);first | done | rfl | (simp only [List.length_drop,List.length_take];rfl)) ?_;(with_reducible refine (word_Spans.calls (⟨#[97,98,44,32,99,95,49,32,32]⟩ : ByteArray) t160 _ ?side1 A3.out).mono ?_);(case side1 => exact tabs_below HT.out (by repeat (first | (with_reducible first | exact HB.out | apply below_alloc | apply pw_below_drewN | apply below_drew1) | exact HB.out)));rintro e w28 ⟨v161,rfl,ho0,hb⟩;refine ⟨_,rfl,?_⟩;have n0_ := Aside0.mk (Kd.R_lower ho0 (below_size (by repeat (first | (with_reducible first | exact HB.out | apply below_alloc | apply pw_below_drewN | apply below_drew1) | exact HB.out))));have n1_ := Aside0.mk (below_step (by repeat (first | (with_reducible first | exact HB.out | apply below_alloc | apply pw_below_drewN | apply below_drew1) | exact HB.out)) hb);clear HB;have HO162 := n0_;have HB := n1_;clear n0_ n1_;(try clear hb);(try clear hb2);(try clear hk);(try clear hi);(try clear ho0);obtain ⟨Ao29,co29,eo29⟩ := Kd.R_slice HO162.out;subst eo29;have p163 : 0 ≤ (1 : Int) := (by omega);have q163 : 1 < (t160.length : Int) := of_decide_eq_true (by first | (with_reducible assumption) | assumption);obtain ⟨ad163,e163,hx163_0,hx163_1⟩ := at_T32 (Kd.R_reads' HO162.out).2.2 1 p163 q163;cases e163;(try simp only [show (1 : Int).toNat = 1 from rfl,Nat.reduceMul,Nat.reduceEqDiff,Go.Addr.add,↓reduceIte] at hx163_0);(try simp only [show (1 : Int).toNat = 1 from rfl,Nat.reduceMul,Nat.reduceEqDiff,Go.Addr.add,↓reduceIte] at hx163_1);have qi163 : (1 < t160.length) = True := eq_true (by omega);(try rw [show ((1 : Int)).toNat = 1 from rfl] at hx163_0);(try rw [show 1 * 2 = 2 from rfl] at hx163_0);(try rw [show ((1 : Int)).toNat = 1 from rfl] at hx163_1);(try rw [show 1 * 2 = 2 from rfl] at hx163_1);replace p163 := eq_true p163;replace q163 := eq_true q163))
     go_ret
     exact ⟨by first | rfl | (simp [errW_none,errW_some] <;> rfl) | (simp [*,errW_none,errW_some] <;> rfl),by repeat (first | (with_reducible first | exact HB.out | apply below_alloc | apply pw_below_drewN | apply below_drew1) | exact HB.out)⟩
   ·rw [if_neg c5] at H
    exact absurd H (by simp)
  ·rw [if_neg c4] at H
   have c4b0 : ((t160.length : Int) == 2) = false := beq_eq_false_iff_ne.mpr c4
   have c4b1 : ((t160.length : Int) != 2) = true := bne_iff_ne.mpr c4
   obtain rfl := Option.some.inj H
   go_enter Tryd.func12,Tryd.ntmps12
   go_wp2_with (first | ((with_reducible refine gate_callee (f := 27) rfl ?_);refine goesL_ (some 2) rfl rfl Tryd.func27 (by kernel_rfl) rfl #[.string (⟨#[97]⟩ : ByteArray),.int .i64 0] rfl (by (try simp only [List.map_toArray,List.map_cons,List.map_nil]);first | done | rfl | (simp only [List.length_drop,List.length_take];rfl)) ?_;(with_reducible refine (cluster_Next.calls k (⟨#[97]⟩ : ByteArray) 0 t159 _ ?side1 A1.out).mono ?_);(case side1 => exact tabs_below HT.out (by repeat (first | (with_reducible first | exact HB.out | apply below_alloc | apply pw_below_drewN | apply below_drew1) | exact HB.out)));rintro e w30 ⟨rfl,hb⟩;refine ⟨_,rfl,?_⟩;have n0_ := Aside0.mk (below_step (by repeat (first | (with_reducible first | exact HB.out | apply below_alloc | apply pw_below_drewN | apply below_drew1) | exact HB.out)) hb);clear HB;have HB := n0_;clear n0_;(try clear hb);(try clear hb2);(try clear hk);(try clear hi)) | ((with_reducible refine gate_callee (f := 20) rfl ?_);refine goesL_ (some 4) rfl rfl Tryd.func20 (by kernel_rfl) rfl #[.string (⟨#[97,98,44,32,99,95,49,32,32]⟩ : ByteArray)] rfl (by (try simp only [List.map_toArray,List.map_cons,List.map_nil]);first | done | rfl | (simp only [List.length_drop,List.length_take];rfl)) ?_;(with_reducible refine (word_Spans.calls (⟨#[97,98,44,32,99,95,49,32,32]⟩ : ByteArray) t160 _ ?side1 A3.out).mono ?_);(case side1 => exact tabs_below HT.out (by repeat (first | (with_reducible first | exact HB.out | apply below_alloc | apply pw_below_drewN | apply below_drew1) | exact HB.out)));rintro e w31 ⟨v161,rfl,ho0,hb⟩;refine ⟨_,rfl,?_⟩;have n0_ := Aside0.mk (Kd.R_lower ho0 (below_size (by repeat (first | (with_reducible first | exact HB.out | apply below_alloc | apply pw_below_drewN | apply below_drew1) | exact HB.out))));have n1_ := Aside0.mk (below_step (by repeat (first | (with_reducible first | exact HB.out | apply below_alloc | apply pw_below_drewN | apply below_drew1) | exact HB.out)) hb);clear HB;have HO162 := n0_;have HB := n1_;clear n0_ n1_;(try clear hb);(try clear hb2);(try clear hk);(try clear hi);(try clear ho0);obtain ⟨Ao32,co32,eo32⟩ := Kd.R_slice HO162.out;subst eo32))
   go_ret
   exact ⟨by first | rfl | (simp [errW_none,errW_some] <;> rfl) | (simp [*,errW_none,errW_some] <;> rfl),by repeat (first | (with_reducible first | exact HB.out | apply below_alloc | apply pw_below_drewN | apply below_drew1) | exact HB.out)⟩
 ·rw [if_neg c2] at H
  have c2b0 : (t159 == 1) = false := beq_eq_false_iff_ne.mpr c2
  have c2b1 : (t159 != 1) = true := bne_iff_ne.mpr c2
  obtain rfl := Option.some.inj H
  go_enter Tryd.func12,Tryd.ntmps12
  go_wp2_with (first | ((with_reducible refine gate_callee (f := 27) rfl ?_);refine goesL_ (some 2) rfl rfl Tryd.func27 (by kernel_rfl) rfl #[.string (⟨#[97]⟩ : ByteArray),.int .i64 0] rfl (by (try simp only [List.map_toArray,List.map_cons,List.map_nil]);first | done | rfl | (simp only [List.length_drop,List.length_take];rfl)) ?_;(with_reducible refine (cluster_Next.calls k (⟨#[97]⟩ : ByteArray) 0 t159 _ ?side1 A1.out).mono ?_);(case side1 => exact tabs_below HT.out (by repeat (first | (with_reducible first | exact HB.out | apply below_alloc | apply pw_below_drewN | apply below_drew1) | exact HB.out)));rintro e w33 ⟨rfl,hb⟩;refine ⟨_,rfl,?_⟩;have n0_ := Aside0.mk (below_step (by repeat (first | (with_reducible first | exact HB.out | apply below_alloc | apply pw_below_drewN | apply below_drew1) | exact HB.out)) hb);clear HB;have HB := n0_;clear n0_;(try clear hb);(try clear hb2);(try clear hk);(try clear hi)))
  go_ret
  exact ⟨by first | rfl | (simp [errW_none,errW_some] <;> rfl) | (simp [*,errW_none,errW_some] <;> rfl),by repeat (first | (with_reducible first | exact HB.out | apply below_alloc | apply pw_below_drewN | apply below_drew1) | exact HB.out)⟩
end Go.Proofs.YtkficbgnjpekaaaDoor.U
end
section
namespace Go.Proofs.YtkficbgnjpekaaaDoor.U
open Go.RowKit Go.Proofs.YtkficbgnjpekaaaDoorW.PrintWords Go.Proofs.YtkficbgnjpekaaaDoorW.PrintLast Go.Proofs.YtkficbgnjpekaaaDoorW.PrintMore
attribute [local go_sem] max2_int min2_int max_two min_two max_three min_three max_four min_four   -- for this text's walks alone
set_option linter.unusedVariables false
set_option linter.unusedSimpArgs false
mutual
def bodkinlaw05_WordForms.l0 : Nat → List Int → Int → Option (Bool)
 | 0,_,_ => none
 | k + 1,x0,x3 => if x3 < (x0.length : Int) then (if 0 ≤ x3 then ((word_UpperOf.f k (rd x0 x3)).bind fun t455 => ((word_LowerOf.f (rd x0 x3)).bind fun t456 => (if t455 = (rd x0 x3) then (if t456 = (rd x0 x3) then (bodkinlaw05_WordForms.j1 k x0 x3 (rd x0 x3) t455 t456 false) else ((word_UpperOf.f k t456).bind fun t457 => (if t457 = (rd x0 x3) then ((word_LowerOf.f t456).bind fun t458 => (bodkinlaw05_WordForms.j1 k x0 x3 (rd x0 x3) t455 t456 (t458 != t456))) else (bodkinlaw05_WordForms.j1 k x0 x3 (rd x0 x3) t455 t456 true)))) else (if t456 = (rd x0 x3) then ((word_LowerOf.f t455).bind fun t459 => (if t459 = (rd x0 x3) then ((word_UpperOf.f k t455).bind fun t460 => (if t460 = t455 then (bodkinlaw05_WordForms.j1 k x0 x3 (rd x0 x3) t455 t456 false) else (bodkinlaw05_WordForms.j1 k x0 x3 (rd x0 x3) t455 t456 true))) else (bodkinlaw05_WordForms.j1 k x0 x3 (rd x0 x3) t455 t456 true))) else (bodkinlaw05_WordForms.j1 k x0 x3 (rd x0 x3) t455 t456 true))))) else (none)) else (some true)
def bodkinlaw05_WordForms.j1 : Nat → List Int → Int → Int → Int → Int → Bool → Option (Bool)
 | 0,_,_,_,_,_,_ => none
 | k + 1,x0,x3,x4,x5,x6,x64 => if x64 = true then (some false) else ((unit_Encode.f k (([x5] : List Int))).bind fun t464 => ((unit_Encode.f k (([x4] : List Int))).bind fun t468 => (if (t464.size : Int) = (t468.size : Int) then ((unit_Encode.f k (([x6] : List Int))).bind fun t472 => ((unit_Encode.f k (([x4] : List Int))).bind fun t476 => (if (t472.size : Int) = (t476.size : Int) then ((word_IsWord.f k x5).bind fun t477 => ((word_IsWord.f k x4).bind fun t478 => (if (t477 != t478) = true then (some false) else ((word_IsWord.f k x6).bind fun t479 => ((word_IsWord.f k x4).bind fun t480 => (if (t479 != t480) = true then (some false) else (bodkinlaw05_WordForms.l0 k x0 (wrap64 (x3 + 1))))))))) else (some false)))) else (some false))))
end
def bodkinlaw05_WordForms.f (k : Nat) (l0 : List Int) : Option (Bool) := (bodkinlaw05_awake.f k).bind fun t453 => (if t453 = true then (bodkinlaw05_WordForms.l0 k l0 0) else (some false))
set_option maxHeartbeats 8000000 in
set_option maxRecDepth 100000 in
theorem bodkinlaw05_WordForms.calls (k : Nat) (A0 : Option Addr) (c0 : Nat) (l0 : List Int) (r : Bool) (hr_ : r = true) (w : World) (hr0 : Kd.C (Kd.int .i32) w A0 l0.length l0) (hc0 : l0.length ≤ c0) (hT : Lib.Utf8Tabs 0 1 w) (h : bodkinlaw05_WordForms.f k l0 = some r) :
  Calls Tryd.prog 8 #[.slice A0 l0.length c0] w fun e w' => e = .returned (.bool r) ∧ Below w.heap.size w w' := by
 have HT := Aside0.mk hT
 clear hT
 have HR0 := Aside0.mk hr0
 have HC0 := Aside0.mk hc0
 clear hr0 hc0
 have HB := Aside0.mk (Below.refl w.heap.size w)
 have H : ((bodkinlaw05_awake.f k).bind fun t453 => (if t453 = true then (bodkinlaw05_WordForms.l0 k l0 0) else (some false))) = some r := h
 clear h
 replace H := Option.bind_eq_some_iff.mp H
 obtain ⟨t453,A20,H⟩ := H
 replace H : (if t453 = true then (bodkinlaw05_WordForms.l0 k l0 0) else (some false)) = some r := H
 have A2 := Aside0.mk A20
 clear A20
 by_cases c3 : t453 = true
 ·subst c3
  have H1 : (bodkinlaw05_WordForms.l0 k l0 0) = some r := by rw [if_pos rfl] at H;exact H
  clear H
  have H := H1
  clear H1
  have H' := Aside0.mk H
  clear H
  go_enter Tryd.func8,Tryd.ntmps8
  go_wp2_with (first | ((with_reducible refine gate_callee (f := 12) rfl ?_);refine goesL_ (some 7) rfl rfl Tryd.func12 (by kernel_rfl) rfl #[] rfl (by (try simp only [List.map_toArray,List.map_cons,List.map_nil]);first | done | rfl | (simp only [List.length_drop,List.length_take];rfl)) ?_;(with_reducible refine (bodkinlaw05_awake.calls k  true _ ?side1 A2.out).mono ?_);(case side1 => exact tabs_below HT.out (by repeat (first | (with_reducible first | exact HB.out | apply below_alloc | apply pw_below_drewN | apply below_drew1) | exact HB.out)));rintro e w4 ⟨rfl,hb⟩;refine ⟨_,rfl,?_⟩;have n0_ := Aside0.mk (below_step (by repeat (first | (with_reducible first | exact HB.out | apply below_alloc | apply pw_below_drewN | apply below_drew1) | exact HB.out)) hb);clear HB;have HB := n0_;clear n0_;(try clear hb);(try clear hb2);(try clear hk);(try clear hi)))
  go_loopg [3] k (fun kq v3 w' => ∃ (x3_1 : Int),v3 = .int .i64 x3_1 ∧ Aside0 (bodkinlaw05_WordForms.l0 kq l0 x3_1 = some r) ∧ Aside0 (kq ≤ k) ∧ Aside0 (Below w.heap.size w w'))
  case atStart => exact ⟨(0),(by first | rfl | (simp;done) | (simp [*];done)),H',⟨Nat.le_refl _⟩,⟨by repeat (first | (with_reducible first | exact HB.out | apply below_alloc | apply pw_below_drewN | apply below_drew1) | exact HB.out)⟩⟩
  case round =>
   clear H'
   try clear c1
   try clear p2
   try clear c3
   obtain ⟨x3_1,rfl,HA,HK1,HB⟩ := hrel
   cases gk with
   | zero => exact absurd HA.out (by simp [bodkinlaw05_WordForms.l0])
   | succ k1 =>
    have H := HA.out
    clear HA
    simp only [bodkinlaw05_WordForms.l0] at H
    by_cases c5 : x3_1 < (l0.length : Int)
    ·rw [if_pos c5] at H
     have c5b0 : decide (x3_1 < (l0.length : Int)) = true := decide_eq_true c5
     clear c5
     by_cases c6 : 0 ≤ x3_1
     ·rw [if_pos c6] at H
      have c6b0 : decide (0 ≤ x3_1) = true := decide_eq_true c6
      clear c6
      replace H := Option.bind_eq_some_iff.mp H
      obtain ⟨t455,A70,H⟩ := H
      replace H : ((word_LowerOf.f (rd l0 x3_1)).bind fun t456 => (if t455 = (rd l0 x3_1) then (if t456 = (rd l0 x3_1) then (bodkinlaw05_WordForms.j1 k1 l0 x3_1 (rd l0 x3_1) t455 t456 false) else ((word_UpperOf.f k1 t456).bind fun t457 => (if t457 = (rd l0 x3_1) then ((word_LowerOf.f t456).bind fun t458 => (bodkinlaw05_WordForms.j1 k1 l0 x3_1 (rd l0 x3_1) t455 t456 (t458 != t456))) else (bodkinlaw05_WordForms.j1 k1 l0 x3_1 (rd l0 x3_1) t455 t456 true)))) else (if t456 = (rd l0 x3_1) then ((word_LowerOf.f t455).bind fun t459 => (if t459 = (rd l0 x3_1) then ((word_UpperOf.f k1 t455).bind fun t460 => (if t460 = t455 then (bodkinlaw05_WordForms.j1 k1 l0 x3_1 (rd l0 x3_1) t455 t456 false) else (bodkinlaw05_WordForms.j1 k1 l0 x3_1 (rd l0 x3_1) t455 t456 true))) else (bodkinlaw05_WordForms.j1 k1 l0 x3_1 (rd l0 x3_1) t455 t456 true))) else (bodkinlaw05_WordForms.j1 k1 l0 x3_1 (rd l0 x3_1) t455 t456 true)))) = some r := H
      have A7 := Aside0.mk A70
      clear A70
      replace H := Option.bind_eq_some_iff.mp H
      obtain ⟨t456,A80,H⟩ := H
      replace H : (if t455 = (rd l0 x3_1) then (if t456 = (rd l0 x3_1) then (bodkinlaw05_WordForms.j1 k1 l0 x3_1 (rd l0 x3_1) t455 t456 false) else ((word_UpperOf.f k1 t456).bind fun t457 => (if t457 = (rd l0 x3_1) then ((word_LowerOf.f t456).bind fun t458 => (bodkinlaw05_WordForms.j1 k1 l0 x3_1 (rd l0 x3_1) t455 t456 (t458 != t456))) else (bodkinlaw05_WordForms.j1 k1 l0 x3_1 (rd l0 x3_1) t455 t456 true)))) else (if t456 = (rd l0 x3_1) then ((word_LowerOf.f t455).bind fun t459 => (if t459 = (rd l0 x3_1) then ((word_UpperOf.f k1 t455).bind fun t460 => (if t460 = t455 then (bodkinlaw05_WordForms.j1 k1 l0 x3_1 (rd l0 x3_1) t455 t456 false) else (bodkinlaw05_WordForms.j1 k1 l0 x3_1 (rd l0 x3_1) t455 t456 true))) else (bodkinlaw05_WordForms.j1 k1 l0 x3_1 (rd l0 x3_1) t455 t456 true))) else (bodkinlaw05_WordForms.j1 k1 l0 x3_1 (rd l0 x3_1) t455 t456 true))) = some r := H
      have A8 := Aside0.mk A80
      clear A80
      have HC9 := Aside0.mk H
      clear H
      have p454 : 0 ≤ (x3_1 : Int) := of_decide_eq_true (by first | (with_reducible assumption) | assumption)
      have q454 : x3_1 < (l0.length : Int) := of_decide_eq_true (by first | (with_reducible assumption) | assumption)
      obtain ⟨ad454,e454,hx454_0⟩ := Kd.at_int HR0.out x3_1 p454 q454
      cases e454
      replace hx454_0 := (HB.out.cell (World.block_lt_of_cell? w _ hx454_0)).trans hx454_0
      replace p454 := eq_true p454
      replace q454 := eq_true q454
      go_upto_region 9 with (first | ((with_reducible refine gate_callee (f := 15) rfl ?_);refine goesL_ (some 20) rfl rfl Tryd.func15 (by kernel_rfl) rfl #[.int .i32 (rd l0 x3_1)] rfl (by (try simp only [List.map_toArray,List.map_cons,List.map_nil]);first | done | rfl | (simp only [List.length_drop,List.length_take];rfl)) ?_;(with_reducible refine (word_UpperOf.calls k1 (rd l0 x3_1) t455 _ A7.out).mono ?_);rintro e w' ⟨rfl,⟨nd,rfl⟩⟩;refine ⟨_,rfl,?_⟩) | ((with_reducible refine gate_callee (f := 17) rfl ?_);refine goesL_ (some 22) rfl rfl Tryd.func17 (by kernel_rfl) rfl #[.int .i32 (rd l0 x3_1)] rfl (by (try simp only [List.map_toArray,List.map_cons,List.map_nil]);first | done | rfl | (simp only [List.length_drop,List.length_take];rfl)) ?_;(with_reducible refine (word_LowerOf.calls (rd l0 x3_1) t456 _ A8.out).mono ?_);rintro e w10 ⟨rfl,hb⟩;refine ⟨_,rfl,?_⟩;have n0_ := Aside0.mk (below_step (by repeat (first | (with_reducible first | exact HB.out | apply below_alloc | apply pw_below_drewN | apply below_drew1) | exact HB.out)) hb);clear HB;have HB := n0_;clear n0_;(try clear hb);(try clear hb2);(try clear hk);(try clear hi)))
      (try simp only [Act.put,List.setIfInBounds_toArray,List.set_cons_zero,List.set_cons_succ])
      go_cut [64] (fun v64 wc => ∃ (kq : Nat) (x64_8 : Bool),v64 = .bool x64_8 ∧ Aside0 (bodkinlaw05_WordForms.j1 kq l0 x3_1 (rd l0 x3_1) t455 t456 x64_8 = some r) ∧ Aside0 (kq ≤ k1) ∧ Aside0 (Below w.heap.size w wc))
      case first =>
       have H := HC9.out
       clear HC9
       by_cases c11 : t455 = (rd l0 x3_1)
       ·rw [if_pos c11] at H
        have c11b0 : (t455 == (rd l0 x3_1)) = true := beq_iff_eq.mpr c11
        have c11b1 : (t455 != (rd l0 x3_1)) = false := bne_eq_false_iff_eq.mpr c11
        clear c11
        (first | rw [c11b0] | (simp only [i64_w,i32_w];rw [c11b0]) | skip)
        by_cases c12 : t456 = (rd l0 x3_1)
        ·rw [if_pos c12] at H
         have c12b0 : (t456 == (rd l0 x3_1)) = true := beq_iff_eq.mpr c12
         have c12b1 : (t456 != (rd l0 x3_1)) = false := bne_eq_false_iff_eq.mpr c12
         clear c12
         have H' := Aside0.mk H
         clear H
         go_wp2
         go_meet
         case rel => exact ⟨_,(false),(by first | rfl | (simp;done) | (simp [*];done)),H',⟨by have := HK1.out;first | omega | exact Nat.le_refl _⟩,⟨by repeat (first | (with_reducible first | exact HB.out | apply below_alloc | apply pw_below_drewN | apply below_drew1) | exact HB.out)⟩⟩
        ·rw [if_neg c12] at H
         have c12b0 : (t456 == (rd l0 x3_1)) = false := beq_eq_false_iff_ne.mpr c12
         have c12b1 : (t456 != (rd l0 x3_1)) = true := bne_iff_ne.mpr c12
         replace H := Option.bind_eq_some_iff.mp H
         obtain ⟨t457,A130,H⟩ := H
         replace H : (if t457 = (rd l0 x3_1) then ((word_LowerOf.f t456).bind fun t458 => (bodkinlaw05_WordForms.j1 k1 l0 x3_1 (rd l0 x3_1) t455 t456 (t458 != t456))) else (bodkinlaw05_WordForms.j1 k1 l0 x3_1 (rd l0 x3_1) t455 t456 true)) = some r := H
         have A13 := Aside0.mk A130
         clear A130
         by_cases c14 : t457 = (rd l0 x3_1)
         ·rw [if_pos c14] at H
          have c14b0 : (t457 == (rd l0 x3_1)) = true := beq_iff_eq.mpr c14
          have c14b1 : (t457 != (rd l0 x3_1)) = false := bne_eq_false_iff_eq.mpr c14
          clear c14
          replace H := Option.bind_eq_some_iff.mp H
          obtain ⟨t458,A150,H⟩ := H
          replace H : (bodkinlaw05_WordForms.j1 k1 l0 x3_1 (rd l0 x3_1) t455 t456 (t458 != t456)) = some r := H
          have A15 := Aside0.mk A150
          clear A150
          have H' := Aside0.mk H
          clear H
          go_wp2_with (first | (go_at_call 15;(with_reducible refine (word_UpperOf.calls k1 t456 t457 _ A13.out).mono ?_);rintro e w' ⟨rfl,⟨nd,rfl⟩⟩) | (go_at_call 17;(with_reducible refine (word_LowerOf.calls t456 t458 _ A15.out).mono ?_);rintro e w16 ⟨rfl,hb⟩;have n0_ := Aside0.mk (below_step (by repeat (first | (with_reducible first | exact HB.out | apply below_alloc | apply pw_below_drewN | apply below_drew1) | exact HB.out)) hb);clear HB;have HB := n0_;clear n0_;(try clear hb);(try clear hb2);(try clear hk);(try clear hi)))
          go_meet
          case rel => exact ⟨_,((t458 != t456)),(by first | rfl | (simp;done) | (simp [*];done)),H',⟨by have := HK1.out;first | omega | exact Nat.le_refl _⟩,⟨by repeat (first | (with_reducible first | exact HB.out | apply below_alloc | apply pw_below_drewN | apply below_drew1) | exact HB.out)⟩⟩
         ·rw [if_neg c14] at H
          exfalso
          subst hr_
          cases k1 <;> simp [bodkinlaw05_WordForms.j1] at H
       ·rw [if_neg c11] at H
        have c11b0 : (t455 == (rd l0 x3_1)) = false := beq_eq_false_iff_ne.mpr c11
        have c11b1 : (t455 != (rd l0 x3_1)) = true := bne_iff_ne.mpr c11
        (first | rw [c11b0] | (simp only [i64_w,i32_w];rw [c11b0]) | skip)
        by_cases c17 : t456 = (rd l0 x3_1)
        ·rw [if_pos c17] at H
         have c17b0 : (t456 == (rd l0 x3_1)) = true := beq_iff_eq.mpr c17
         have c17b1 : (t456 != (rd l0 x3_1)) = false := bne_eq_false_iff_eq.mpr c17
         clear c17
         replace H := Option.bind_eq_some_iff.mp H
         obtain ⟨t459,A180,H⟩ := H
         replace H : (if t459 = (rd l0 x3_1) then ((word_UpperOf.f k1 t455).bind fun t460 => (if t460 = t455 then (bodkinlaw05_WordForms.j1 k1 l0 x3_1 (rd l0 x3_1) t455 t456 false) else (bodkinlaw05_WordForms.j1 k1 l0 x3_1 (rd l0 x3_1) t455 t456 true))) else (bodkinlaw05_WordForms.j1 k1 l0 x3_1 (rd l0 x3_1) t455 t456 true)) = some r := H
         have A18 := Aside0.mk A180
         clear A180
         by_cases c19 : t459 = (rd l0 x3_1)
         ·rw [if_pos c19] at H
          have c19b0 : (t459 == (rd l0 x3_1)) = true := beq_iff_eq.mpr c19
          have c19b1 : (t459 != (rd l0 x3_1)) = false := bne_eq_false_iff_eq.mpr c19
          clear c19
          replace H := Option.bind_eq_some_iff.mp H
          obtain ⟨t460,A200,H⟩ := H
          replace H : (if t460 = t455 then (bodkinlaw05_WordForms.j1 k1 l0 x3_1 (rd l0 x3_1) t455 t456 false) else (bodkinlaw05_WordForms.j1 k1 l0 x3_1 (rd l0 x3_1) t455 t456 true)) = some r := H
          have A20 := Aside0.mk A200
          clear A200
          by_cases c21 : t460 = t455
          ·rw [if_pos c21] at H
           have c21b0 : (t460 == t455) = true := beq_iff_eq.mpr c21
           have c21b1 : (t460 != t455) = false := bne_eq_false_iff_eq.mpr c21
           clear c21
           have H' := Aside0.mk H
           clear H
           go_wp2_with (first | (go_at_call 17;(with_reducible refine (word_LowerOf.calls t455 t459 _ A18.out).mono ?_);rintro e w22 ⟨rfl,hb⟩;have n0_ := Aside0.mk (below_step (by repeat (first | (with_reducible first | exact HB.out | apply below_alloc | apply pw_below_drewN | apply below_drew1) | exact HB.out)) hb);clear HB;have HB := n0_;clear n0_;(try clear hb);(try clear hb2);(try clear hk);(try clear hi)) | (go_at_call 15;(with_reducible refine (word_UpperOf.calls k1 t455 t460 _ A20.out).mono ?_);rintro e w' ⟨rfl,⟨nd,rfl⟩⟩))
           go_meet
           case rel => exact ⟨_,(false),(by first | rfl | (simp;done) | (simp [*];done)),H',⟨by have := HK1.out;first | omega | exact Nat.le_refl _⟩,⟨by repeat (first | (with_reducible first | exact HB.out | apply below_alloc | apply pw_below_drewN | apply below_drew1) | exact HB.out)⟩⟩
          ·rw [if_neg c21] at H
           exfalso
           subst hr_
           cases k1 <;> simp [bodkinlaw05_WordForms.j1] at H
         ·rw [if_neg c19] at H
          exfalso
          subst hr_
          cases k1 <;> simp [bodkinlaw05_WordForms.j1] at H
        ·rw [if_neg c17] at H
         exfalso
         subst hr_
         cases k1 <;> simp [bodkinlaw05_WordForms.j1] at H
      case rest =>
       clear HC9
       try clear c1
       try clear c2
       try clear p2
       try clear c3
       try clear p4
       try clear q4
       try clear hx4
       try clear c5
       try clear c5b0
       try clear c6
       try clear c6b0
       try clear c8
       try clear c11
       try clear c11b0
       try clear c11b1
       try clear c12
       try clear c12b0
       try clear c12b1
       try clear c14
       try clear c14b0
       try clear c14b1
       try clear c15
       try clear c17
       try clear c17b0
       try clear c17b1
       try clear c19
       try clear c19b0
       try clear c19b1
       try clear c21
       try clear c21b0
       try clear c21b1
       try clear hx454_0
       try clear p2
       try clear p454
       try clear q454
       obtain ⟨kq,x64_8,rfl,HA,HJ8,HB⟩ := hcut
       cases kq with
       | zero => exact absurd HA.out (by simp [bodkinlaw05_WordForms.j1])
       | succ kj8 =>
        have H := HA.out
        clear HA
        simp only [bodkinlaw05_WordForms.j1] at H
        by_cases c25 : x64_8 = true
        ·subst c25
         have H1 : (some false) = some r := by rw [if_pos rfl] at H;exact H
         clear H
         have H := H1
         clear H1
         obtain rfl := Option.some.inj H
         cases hr_
        ·replace c25 := Bool.eq_false_iff.mpr c25
         subst c25
         have H1 : ((unit_Encode.f kj8 (([t455] : List Int))).bind fun t464 => ((unit_Encode.f kj8 (([(rd l0 x3_1)] : List Int))).bind fun t468 => (if (t464.size : Int) = (t468.size : Int) then ((unit_Encode.f kj8 (([t456] : List Int))).bind fun t472 => ((unit_Encode.f kj8 (([(rd l0 x3_1)] : List Int))).bind fun t476 => (if (t472.size : Int) = (t476.size : Int) then ((word_IsWord.f kj8 t455).bind fun t477 => ((word_IsWord.f kj8 (rd l0 x3_1)).bind fun t478 => (if (t477 != t478) = true then (some false) else ((word_IsWord.f kj8 t456).bind fun t479 => ((word_IsWord.f kj8 (rd l0 x3_1)).bind fun t480 => (if (t479 != t480) = true then (some false) else (bodkinlaw05_WordForms.l0 kj8 l0 (wrap64 (x3_1 + 1))))))))) else (some false)))) else (some false)))) = some r := by rw [if_neg (show ¬ (false = true) by decide)] at H;exact H
         clear H
         have H := H1
         clear H1
         obtain ⟨y461,hy461⟩ : ∃ y_ : List Int,y_ = (([t455] : List Int)) := ⟨_,rfl⟩
         replace H : ((unit_Encode.f kj8 y461).bind fun t464 => ((unit_Encode.f kj8 (([(rd l0 x3_1)] : List Int))).bind fun t468 => (if (t464.size : Int) = (t468.size : Int) then ((unit_Encode.f kj8 (([t456] : List Int))).bind fun t472 => ((unit_Encode.f kj8 (([(rd l0 x3_1)] : List Int))).bind fun t476 => (if (t472.size : Int) = (t476.size : Int) then ((word_IsWord.f kj8 t455).bind fun t477 => ((word_IsWord.f kj8 (rd l0 x3_1)).bind fun t478 => (if (t477 != t478) = true then (some false) else ((word_IsWord.f kj8 t456).bind fun t479 => ((word_IsWord.f kj8 (rd l0 x3_1)).bind fun t480 => (if (t479 != t480) = true then (some false) else (bodkinlaw05_WordForms.l0 kj8 l0 (wrap64 (x3_1 + 1))))))))) else (some false)))) else (some false)))) = some r := by first | (rw [hy461];with_reducible exact H) | (have H2_ := (Option.bind_some _ _).symm.trans H;rw [hy461];with_reducible exact H2_) | (have H2_ := (Option.bind_some _ _).symm.trans H;with_reducible exact H2_) | with_reducible exact H | (rw [hy461];exact H) | exact H
         have Ny461 := Aside0.mk hy461
         clear hy461
         replace H := Option.bind_eq_some_iff.mp H
         obtain ⟨t464,A260,H⟩ := H
         replace H : ((unit_Encode.f kj8 (([(rd l0 x3_1)] : List Int))).bind fun t468 => (if (t464.size : Int) = (t468.size : Int) then ((unit_Encode.f kj8 (([t456] : List Int))).bind fun t472 => ((unit_Encode.f kj8 (([(rd l0 x3_1)] : List Int))).bind fun t476 => (if (t472.size : Int) = (t476.size : Int) then ((word_IsWord.f kj8 t455).bind fun t477 => ((word_IsWord.f kj8 (rd l0 x3_1)).bind fun t478 => (if (t477 != t478) = true then (some false) else ((word_IsWord.f kj8 t456).bind fun t479 => ((word_IsWord.f kj8 (rd l0 x3_1)).bind fun t480 => (if (t479 != t480) = true then (some false) else (bodkinlaw05_WordForms.l0 kj8 l0 (wrap64 (x3_1 + 1))))))))) else (some false)))) else (some false))) = some r := H
         have A26 := Aside0.mk A260
         clear A260
         obtain ⟨y465,hy465⟩ : ∃ y_ : List Int,y_ = (([(rd l0 x3_1)] : List Int)) := ⟨_,rfl⟩
         replace H : ((unit_Encode.f kj8 y465).bind fun t468 => (if (t464.size : Int) = (t468.size : Int) then ((unit_Encode.f kj8 (([t456] : List Int))).bind fun t472 => ((unit_Encode.f kj8 (([(rd l0 x3_1)] : List Int))).bind fun t476 => (if (t472.size : Int) = (t476.size : Int) then ((word_IsWord.f kj8 t455).bind fun t477 => ((word_IsWord.f kj8 (rd l0 x3_1)).bind fun t478 => (if (t477 != t478) = true then (some false) else ((word_IsWord.f kj8 t456).bind fun t479 => ((word_IsWord.f kj8 (rd l0 x3_1)).bind fun t480 => (if (t479 != t480) = true then (some false) else (bodkinlaw05_WordForms.l0 kj8 l0 (wrap64 (x3_1 + 1))))))))) else (some false)))) else (some false))) = some r := by first | (rw [hy465];with_reducible exact H) | (have H2_ := (Option.bind_some _ _).symm.trans H;rw [hy465];with_reducible exact H2_) | (have H2_ := (Option.bind_some _ _).symm.trans H;with_reducible exact H2_) | with_reducible exact H | (rw [hy465];exact H) | exact H
         have Ny465 := Aside0.mk hy465
         clear hy465
         replace H := Option.bind_eq_some_iff.mp H
         obtain ⟨t468,A270,H⟩ := H
         replace H : (if (t464.size : Int) = (t468.size : Int) then ((unit_Encode.f kj8 (([t456] : List Int))).bind fun t472 => ((unit_Encode.f kj8 (([(rd l0 x3_1)] : List Int))).bind fun t476 => (if (t472.size : Int) = (t476.size : Int) then ((word_IsWord.f kj8 t455).bind fun t477 => ((word_IsWord.f kj8 (rd l0 x3_1)).bind fun t478 => (if (t477 != t478) = true then (some false) else ((word_IsWord.f kj8 t456).bind fun t479 => ((word_IsWord.f kj8 (rd l0 x3_1)).bind fun t480 => (if (t479 != t480) = true then (some false) else (bodkinlaw05_WordForms.l0 kj8 l0 (wrap64 (x3_1 + 1))))))))) else (some false)))) else (some false)) = some r := H
         have A27 := Aside0.mk A270
         clear A270
         by_cases c28 : (t464.size : Int) = (t468.size : Int)
         ·rw [if_pos c28] at H
          have c28b0 : ((t464.size : Int) == (t468.size : Int)) = true := beq_iff_eq.mpr c28
          have c28b1 : ((t464.size : Int) != (t468.size : Int)) = false := bne_eq_false_iff_eq.mpr c28
          have c28b2 : (t464.size == t468.size) = true := by first | simpa using c28 | (simp at c28 ⊢;omega)
          clear c28
          obtain ⟨y469,hy469⟩ : ∃ y_ : List Int,y_ = (([t456] : List Int)) := ⟨_,rfl⟩
          replace H : ((unit_Encode.f kj8 y469).bind fun t472 => ((unit_Encode.f kj8 (([(rd l0 x3_1)] : List Int))).bind fun t476 => (if (t472.size : Int) = (t476.size : Int) then ((word_IsWord.f kj8 t455).bind fun t477 => ((word_IsWord.f kj8 (rd l0 x3_1)).bind fun t478 => (if (t477 != t478) = true then (some false) else ((word_IsWord.f kj8 t456).bind fun t479 => ((word_IsWord.f kj8 (rd l0 x3_1)).bind fun t480 => (if (t479 != t480) = true then (some false) else (bodkinlaw05_WordForms.l0 kj8 l0 (wrap64 (x3_1 + 1))))))))) else (some false)))) = some r := by first | (rw [hy469];with_reducible exact H) | (have H2_ := (Option.bind_some _ _).symm.trans H;rw [hy469];with_reducible exact H2_) | (have H2_ := (Option.bind_some _ _).symm.trans H;with_reducible exact H2_) | with_reducible exact H | (rw [hy469];exact H) | exact H
          have Ny469 := Aside0.mk hy469
          clear hy469
          replace H := Option.bind_eq_some_iff.mp H
          obtain ⟨t472,A290,H⟩ := H
          replace H : ((unit_Encode.f kj8 (([(rd l0 x3_1)] : List Int))).bind fun t476 => (if (t472.size : Int) = (t476.size : Int) then ((word_IsWord.f kj8 t455).bind fun t477 => ((word_IsWord.f kj8 (rd l0 x3_1)).bind fun t478 => (if (t477 != t478) = true then (some false) else ((word_IsWord.f kj8 t456).bind fun t479 => ((word_IsWord.f kj8 (rd l0 x3_1)).bind fun t480 => (if (t479 != t480) = true then (some false) else (bodkinlaw05_WordForms.l0 kj8 l0 (wrap64 (x3_1 + 1))))))))) else (some false))) = some r := H
          have A29 := Aside0.mk A290
          clear A290
          obtain ⟨y473,hy473⟩ : ∃ y_ : List Int,y_ = (([(rd l0 x3_1)] : List Int)) := ⟨_,rfl⟩
          replace H : ((unit_Encode.f kj8 y473).bind fun t476 => (if (t472.size : Int) = (t476.size : Int) then ((word_IsWord.f kj8 t455).bind fun t477 => ((word_IsWord.f kj8 (rd l0 x3_1)).bind fun t478 => (if (t477 != t478) = true then (some false) else ((word_IsWord.f kj8 t456).bind fun t479 => ((word_IsWord.f kj8 (rd l0 x3_1)).bind fun t480 => (if (t479 != t480) = true then (some false) else (bodkinlaw05_WordForms.l0 kj8 l0 (wrap64 (x3_1 + 1))))))))) else (some false))) = some r := by first | (rw [hy473];with_reducible exact H) | (have H2_ := (Option.bind_some _ _).symm.trans H;rw [hy473];with_reducible exact H2_) | (have H2_ := (Option.bind_some _ _).symm.trans H;with_reducible exact H2_) | with_reducible exact H | (rw [hy473];exact H) | exact H
          have Ny473 := Aside0.mk hy473
          clear hy473
          replace H := Option.bind_eq_some_iff.mp H
          obtain ⟨t476,A300,H⟩ := H
          replace H : (if (t472.size : Int) = (t476.size : Int) then ((word_IsWord.f kj8 t455).bind fun t477 => ((word_IsWord.f kj8 (rd l0 x3_1)).bind fun t478 => (if (t477 != t478) = true then (some false) else ((word_IsWord.f kj8 t456).bind fun t479 => ((word_IsWord.f kj8 (rd l0 x3_1)).bind fun t480 => (if (t479 != t480) = true then (some false) else (bodkinlaw05_WordForms.l0 kj8 l0 (wrap64 (x3_1 + 1))))))))) else (some false)) = some r := H
          have A30 := Aside0.mk A300
          clear A300
          by_cases c31 : (t472.size : Int) = (t476.size : Int)
          ·rw [if_pos c31] at H
           have c31b0 : ((t472.size : Int) == (t476.size : Int)) = true := beq_iff_eq.mpr c31
           have c31b1 : ((t472.size : Int) != (t476.size : Int)) = false := bne_eq_false_iff_eq.mpr c31
           have c31b2 : (t472.size == t476.size) = true := by first | simpa using c31 | (simp at c31 ⊢;omega)
           clear c31
           replace H := Option.bind_eq_some_iff.mp H
           obtain ⟨t477,A320,H⟩ := H
           replace H : ((word_IsWord.f kj8 (rd l0 x3_1)).bind fun t478 => (if (t477 != t478) = true then (some false) else ((word_IsWord.f kj8 t456).bind fun t479 => ((word_IsWord.f kj8 (rd l0 x3_1)).bind fun t480 => (if (t479 != t480) = true then (some false) else (bodkinlaw05_WordForms.l0 kj8 l0 (wrap64 (x3_1 + 1)))))))) = some r := H
           have A32 := Aside0.mk A320
           clear A320
           replace H := Option.bind_eq_some_iff.mp H
           obtain ⟨t478,A330,H⟩ := H
           replace H : (if (t477 != t478) = true then (some false) else ((word_IsWord.f kj8 t456).bind fun t479 => ((word_IsWord.f kj8 (rd l0 x3_1)).bind fun t480 => (if (t479 != t480) = true then (some false) else (bodkinlaw05_WordForms.l0 kj8 l0 (wrap64 (x3_1 + 1))))))) = some r := H
           have A33 := Aside0.mk A330
           clear A330
           by_cases c34 : (t477 != t478) = true
           ·rw [if_pos c34] at H
            have c34b0 : (t477 != t478) = true := c34
            (try (have c34b1 : decide (t477 = t478) = false := by simpa using c34))
            (try (have c34b2 : (t477 == t478) = false := by simpa using c34))
            (try (have c34b3 : ¬ (t477 = t478) := by simpa using c34))
            clear c34
            obtain rfl := Option.some.inj H
            cases hr_
           ·rw [if_neg c34] at H
            have c34b0 : (t477 != t478) = false := by simpa using c34
            (try (have c34b1 : decide (t477 = t478) = true := by simpa using c34))
            (try (have c34b2 : (t477 == t478) = true := by simpa using c34))
            clear c34
            replace H := Option.bind_eq_some_iff.mp H
            obtain ⟨t479,A530,H⟩ := H
            replace H : ((word_IsWord.f kj8 (rd l0 x3_1)).bind fun t480 => (if (t479 != t480) = true then (some false) else (bodkinlaw05_WordForms.l0 kj8 l0 (wrap64 (x3_1 + 1))))) = some r := H
            have A53 := Aside0.mk A530
            clear A530
            replace H := Option.bind_eq_some_iff.mp H
            obtain ⟨t480,A540,H⟩ := H
            replace H : (if (t479 != t480) = true then (some false) else (bodkinlaw05_WordForms.l0 kj8 l0 (wrap64 (x3_1 + 1)))) = some r := H
            have A54 := Aside0.mk A540
            clear A540
            obtain rfl : t480 = t478 := by have e1_ := A33.out;have e2_ := A54.out;rw [e1_] at e2_;exact (Option.some.inj e2_).symm
            by_cases c55 : (t479 != t480) = true
            ·rw [if_pos c55] at H
             have c55b0 : (t479 != t480) = true := c55
             (try (have c55b1 : decide (t479 = t480) = false := by simpa using c55))
             (try (have c55b2 : (t479 == t480) = false := by simpa using c55))
             (try (have c55b3 : ¬ (t479 = t480) := by simpa using c55))
             clear c55
             obtain rfl := Option.some.inj H
             cases hr_
            ·rw [if_neg c55] at H
             have c55b0 : (t479 != t480) = false := by simpa using c55
             (try (have c55b1 : decide (t479 = t480) = true := by simpa using c55))
             (try (have c55b2 : (t479 == t480) = true := by simpa using c55))
             clear c55
             have H' := Aside0.mk H
             clear H
             go_wp2_with (first | ((with_reducible refine gate_dst (N := 66) rfl ?_);(try (refine gate_guard (by rfl) ?_;dsimp only));refine Kd.R_lit (Kd.int .i32) _ 21 ?hg (N := 66) ?hd (xs := ([t455] : List Int)) (inner := [.int .i32 t455]) (ok := fun _ => True) (okp := fun _ => True) ?hr ?hp (fun _ hk => hk) trivial (Below.refl _ _) (Nat.le_refl _) (by simp) ?_;(case hd => rfl);(case hg => rfl);(case hr => first | (go_simp;done) | (go_simp;rfl));(case hp => exact (Reps.one (show Kd.M (Kd.int .i32) _ _ _ t455 [.int .i32 t455] from rfl) (Reps.none _ _)));intro v462 w76 ho77 hb hg_ hnew_;clear hg_ hnew_;(first | rw [← Ny461.out] at ho77 | (simp only [Int.reduceToNat] at ho77;rw [← Ny461.out] at ho77));have n0_ := Aside0.mk (Kd.R_lower ho77 (below_size (by repeat (first | (with_reducible first | exact HB.out | apply below_alloc | apply pw_below_drewN | apply below_drew1) | exact HB.out))));have n1_ := Aside0.mk (below_step (by repeat (first | (with_reducible first | exact HB.out | apply below_alloc | apply pw_below_drewN | apply below_drew1) | exact HB.out)) hb);clear HB;have HO463 := n0_;have HB := n1_;clear n0_ n1_;clear hb ho77;obtain ⟨Ao78,co78,eo78⟩ := Kd.R_slice HO463.out;subst eo78) | ((with_reducible refine gate_callee (f := 29) rfl ?_);refine goesL_ (some 67) rfl rfl Tryd.func29 (by kernel_rfl) rfl #[.slice Ao78 y461.length co78] rfl (by (try simp only [List.map_toArray,List.map_cons,List.map_nil]);first | done | rfl | (simp only [List.length_drop,List.length_take];rfl)) ?_;(with_reducible refine (unit_Encode.calls kj8 _ _ y461 t464 _ ?side1 ?side2 A26.out).mono ?_);(case side1 => repeat (first | exact (Kd.R_reads' HO463.out).2.2 | (with_reducible refine Kd.C_alloc ?_ _) | (with_reducible refine Kd.C_drewN ?_ _) | (with_reducible refine Kd.C_drew ?_)));(case side2 => exact (Kd.R_reads' HO463.out).2.1);rintro e w79 ⟨rfl,hb⟩;refine ⟨_,rfl,?_⟩;have n0_ := Aside0.mk (Kd.R_below (by (with_reducible repeat (first | apply Kd.R_alloc | apply Kd.R_drewN | apply Kd.R_drew));exact HO463.out) hb);have n1_ := Aside0.mk (below_step (by repeat (first | (with_reducible first | exact HB.out | apply below_alloc | apply pw_below_drewN | apply below_drew1) | exact HB.out)) hb);clear HO463;clear HB;have HO463 := n0_;have HB := n1_;clear n0_ n1_;(try clear hb);(try clear hb2);(try clear hk);(try clear hi)) | ((with_reducible refine gate_dst (N := 70) rfl ?_);(try (refine gate_guard (by rfl) ?_;dsimp only));refine Kd.R_lit (Kd.int .i32) _ 21 ?hg (N := 70) ?hd (xs := ([(rd l0 x3_1)] : List Int)) (inner := [.int .i32 (rd l0 x3_1)]) (ok := fun _ => True) (okp := fun _ => True) ?hr ?hp (fun _ hk => hk) trivial (Below.refl _ _) (Nat.le_refl _) (by simp) ?_;(case hd => rfl);(case hg => rfl);(case hr => first | (go_simp;done) | (go_simp;rfl));(case hp => exact (Reps.one (show Kd.M (Kd.int .i32) _ _ _ (rd l0 x3_1) [.int .i32 (rd l0 x3_1)] from rfl) (Reps.none _ _)));intro v466 w80 ho81 hb hg_ hnew_;clear hg_ hnew_;(first | rw [← Ny465.out] at ho81 | (simp only [Int.reduceToNat] at ho81;rw [← Ny465.out] at ho81));have n0_ := Aside0.mk (Kd.R_elder' (by (with_reducible repeat (first | apply Kd.R_alloc | apply Kd.R_drewN | apply Kd.R_drew));exact HO463.out) (Kd.R_base ho81) hb);have n1_ := Aside0.mk (Kd.R_lower (Kd.R_new' ho81 (Kd.R_lt (by (with_reducible repeat (first | apply Kd.R_alloc | apply Kd.R_drewN | apply Kd.R_drew));exact HO463.out))) (below_size (by repeat (first | (with_reducible first | exact HB.out | apply below_alloc | apply pw_below_drewN | apply below_drew1) | exact HB.out))));have n2_ := Aside0.mk (below_step (by repeat (first | (with_reducible first | exact HB.out | apply below_alloc | apply pw_below_drewN | apply below_drew1) | exact HB.out)) hb);clear HO463;clear HB;have HO463 := n0_;have HO467 := n1_;have HB := n2_;clear n0_ n1_ n2_;clear hb ho81;obtain ⟨Ao82,co82,eo82⟩ := Kd.R_slice HO467.out;subst eo82) | ((with_reducible refine gate_callee (f := 29) rfl ?_);refine goesL_ (some 71) rfl rfl Tryd.func29 (by kernel_rfl) rfl #[.slice Ao82 y465.length co82] rfl (by (try simp only [List.map_toArray,List.map_cons,List.map_nil]);first | done | rfl | (simp only [List.length_drop,List.length_take];rfl)) ?_;(with_reducible refine (unit_Encode.calls kj8 _ _ y465 t468 _ ?side1 ?side2 A27.out).mono ?_);(case side1 => repeat (first | exact (Kd.R_reads' HO467.out).2.2 | (with_reducible refine Kd.C_alloc ?_ _) | (with_reducible refine Kd.C_drewN ?_ _) | (with_reducible refine Kd.C_drew ?_)));(case side2 => exact (Kd.R_reads' HO467.out).2.1);rintro e w83 ⟨rfl,hb⟩;refine ⟨_,rfl,?_⟩;have n0_ := Aside0.mk (Kd.R_below (by (with_reducible repeat (first | apply Kd.R_alloc | apply Kd.R_drewN | apply Kd.R_drew));exact HO463.out) hb);have n1_ := Aside0.mk (Kd.R_below (by (with_reducible repeat (first | apply Kd.R_alloc | apply Kd.R_drewN | apply Kd.R_drew));exact HO467.out) hb);have n2_ := Aside0.mk (below_step (by repeat (first | (with_reducible first | exact HB.out | apply below_alloc | apply pw_below_drewN | apply below_drew1) | exact HB.out)) hb);clear HO463;clear HO467;clear HB;have HO463 := n0_;have HO467 := n1_;have HB := n2_;clear n0_ n1_ n2_;(try clear hb);(try clear hb2);(try clear hk);(try clear hi)) | ((with_reducible refine gate_dst (N := 76) rfl ?_);(try (refine gate_guard (by rfl) ?_;dsimp only));refine Kd.R_lit (Kd.int .i32) _ 21 ?hg (N := 76) ?hd (xs := ([t456] : List Int)) (inner := [.int .i32 t456]) (ok := fun _ => True) (okp := fun _ => True) ?hr ?hp (fun _ hk => hk) trivial (Below.refl _ _) (Nat.le_refl _) (by simp) ?_;(case hd => rfl);(case hg => rfl);(case hr => first | (go_simp;done) | (go_simp;rfl));(case hp => exact (Reps.one (show Kd.M (Kd.int .i32) _ _ _ t456 [.int .i32 t456] from rfl) (Reps.none _ _)));intro v470 w84 ho85 hb hg_ hnew_;clear hg_ hnew_;(first | rw [← Ny469.out] at ho85 | (simp only [Int.reduceToNat] at ho85;rw [← Ny469.out] at ho85));have n0_ := Aside0.mk (Kd.R_elder' (by (with_reducible repeat (first | apply Kd.R_alloc | apply Kd.R_drewN | apply Kd.R_drew));exact HO463.out) (Kd.R_base ho85) hb);have n1_ := Aside0.mk (Kd.R_elder' (by (with_reducible repeat (first | apply Kd.R_alloc | apply Kd.R_drewN | apply Kd.R_drew));exact HO467.out) (Kd.R_base ho85) hb);have n2_ := Aside0.mk (Kd.R_lower (Kd.R_new' (Kd.R_new' ho85 (Kd.R_lt (by (with_reducible repeat (first | apply Kd.R_alloc | apply Kd.R_drewN | apply Kd.R_drew));exact HO463.out))) (Kd.R_lt (by (with_reducible repeat (first | apply Kd.R_alloc | apply Kd.R_drewN | apply Kd.R_drew));exact HO467.out))) (below_size (by repeat (first | (with_reducible first | exact HB.out | apply below_alloc | apply pw_below_drewN | apply below_drew1) | exact HB.out))));have n3_ := Aside0.mk (below_step (by repeat (first | (with_reducible first | exact HB.out | apply below_alloc | apply pw_below_drewN | apply below_drew1) | exact HB.out)) hb);clear HO463;clear HO467;clear HB;have HO463 := n0_;have HO467 := n1_;have HO471 := n2_;have HB := n3_;clear n0_ n1_ n2_ n3_;clear hb ho85;obtain ⟨Ao86,co86,eo86⟩ := Kd.R_slice HO471.out;subst eo86) | (go_at_call 29;(with_reducible refine (unit_Encode.calls kj8 _ _ y469 t472 _ ?side1 ?side2 A29.out).mono ?_);(case side1 => repeat (first | exact (Kd.R_reads' HO471.out).2.2 | (with_reducible refine Kd.C_alloc ?_ _) | (with_reducible refine Kd.C_drewN ?_ _) | (with_reducible refine Kd.C_drew ?_)));(case side2 => exact (Kd.R_reads' HO471.out).2.1);rintro e w87 ⟨rfl,hb⟩;have n0_ := Aside0.mk (Kd.R_below (by (with_reducible repeat (first | apply Kd.R_alloc | apply Kd.R_drewN | apply Kd.R_drew));exact HO463.out) hb);have n1_ := Aside0.mk (Kd.R_below (by (with_reducible repeat (first | apply Kd.R_alloc | apply Kd.R_drewN | apply Kd.R_drew));exact HO467.out) hb);have n2_ := Aside0.mk (Kd.R_below (by (with_reducible repeat (first | apply Kd.R_alloc | apply Kd.R_drewN | apply Kd.R_drew));exact HO471.out) hb);have n3_ := Aside0.mk (below_step (by repeat (first | (with_reducible first | exact HB.out | apply below_alloc | apply pw_below_drewN | apply below_drew1) | exact HB.out)) hb);clear HO463;clear HO467;clear HO471;clear HB;have HO463 := n0_;have HO467 := n1_;have HO471 := n2_;have HB := n3_;clear n0_ n1_ n2_ n3_;(try clear hb);(try clear hb2);(try clear hk);(try clear hi)) | ((with_reducible refine gate_dst (N := 80) rfl ?_);(try (refine gate_guard (by rfl) ?_;dsimp only));refine Kd.R_lit (Kd.int .i32) _ 21 ?hg (N := 80) ?hd (xs := ([(rd l0 x3_1)] : List Int)) (inner := [.int .i32 (rd l0 x3_1)]) (ok := fun _ => True) (okp := fun _ => True) ?hr ?hp (fun _ hk => hk) trivial (Below.refl _ _) (Nat.le_refl _) (by simp) ?_;(case hd => rfl);(case hg => rfl);(case hr => first | (go_simp;done) | (go_simp;rfl));(case hp => exact (Reps.one (show Kd.M (Kd.int .i32) _ _ _ (rd l0 x3_1) [.int .i32 (rd l0 x3_1)] from rfl) (Reps.none _ _)));intro v474 w88 ho89 hb hg_ hnew_;clear hg_ hnew_;(first | rw [← Ny473.out] at ho89 | (simp only [Int.reduceToNat] at ho89;rw [← Ny473.out] at ho89));have n0_ := Aside0.mk (Kd.R_elder' (by (with_reducible repeat (first | apply Kd.R_alloc | apply Kd.R_drewN | apply Kd.R_drew));exact HO463.out) (Kd.R_base ho89) hb);have n1_ := Aside0.mk (Kd.R_elder' (by (with_reducible repeat (first | apply Kd.R_alloc | apply Kd.R_drewN | apply Kd.R_drew));exact HO467.out) (Kd.R_base ho89) hb);have n2_ := Aside0.mk (Kd.R_elder' (by (with_reducible repeat (first | apply Kd.R_alloc | apply Kd.R_drewN | apply Kd.R_drew));exact HO471.out) (Kd.R_base ho89) hb);have n3_ := Aside0.mk (Kd.R_lower (Kd.R_new' (Kd.R_new' (Kd.R_new' ho89 (Kd.R_lt (by (with_reducible repeat (first | apply Kd.R_alloc | apply Kd.R_drewN | apply Kd.R_drew));exact HO463.out))) (Kd.R_lt (by (with_reducible repeat (first | apply Kd.R_alloc | apply Kd.R_drewN | apply Kd.R_drew));exact HO467.out))) (Kd.R_lt (by (with_reducible repeat (first | apply Kd.R_alloc | apply Kd.R_drewN | apply Kd.R_drew));exact HO471.out))) (below_size (by repeat (first | (with_reducible first | exact HB.out | apply below_alloc | apply pw_below_drewN | apply below_drew1) | exact HB.out))));have n4_ := Aside0.mk (below_step (by repeat (first | (with_reducible first | exact HB.out | apply below_alloc | apply pw_below_drewN | apply below_drew1) | exact HB.out)) hb);clear HO463;clear HO467;clear HO471;clear HB;have HO463 := n0_;have HO467 := n1_;have HO471 := n2_;have HO475 := n3_;have HB := n4_;clear n0_ n1_ n2_ n3_ n4_;clear hb ho89;obtain ⟨Ao90,co90,eo90⟩ := Kd.R_slice HO475.out;subst eo90) | (go_at_call 29;(with_reducible refine (unit_Encode.calls kj8 _ _ y473 t476 _ ?side1 ?side2 A30.out).mono ?_);(case side1 => repeat (first | exact (Kd.R_reads' HO475.out).2.2 | (with_reducible refine Kd.C_alloc ?_ _) | (with_reducible refine Kd.C_drewN ?_ _) | (with_reducible refine Kd.C_drew ?_)));(case side2 => exact (Kd.R_reads' HO475.out).2.1);rintro e w91 ⟨rfl,hb⟩;have n0_ := Aside0.mk (Kd.R_below (by (with_reducible repeat (first | apply Kd.R_alloc | apply Kd.R_drewN | apply Kd.R_drew));exact HO463.out) hb);have n1_ := Aside0.mk (Kd.R_below (by (with_reducible repeat (first | apply Kd.R_alloc | apply Kd.R_drewN | apply Kd.R_drew));exact HO467.out) hb);have n2_ := Aside0.mk (Kd.R_below (by (with_reducible repeat (first | apply Kd.R_alloc | apply Kd.R_drewN | apply Kd.R_drew));exact HO471.out) hb);have n3_ := Aside0.mk (Kd.R_below (by (with_reducible repeat (first | apply Kd.R_alloc | apply Kd.R_drewN | apply Kd.R_drew));exact HO475.out) hb);have n4_ := Aside0.mk (below_step (by repeat (first | (with_reducible first | exact HB.out | apply below_alloc | apply pw_below_drewN | apply below_drew1) | exact HB.out)) hb);clear HO463;clear HO467;clear HO471;clear HO475;clear HB;have HO463 := n0_;have HO467 := n1_;have HO471 := n2_;have HO475 := n3_;have HB := n4_;clear n0_ n1_ n2_ n3_ n4_;(try clear hb);(try clear hb2);(try clear hk);(try clear hi)) | (go_at_call 13;(with_reducible refine (word_IsWord.calls kj8 t455 t477 _ A32.out).mono ?_);rintro e w92 ⟨rfl,hb⟩;have n0_ := Aside0.mk (Kd.R_below (by (with_reducible repeat (first | apply Kd.R_alloc | apply Kd.R_drewN | apply Kd.R_drew));exact HO463.out) hb);have n1_ := Aside0.mk (Kd.R_below (by (with_reducible repeat (first | apply Kd.R_alloc | apply Kd.R_drewN | apply Kd.R_drew));exact HO467.out) hb);have n2_ := Aside0.mk (Kd.R_below (by (with_reducible repeat (first | apply Kd.R_alloc | apply Kd.R_drewN | apply Kd.R_drew));exact HO471.out) hb);have n3_ := Aside0.mk (Kd.R_below (by (with_reducible repeat (first | apply Kd.R_alloc | apply Kd.R_drewN | apply Kd.R_drew));exact HO475.out) hb);have n4_ := Aside0.mk (below_step (by repeat (first | (with_reducible first | exact HB.out | apply below_alloc | apply pw_below_drewN | apply below_drew1) | exact HB.out)) hb);clear HO463;clear HO467;clear HO471;clear HO475;clear HB;have HO463 := n0_;have HO467 := n1_;have HO471 := n2_;have HO475 := n3_;have HB := n4_;clear n0_ n1_ n2_ n3_ n4_;(try clear hb);(try clear hb2);(try clear hk);(try clear hi)) | (go_at_call 13;(with_reducible refine (word_IsWord.calls kj8 (rd l0 x3_1) t478 _ A33.out).mono ?_);rintro e w93 ⟨rfl,hb⟩;have n0_ := Aside0.mk (Kd.R_below (by (with_reducible repeat (first | apply Kd.R_alloc | apply Kd.R_drewN | apply Kd.R_drew));exact HO463.out) hb);have n1_ := Aside0.mk (Kd.R_below (by (with_reducible repeat (first | apply Kd.R_alloc | apply Kd.R_drewN | apply Kd.R_drew));exact HO467.out) hb);have n2_ := Aside0.mk (Kd.R_below (by (with_reducible repeat (first | apply Kd.R_alloc | apply Kd.R_drewN | apply Kd.R_drew));exact HO471.out) hb);have n3_ := Aside0.mk (Kd.R_below (by (with_reducible repeat (first | apply Kd.R_alloc | apply Kd.R_drewN | apply Kd.R_drew));exact HO475.out) hb);have n4_ := Aside0.mk (below_step (by repeat (first | (with_reducible first | exact HB.out | apply below_alloc | apply pw_below_drewN | apply below_drew1) | exact HB.out)) hb);clear HO463;clear HO467;clear HO471;clear HO475;clear HB;have HO463 := n0_;have HO467 := n1_;have HO471 := n2_;have HO475 := n3_;have HB := n4_;clear n0_ n1_ n2_ n3_ n4_;(try clear hb);(try clear hb2);(try clear hk);(try clear hi)) | (go_at_call 13;(with_reducible refine (word_IsWord.calls kj8 t456 t479 _ A53.out).mono ?_);rintro e w94 ⟨rfl,hb⟩;have n0_ := Aside0.mk (Kd.R_below (by (with_reducible repeat (first | apply Kd.R_alloc | apply Kd.R_drewN | apply Kd.R_drew));exact HO463.out) hb);have n1_ := Aside0.mk (Kd.R_below (by (with_reducible repeat (first | apply Kd.R_alloc | apply Kd.R_drewN | apply Kd.R_drew));exact HO467.out) hb);have n2_ := Aside0.mk (Kd.R_below (by (with_reducible repeat (first | apply Kd.R_alloc | apply Kd.R_drewN | apply Kd.R_drew));exact HO471.out) hb);have n3_ := Aside0.mk (Kd.R_below (by (with_reducible repeat (first | apply Kd.R_alloc | apply Kd.R_drewN | apply Kd.R_drew));exact HO475.out) hb);have n4_ := Aside0.mk (below_step (by repeat (first | (with_reducible first | exact HB.out | apply below_alloc | apply pw_below_drewN | apply below_drew1) | exact HB.out)) hb);clear HO463;clear HO467;clear HO471;clear HO475;clear HB;have HO463 := n0_;have HO467 := n1_;have HO471 := n2_;have HO475 := n3_;have HB := n4_;clear n0_ n1_ n2_ n3_ n4_;(try clear hb);(try clear hb2);(try clear hk);(try clear hi)) | (go_at_call 13;(with_reducible refine (word_IsWord.calls kj8 (rd l0 x3_1) t480 _ A54.out).mono ?_);rintro e w95 ⟨rfl,hb⟩;have n0_ := Aside0.mk (Kd.R_below (by (with_reducible repeat (first | apply Kd.R_alloc | apply Kd.R_drewN | apply Kd.R_drew));exact HO463.out) hb);have n1_ := Aside0.mk (Kd.R_below (by (with_reducible repeat (first | apply Kd.R_alloc | apply Kd.R_drewN | apply Kd.R_drew));exact HO467.out) hb);have n2_ := Aside0.mk (Kd.R_below (by (with_reducible repeat (first | apply Kd.R_alloc | apply Kd.R_drewN | apply Kd.R_drew));exact HO471.out) hb);have n3_ := Aside0.mk (Kd.R_below (by (with_reducible repeat (first | apply Kd.R_alloc | apply Kd.R_drewN | apply Kd.R_drew));exact HO475.out) hb);have n4_ := Aside0.mk (below_step (by repeat (first | (with_reducible first | exact HB.out | apply below_alloc | apply pw_below_drewN | apply below_drew1) | exact HB.out)) hb);clear HO463;clear HO467;clear HO471;clear HO475;clear HB;have HO463 := n0_;have HO467 := n1_;have HO471 := n2_;have HO475 := n3_;have HB := n4_;clear n0_ n1_ n2_ n3_ n4_;(try clear hb);(try clear hb2);(try clear hk);(try clear hi)))
             go_roundg kj8
             case measure => have := HK1.out;have := HJ8.out;omega
             case rel => exact ⟨(wrap64 (x3_1 + 1)),(by first | rfl | (simp;done) | (simp [*];done)),H',⟨by have := HK1.out;have := HJ8.out;omega⟩,⟨by repeat (first | (with_reducible first | exact HB.out | apply below_alloc | apply pw_below_drewN | apply below_drew1) | exact HB.out)⟩⟩
          ·rw [if_neg c31] at H
           have c31b0 : ((t472.size : Int) == (t476.size : Int)) = false := beq_eq_false_iff_ne.mpr c31
           have c31b1 : ((t472.size : Int) != (t476.size : Int)) = true := bne_iff_ne.mpr c31
           have c31b2 : (t472.size == t476.size) = false := by first | simpa using c31 | (simp at c31 ⊢;omega)
           obtain rfl := Option.some.inj H
           cases hr_
         ·rw [if_neg c28] at H
          have c28b0 : ((t464.size : Int) == (t468.size : Int)) = false := beq_eq_false_iff_ne.mpr c28
          have c28b1 : ((t464.size : Int) != (t468.size : Int)) = true := bne_iff_ne.mpr c28
          have c28b2 : (t464.size == t468.size) = false := by first | simpa using c28 | (simp at c28 ⊢;omega)
          obtain rfl := Option.some.inj H
          cases hr_
     ·rw [if_neg c6] at H
      exact absurd H (by simp)
    ·rw [if_neg c5] at H
     have c5b0 : decide (x3_1 < (l0.length : Int)) = false := decide_eq_false c5
     clear c5
     obtain rfl := Option.some.inj H
     go_wp2
     go_ret
     exact ⟨by first | rfl | (simp [errW_none,errW_some] <;> rfl) | (simp [*,errW_none,errW_some] <;> rfl),by repeat (first | (with_reducible first | exact HB.out | apply below_alloc | apply pw_below_drewN | apply below_drew1) | exact HB.out)⟩
 ·replace c3 := Bool.eq_false_iff.mpr c3
  subst c3
  have H1 : (some false) = some r := by rw [if_neg (show ¬ (false = true) by decide)] at H;exact H
  clear H
  have H := H1
  clear H1
  obtain rfl := Option.some.inj H
  cases hr_
end Go.Proofs.YtkficbgnjpekaaaDoor.U
end
section
namespace Go.Proofs.YtkficbgnjpekaaaDoor.Pu
open Go Go.RowKit Go.Proofs.YtkficbgnjpekaaaDoor.Mu Go.Proofs.YtkficbgnjpekaaaDoor.U Go.Proofs.YtkficbgnjpekaaaDoorW.PrintWords Go.Proofs.YtkficbgnjpekaaaDoorW.PrintLast Go.Proofs.YtkficbgnjpekaaaDoorW.PrintMore
theorem awake_ans : Ev (fun k => bodkinlaw05_awake.f k) true := Ev.of (fun k => bodkinlaw05_awake.mono k) (k := 200) (by kernel_rfl)
end Go.Proofs.YtkficbgnjpekaaaDoor.Pu
end
section
namespace Go.Proofs.YtkficbgnjpekaaaDoor.Pu
open Go Go.RowKit Go.Proofs.YtkficbgnjpekaaaDoor.Mu Go.Proofs.YtkficbgnjpekaaaDoor.U Go.Proofs.YtkficbgnjpekaaaDoorW.PrintWords Go.Proofs.YtkficbgnjpekaaaDoorW.PrintLast Go.Proofs.YtkficbgnjpekaaaDoorW.PrintMore
set_option linter.unusedVariables false
set_option linter.unusedSimpArgs false
def casL : List S55 := match bodkinref05_Pairs.f 200 with | some l => l | none => []
def casesOk : Bool := casL.all fun p => decide (upC p.f0 = p.f1) && decide (lowC p.f1 = p.f0)
def restOk : Bool := (List.range 1300).all fun n => (decide (upC (n : Int) = n) || casL.any (fun p => decide (p.f0 = n))) && (decide (lowC (n : Int) = n) || casL.any (fun p => decide (p.f1 = n)))
theorem cases_ok : casesOk = true := by kernel_rfl
theorem rest_ok : restOk = true := by kernel_rfl
theorem upC_far (c : Int) (h : c < 0 ∨ 1300 ≤ c) : upC c = c := by
 have e3 : runB c = false := by unfold runB;rw [decide_eq_false_iff_not];omega
 have o1 : oddB c 257 311 = false := by unfold oddB;rw [decide_eq_false_iff_not];omega
 have o2 : oddB c 331 375 = false := by unfold oddB;rw [decide_eq_false_iff_not];omega
 have o3 : oddB c 1121 1153 = false := by unfold oddB;rw [decide_eq_false_iff_not];omega
 unfold upC low3
 rw [e3,if_neg (by simp)]
 unfold low2
 rw [if_neg (by rw [decide_eq_true_iff];omega),if_neg (by omega)]
 unfold low1
 rw [o1,Bool.and_false,if_neg (by simp),o2,if_neg (by simp),o3,if_neg (by simp)]
theorem lowC_far (c : Int) (h : c < 0 ∨ 1300 ≤ c) : lowC c = c := by
 have hn : ∀ f r,lowTry c f r = r := fun f r => by unfold lowTry;rw [if_neg (by omega)]
 unfold lowC
 rw [if_neg (by omega),hn,hn,hn]
theorem up_of (p : S55) (h : p ∈ casL) : upC p.f0 = p.f1 ∧ lowC p.f1 = p.f0 := by
 have := List.all_eq_true.1 cases_ok p h
 simp only [Bool.and_eq_true,decide_eq_true_eq] at this
 exact this
theorem rest_of (c : Int) : (upC c = c ∨ ∃ p ∈ casL,p.f0 = c) ∧ (lowC c = c ∨ ∃ p ∈ casL,p.f1 = c) := by
 by_cases h : c < 0 ∨ 1300 ≤ c
 ·exact ⟨.inl (upC_far c h),.inl (lowC_far c h)⟩
 ·have := List.all_eq_true.1 rest_ok c.toNat (List.mem_range.2 (by omega))
  have e : ((c.toNat : Nat) : Int) = c := by omega
  rw [e] at this
  simp only [Bool.and_eq_true,Bool.or_eq_true,decide_eq_true_eq,List.any_eq_true] at this
  exact this
theorem upper_ev (c : Int) : Ev (fun k => word_UpperOf.f k c) (upC c) := Ev.of (fun k => word_UpperOf.mono _ k) (upper7 c)
end Go.Proofs.YtkficbgnjpekaaaDoor.Pu
end
