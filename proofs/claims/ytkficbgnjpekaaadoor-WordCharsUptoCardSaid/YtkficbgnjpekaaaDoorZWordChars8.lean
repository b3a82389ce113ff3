/- What the law WordChars reaches of this seat's own texts, merged; what nothing uses is left out. -/
import Derived.Test.YtkficbgnjpekaaaDoorProg
import Derived.Below
import Derived.Deep.Draws
import Derived.Deep.AppendLies
import Derived.Maps.AppendAt
import Derived.OwnWalk
import Derived.Laws.BytesArg
import Derived.Laws.MakeOwn
import Derived.Laws.OwnMore
import Derived.Deep.OwnRows
import Derived.Tactics
import Derived.Lib.ConvBytes
import Derived.Laws.Slices
import Derived.WalkKit
import Derived.KernelRfl
import Derived.RowKit3
import Derived.Deep.LoopGhost
import Derived.Deep.QuietTactic
import Derived.BigQuiet
import Derived.WideLaws
import Derived.Deep.DeepCutAuto
import Derived.Deep.CutBlock
import Derived.Deep.RegionHeld3
import Derived.Laws.Rows
import Derived.Lib.AppendStr
import Derived.ArgAppend
import Derived.Laws.IdiomCopy
import Derived.OrdersHeld
import Derived.Laws.BitsLemmas
import Derived.RowKit
import Derived.Shelf.Small.Utf8
import Derived.Shelf.Utf8.AppendRunePlain
import Derived.Shelf.Strings.Prefix
import Derived.Shelf.Unicode.Decode
import Derived.Shelf.Unicode.DecodeSlow
import Derived.Shelf.Unicode.DecodeAny
import Derived.Lib.LaidU8
import Derived.RangeFuncNested
import Derived.RangeFuncBound
import Derived.RangeFuncCalls
import Derived.RangeFuncLeaves
import Derived.Lib.DecodeN
import Derived.Lib.MapLaws
import Derived.Laws.DeepStrings4
import Derived.Shelf.Unicode.DecodeLastEight
import Derived.Shelf.Abstract
import Derived.Shelf.RegionOpen
import Derived.OwnWalkIn
import Derived.TacticsInMore
import Derived.LoopNIn
import Derived.LoopIn
import Derived.Lib.Hide
import Derived.Great.BuildSlice
import Derived.Great.Walk
import Derived.Deep.WholeRow
import Derived.Sort.BigQuietIn
import Derived.Sort.CutIn
import Derived.Lib.Bytes
import Derived.Maps.Own
import Derived.Maps.OwnOps
import Derived.Maps.Views
import Derived.Test.YtkficbgnjpekaaaDoorRows
import Derived.ProofKit
import Derived.Deep.DeepHandedRow
import Derived.LaidMore
import Derived.Lay
import Derived.Test.YtkficbgnjpekaaaDoorWWords
import Derived.Test.YtkficbgnjpekaaaDoorWLast
import Derived.Test.YtkficbgnjpekaaaDoorWTab
import Derived.Test.YtkficbgnjpekaaaDoorWQPut
import Derived.Test.YtkficbgnjpekaaaDoorWApart
import Derived.Test.YtkficbgnjpekaaaDoorWArr
import Derived.Test.YtkficbgnjpekaaaDoorWZeros
import Derived.Test.YtkficbgnjpekaaaDoorWFoot
import Derived.Test.YtkficbgnjpekaaaDoorWKept
import Derived.Test.YtkficbgnjpekaaaDoorWShare
import Derived.Test.YtkficbgnjpekaaaDoorWN
import Derived.Test.YtkficbgnjpekaaaDoorWEqStruct
import Derived.Test.YtkficbgnjpekaaaDoorWRepsOne
import Derived.Test.YtkficbgnjpekaaaDoorWInv
import Derived.Test.YtkficbgnjpekaaaDoorWGuard
import Derived.Test.YtkficbgnjpekaaaDoorWNEv
import Derived.Test.YtkficbgnjpekaaaDoorWMore
import Derived.Test.YtkficbgnjpekaaaDoorWSized
import Derived.Test.YtkficbgnjpekaaaDoorZWordChars0
import Derived.Test.YtkficbgnjpekaaaDoorZWordChars1
import Derived.Test.YtkficbgnjpekaaaDoorZWordChars2
import Derived.Test.YtkficbgnjpekaaaDoorZWordChars4
import Derived.Test.YtkficbgnjpekaaaDoorZWordChars5
import Derived.Test.YtkficbgnjpekaaaDoorZWordChars7
section
namespace Go.Proofs.YtkficbgnjpekaaaDoor.U
open Go.RowKit Go.Proofs.YtkficbgnjpekaaaDoorW.PrintWords Go.Proofs.YtkficbgnjpekaaaDoorW.PrintLast Go.Proofs.YtkficbgnjpekaaaDoorW.PrintMore
attribute [local go_sem] max2_int min2_int max_two min_two max_three min_three max_four min_four   -- for this text's walks alone
set_option linter.unusedVariables false
set_option linter.unusedSimpArgs false
attribute [local go_sem high] eqA32
def word_Ahead.l0 : Nat → ByteArray → Int → List (S32) → Int → Int → Option (Int)
 | 0,_,_,_,_,_ => none
 | k + 1,x0,x1,x13,x14,x15 => if x15 < x14 then (if 0 ≤ x15 then (if x15 < (x13.length : Int) then (if ((rd_T32 x13 x15).f1) > x1 then (some ((rd_T32 x13 x15).f1)) else (word_Ahead.l0 k x0 x1 x13 x14 (wrap64 (x15 + 1)))) else (none)) else (none)) else (some (x0.size : Int))
def word_Ahead.f (k : Nat) (a0 : ByteArray) (a1 : Int) : Option (Int) := (word_Spans.f a0).bind fun t101 => (word_Ahead.l0 k a0 (mn (mx a1 0) (a0.size : Int)) t101 (t101.length : Int) 0)
theorem word_Ahead.mono_l : ∀ k,(∀ y0 y1 y2 y3 y4,LeO (word_Ahead.l0 k y0 y1 y2 y3 y4) (word_Ahead.l0 (k + 1) y0 y1 y2 y3 y4))
 | 0 => fun _ _ _ _ _ r h => by simp [word_Ahead.l0] at h
 | k + 1 => by
  have ih0 := word_Ahead.mono_l k
  ·intro y0 y1 y2 y3 y4
   unfold word_Ahead.l0
   repeat' first
   | (with_reducible exact ih0 _ _ _ _ _)
   | (with_reducible exact LeO.refl _)
   | (with_reducible exact LeO.none _)
   | (with_reducible refine LeO.ite ?_ ?_)
   | (with_reducible refine LeO.bind ?_ (fun _ => ?_))
   | exact ih0 _ _ _ _ _
   | exact LeO.none _
   | refine LeO.ite ?_ ?_
   | refine LeO.bind ?_ (fun _ => ?_)
theorem word_Ahead.mono : ∀ a0 a1 k,LeO (word_Ahead.f k a0 a1) (word_Ahead.f (k + 1) a0 a1) := by
 intro a0 a1 k
 have ih0 := word_Ahead.mono_l k
 unfold word_Ahead.f
 repeat' first
   | (with_reducible exact ih0 _ _ _ _ _)
   | (with_reducible exact LeO.refl _)
   | (with_reducible exact LeO.none _)
   | (with_reducible refine LeO.ite ?_ ?_)
   | (with_reducible refine LeO.bind ?_ (fun _ => ?_))
   | exact ih0 _ _ _ _ _
   | exact LeO.none _
   | refine LeO.ite ?_ ?_
   | refine LeO.bind ?_ (fun _ => ?_)
set_option maxHeartbeats 8000000 in
set_option maxRecDepth 100000 in
theorem word_Ahead.calls (k : Nat) (a0 : ByteArray) (a1 : Int) (r : Int) (w : World) (hT : Lib.Utf8Tabs 0 1 w) (h : word_Ahead.f k a0 a1 = some r) :
  Calls Tryd.prog 22 #[.string a0,.int .i64 a1] w fun e w' => e = .returned (.int .i64 r) ∧ Below w.heap.size w w' := by
 have hu32 := Tryd.underlying32
 have HT := Aside0.mk hT
 clear hT
 have HB := Aside0.mk (Below.refl w.heap.size w)
 have H : ((word_Spans.f a0).bind fun t101 => (word_Ahead.l0 k a0 (mn (mx a1 0) (a0.size : Int)) t101 (t101.length : Int) 0)) = some r := h
 clear h
 obtain ⟨ji3,hji3⟩ : ∃ j_ : Int,(mx a1 0) = j_ := ⟨_,rfl⟩
 replace H : ((word_Spans.f a0).bind fun t101 => (word_Ahead.l0 k a0 (mn (ji3) (a0.size : Int)) t101 (t101.length : Int) 0)) = some r := by first | (rw [hji3] at H;exact H) | (simp only [hji3] at H ⊢;exact H)
 (try (have hji3l : 0 ≤ ji3 := by (rw [← hji3];unfold mx;(repeat' split) <;> omega)))
 (try (have hji3m : 0 ≤ ji3 := by omega))
 have hji3_ : (if a1 < 0 then 0 else a1) = ji3 := hji3
 obtain ⟨ji4,hji4⟩ : ∃ j_ : Int,(mn (ji3) (a0.size : Int)) = j_ := ⟨_,rfl⟩
 replace H : ((word_Spans.f a0).bind fun t101 => (word_Ahead.l0 k a0 ji4 t101 (t101.length : Int) 0)) = some r := by first | (rw [hji4] at H;exact H) | (simp only [hji4] at H ⊢;exact H)
 have hji4_ : (if (a0.size : Int) < (ji3) then (a0.size : Int) else (ji3)) = ji4 := hji4
 replace H := Option.bind_eq_some_iff.mp H
 obtain ⟨t101,A50,H⟩ := H
 replace H : (word_Ahead.l0 k a0 ji4 t101 (t101.length : Int) 0) = some r := H
 have A5 := Aside0.mk A50
 clear A50
 have H' := Aside0.mk H
 clear H
 go_enter Tryd.func22,Tryd.ntmps22
 go_wp2_with (first | ((with_reducible refine gate_callee (f := 20) rfl ?_);refine goesL_ (some 13) rfl rfl Tryd.func20 (by kernel_rfl) rfl #[.string a0] rfl (by (try simp only [List.map_toArray,List.map_cons,List.map_nil]);first | done | rfl | (simp only [List.length_drop,List.length_take];rfl)) ?_;(with_reducible refine (word_Spans.calls a0 t101 _ ?side1 A5.out).mono ?_);(case side1 => exact tabs_below HT.out (by repeat (first | (with_reducible first | exact HB.out | apply below_alloc | apply pw_below_drewN | apply below_drew1) | exact HB.out)));rintro e w6 ⟨v102,rfl,ho0,hb⟩;refine ⟨_,rfl,?_⟩;have n0_ := Aside0.mk (Kd.R_lower ho0 (below_size (by repeat (first | (with_reducible first | exact HB.out | apply below_alloc | apply pw_below_drewN | apply below_drew1) | exact HB.out))));have n1_ := Aside0.mk (below_step (by repeat (first | (with_reducible first | exact HB.out | apply below_alloc | apply pw_below_drewN | apply below_drew1) | exact HB.out)) hb);clear HB;have HO103 := n0_;have HB := n1_;clear n0_ n1_;(try clear hb);(try clear hb2);(try clear hk);(try clear hi);(try clear ho0);obtain ⟨Ao7,co7,eo7⟩ := Kd.R_slice HO103.out;subst eo7))
 go_loopg [15] k (fun kq v15 w' => ∃ (x15_1 : Int),v15 = .int .i64 x15_1 ∧ Aside0 (word_Ahead.l0 kq a0 ji4 t101 (t101.length : Int) x15_1 = some r) ∧ Aside0 (kq ≤ k) ∧ Aside0 (Kd.R k32 32 w' w.heap.size (fun _ => True) (.slice Ao7 t101.length co7) t101) ∧ Aside0 (Below w.heap.size w w'))
 case atStart => exact ⟨(0),(by first | rfl | (simp;done) | (simp [*];done)),H',⟨Nat.le_refl _⟩,⟨by (with_reducible repeat (first | apply Kd.R_alloc | apply Kd.R_drewN | apply Kd.R_drew));exact HO103.out⟩,⟨by repeat (first | (with_reducible first | exact HB.out | apply below_alloc | apply pw_below_drewN | apply below_drew1) | exact HB.out)⟩⟩
 case round =>
  clear H'
  try clear c2
  try clear p2
  obtain ⟨x15_1,rfl,HA,HK1,HO_13,HB⟩ := hrel
  cases gk with
  | zero => exact absurd HA.out (by simp [word_Ahead.l0])
  | succ k1 =>
   have H := HA.out
   clear HA
   simp only [word_Ahead.l0] at H
   by_cases c8 : x15_1 < (t101.length : Int)
   ·rw [if_pos c8] at H
    have c8b0 : decide (x15_1 < (t101.length : Int)) = true := decide_eq_true c8
    clear c8
    by_cases c9 : 0 ≤ x15_1
    ·rw [if_pos c9] at H
     have c9b0 : decide (0 ≤ x15_1) = true := decide_eq_true c9
     clear c9
     by_cases c10 : x15_1 < (t101.length : Int)
     ·rw [if_pos c10] at H
      have c10b0 : decide (x15_1 < (t101.length : Int)) = true := decide_eq_true c10
      clear c10
      by_cases c11 : ((rd_T32 t101 x15_1).f1) > ji4
      ·rw [if_pos c11] at H
       have c11b0 : decide (ji4 < ((rd_T32 t101 x15_1).f1)) = true := decide_eq_true c11
       clear c11
       obtain rfl := Option.some.inj H
       have p104 : 0 ≤ (x15_1 : Int) := of_decide_eq_true (by first | (with_reducible assumption) | assumption)
       have q104 : x15_1 < (t101.length : Int) := of_decide_eq_true (by first | (with_reducible assumption) | assumption)
       obtain ⟨ad104,e104,hx104_0,hx104_1⟩ := at_T32 (Kd.R_reads' HO_13.out).2.2 x15_1 p104 q104
       cases e104
       replace p104 := eq_true p104
       replace q104 := eq_true q104
       go_wp2_with (first | ((with_reducible refine gate_dst (N := 6) rfl ?_);refine box_event ?hg (N := 6) ?hd (cs := #[.int .i64 0,.int .i64 0]) (t := 32) ?hr ?_;(case hd => rfl);(case hg => rfl);(case hr => first | (go_simp;done) | (go_simp;rfl));intro gb105 hg w12 hbox hb;have n0_ := Aside0.mk (Kd.R_below (Kd.R_elderB (by (with_reducible repeat (first | apply Kd.R_alloc | apply Kd.R_drewN | apply Kd.R_drew));exact HO_13.out) gb105 (Nat.le_of_eq hg.symm)) hb);have n1_ := Aside0.mk (below_step (by repeat (first | (with_reducible first | exact HB.out | apply below_alloc | apply pw_below_drewN | apply below_drew1) | exact HB.out)) hb);have n2_ := Aside0.mk (hbox);have n3_ := Aside0.mk ((by rw [hg];exact (below_size (by repeat (first | (with_reducible first | exact HB.out | apply below_alloc | apply pw_below_drewN | apply below_drew1) | exact HB.out))) : w.heap.size ≤ gb105));have n4_ := Aside0.mk ((by rw [hg];exact (below_size (by repeat (first | (with_reducible first | exact HB.out | apply below_alloc | apply pw_below_drewN | apply below_drew1) | exact HB.out))) : w.heap.size ≤ gb105));clear HO_13;clear HB;have HO_13 := n0_;have HB := n1_;have BK105 := n2_;have GW105 := n3_;have GE105 := n4_;clear n0_ n1_ n2_ n3_ n4_;clear hb hbox hg;have hcz13_0 : w12.cell? ⟨gb105,0,none⟩ = some (.int .i64 0) := (blk_cell BK105.out 0).trans rfl;have hcz13_1 : w12.cell? ⟨gb105,1,none⟩ = some (.int .i64 0) := (blk_cell BK105.out 1).trans rfl;have hfz13_0 := blk_frozen BK105.out 0;have hfz13_1 := blk_frozen BK105.out 1))
       go_ret
       exact ⟨by first | rfl | (simp [errW_none,errW_some] <;> rfl) | (simp only [← hji3,← hji4];first | rfl | (simp [errW_none,errW_some] <;> rfl)) | (simp [*,errW_none,errW_some] <;> rfl),by repeat (first | (with_reducible first | exact HB.out | apply below_alloc | apply pw_below_drewN | apply below_drew1 | refine below_set ?_ GE105.out) | exact HB.out)⟩
      ·rw [if_neg c11] at H
       have c11b0 : decide (ji4 < ((rd_T32 t101 x15_1).f1)) = false := decide_eq_false c11
       clear c11
       have H' := Aside0.mk H
       clear H
       have p104 : 0 ≤ (x15_1 : Int) := of_decide_eq_true (by first | (with_reducible assumption) | assumption)
       have q104 : x15_1 < (t101.length : Int) := of_decide_eq_true (by first | (with_reducible assumption) | assumption)
       obtain ⟨ad104,e104,hx104_0,hx104_1⟩ := at_T32 (Kd.R_reads' HO_13.out).2.2 x15_1 p104 q104
       cases e104
       replace p104 := eq_true p104
       replace q104 := eq_true q104
       go_wp2_with (first | ((with_reducible refine gate_dst (N := 6) rfl ?_);refine box_event ?hg (N := 6) ?hd (cs := #[.int .i64 0,.int .i64 0]) (t := 32) ?hr ?_;(case hd => rfl);(case hg => rfl);(case hr => first | (go_simp;done) | (go_simp;rfl));intro gb105 hg w14 hbox hb;have n0_ := Aside0.mk (Kd.R_below (Kd.R_elderB (by (with_reducible repeat (first | apply Kd.R_alloc | apply Kd.R_drewN | apply Kd.R_drew));exact HO_13.out) gb105 (Nat.le_of_eq hg.symm)) hb);have n1_ := Aside0.mk (below_step (by repeat (first | (with_reducible first | exact HB.out | apply below_alloc | apply pw_below_drewN | apply below_drew1) | exact HB.out)) hb);have n2_ := Aside0.mk (hbox);have n3_ := Aside0.mk ((by rw [hg];exact (below_size (by repeat (first | (with_reducible first | exact HB.out | apply below_alloc | apply pw_below_drewN | apply below_drew1) | exact HB.out))) : w.heap.size ≤ gb105));have n4_ := Aside0.mk ((by rw [hg];exact (below_size (by repeat (first | (with_reducible first | exact HB.out | apply below_alloc | apply pw_below_drewN | apply below_drew1) | exact HB.out))) : w.heap.size ≤ gb105));clear HO_13;clear HB;have HO_13 := n0_;have HB := n1_;have BK105 := n2_;have GW105 := n3_;have GE105 := n4_;clear n0_ n1_ n2_ n3_ n4_;clear hb hbox hg;have hcz15_0 : w14.cell? ⟨gb105,0,none⟩ = some (.int .i64 0) := (blk_cell BK105.out 0).trans rfl;have hcz15_1 : w14.cell? ⟨gb105,1,none⟩ = some (.int .i64 0) := (blk_cell BK105.out 1).trans rfl;have hfz15_0 := blk_frozen BK105.out 0;have hfz15_1 := blk_frozen BK105.out 1))
       go_roundg k1
       case measure => have := HK1.out;omega
       case rel => exact ⟨(wrap64 (x15_1 + 1)),(by first | rfl | (simp;done) | (simp [*];done)),H',⟨by have := HK1.out;omega⟩,⟨by (with_reducible repeat (first | apply Kd.R_alloc | apply Kd.R_drewN | apply Kd.R_drew));exact Kd.R_mono (Kd.R_far (p := ⟨gb105,1,none⟩) (Kd.R_far (p := ⟨gb105,0,none⟩) (Kd.R_mono HO_13.out (fun k_ hk => (⟨hk,hk.2⟩ : _ ∧ k_ ≠ gb105))) (fun _ hk => hk.2) (.int .i64 ((rd_T32 t101 x15_1).f0))) (fun _ hk => hk.2) (.int .i64 ((rd_T32 t101 x15_1).f1))) (fun _ hk => trivial)⟩,⟨by repeat (first | (with_reducible first | exact HB.out | apply below_alloc | apply pw_below_drewN | apply below_drew1 | refine below_set ?_ GE105.out) | exact HB.out)⟩⟩
     ·rw [if_neg c10] at H
      exact absurd H (by simp)
    ·rw [if_neg c9] at H
     exact absurd H (by simp)
   ·rw [if_neg c8] at H
    have c8b0 : decide (x15_1 < (t101.length : Int)) = false := decide_eq_false c8
    clear c8
    obtain rfl := Option.some.inj H
    go_wp2
    go_ret
    exact ⟨by first | rfl | (simp [errW_none,errW_some] <;> rfl) | (simp only [← hji3,← hji4];first | rfl | (simp [errW_none,errW_some] <;> rfl)) | (simp [*,errW_none,errW_some] <;> rfl),by repeat (first | (with_reducible first | exact HB.out | apply below_alloc | apply pw_below_drewN | apply below_drew1) | exact HB.out)⟩
def word_Behind.l0 : Nat → Int → Int → List (S32) → Int → Int → Option (Int)
 | 0,_,_,_,_,_ => none
 | k + 1,x1,x5,x14,x15,x16 => if x16 < x15 then (if 0 ≤ x16 then (if x16 < (x14.length : Int) then (if ((rd_T32 x14 x16).f0) < x1 then (word_Behind.l0 k x1 ((rd_T32 x14 x16).f0) x14 x15 (wrap64 (x16 + 1))) else (word_Behind.l0 k x1 x5 x14 x15 (wrap64 (x16 + 1)))) else (none)) else (none)) else (some x5)
def word_Behind.f (k : Nat) (a0 : ByteArray) (a1 : Int) : Option (Int) := (word_Spans.f a0).bind fun t106 => (word_Behind.l0 k (mn (mx a1 0) (a0.size : Int)) 0 t106 (t106.length : Int) 0)
theorem word_Behind.mono_l : ∀ k,(∀ y0 y1 y2 y3 y4,LeO (word_Behind.l0 k y0 y1 y2 y3 y4) (word_Behind.l0 (k + 1) y0 y1 y2 y3 y4))
 | 0 => fun _ _ _ _ _ r h => by simp [word_Behind.l0] at h
 | k + 1 => by
  have ih0 := word_Behind.mono_l k
  ·intro y0 y1 y2 y3 y4
   unfold word_Behind.l0
   repeat' first
   | (with_reducible exact ih0 _ _ _ _ _)
   | (with_reducible exact LeO.refl _)
   | (with_reducible exact LeO.none _)
   | (with_reducible refine LeO.ite ?_ ?_)
   | (with_reducible refine LeO.bind ?_ (fun _ => ?_))
   | exact ih0 _ _ _ _ _
   | exact LeO.none _
   | refine LeO.ite ?_ ?_
   | refine LeO.bind ?_ (fun _ => ?_)
theorem word_Behind.mono : ∀ a0 a1 k,LeO (word_Behind.f k a0 a1) (word_Behind.f (k + 1) a0 a1) := by
 intro a0 a1 k
 have ih0 := word_Behind.mono_l k
 unfold word_Behind.f
 repeat' first
   | (with_reducible exact ih0 _ _ _ _ _)
   | (with_reducible exact LeO.refl _)
   | (with_reducible exact LeO.none _)
   | (with_reducible refine LeO.ite ?_ ?_)
   | (with_reducible refine LeO.bind ?_ (fun _ => ?_))
   | exact ih0 _ _ _ _ _
   | exact LeO.none _
   | refine LeO.ite ?_ ?_
   | refine LeO.bind ?_ (fun _ => ?_)
set_option maxHeartbeats 8000000 in
set_option maxRecDepth 100000 in
theorem word_Behind.calls (k : Nat) (a0 : ByteArray) (a1 : Int) (r : Int) (w : World) (hT : Lib.Utf8Tabs 0 1 w) (h : word_Behind.f k a0 a1 = some r) :
  Calls Tryd.prog 24 #[.string a0,.int .i64 a1] w fun e w' => e = .returned (.int .i64 r) ∧ Below w.heap.size w w' := by
 have hu32 := Tryd.underlying32
 have HT := Aside0.mk hT
 clear hT
 have HB := Aside0.mk (Below.refl w.heap.size w)
 have H : ((word_Spans.f a0).bind fun t106 => (word_Behind.l0 k (mn (mx a1 0) (a0.size : Int)) 0 t106 (t106.length : Int) 0)) = some r := h
 clear h
 obtain ⟨ji3,hji3⟩ : ∃ j_ : Int,(mx a1 0) = j_ := ⟨_,rfl⟩
 replace H : ((word_Spans.f a0).bind fun t106 => (word_Behind.l0 k (mn (ji3) (a0.size : Int)) 0 t106 (t106.length : Int) 0)) = some r := by first | (rw [hji3] at H;exact H) | (simp only [hji3] at H ⊢;exact H)
 (try (have hji3l : 0 ≤ ji3 := by (rw [← hji3];unfold mx;(repeat' split) <;> omega)))
 (try (have hji3m : 0 ≤ ji3 := by omega))
 have hji3_ : (if a1 < 0 then 0 else a1) = ji3 := hji3
 obtain ⟨ji4,hji4⟩ : ∃ j_ : Int,(mn (ji3) (a0.size : Int)) = j_ := ⟨_,rfl⟩
 replace H : ((word_Spans.f a0).bind fun t106 => (word_Behind.l0 k ji4 0 t106 (t106.length : Int) 0)) = some r := by first | (rw [hji4] at H;exact H) | (simp only [hji4] at H ⊢;exact H)
 have hji4_ : (if (a0.size : Int) < (ji3) then (a0.size : Int) else (ji3)) = ji4 := hji4
 replace H := Option.bind_eq_some_iff.mp H
 obtain ⟨t106,A50,H⟩ := H
 replace H : (word_Behind.l0 k ji4 0 t106 (t106.length : Int) 0) = some r := H
 have A5 := Aside0.mk A50
 clear A50
 have H' := Aside0.mk H
 clear H
 go_enter Tryd.func24,Tryd.ntmps24
 go_wp2_with (first | ((with_reducible refine gate_callee (f := 20) rfl ?_);refine goesL_ (some 14) rfl rfl Tryd.func20 (by kernel_rfl) rfl #[.string a0] rfl (by (try simp only [List.map_toArray,List.map_cons,List.map_nil]);first | done | rfl | (simp only [List.length_drop,List.length_take];rfl)) ?_;(with_reducible refine (word_Spans.calls a0 t106 _ ?side1 A5.out).mono ?_);(case side1 => exact tabs_below HT.out (by repeat (first | (with_reducible first | exact HB.out | apply below_alloc | apply pw_below_drewN | apply below_drew1) | exact HB.out)));rintro e w6 ⟨v107,rfl,ho0,hb⟩;refine ⟨_,rfl,?_⟩;have n0_ := Aside0.mk (Kd.R_lower ho0 (below_size (by repeat (first | (with_reducible first | exact HB.out | apply below_alloc | apply pw_below_drewN | apply below_drew1) | exact HB.out))));have n1_ := Aside0.mk (below_step (by repeat (first | (with_reducible first | exact HB.out | apply below_alloc | apply pw_below_drewN | apply below_drew1) | exact HB.out)) hb);clear HB;have HO108 := n0_;have HB := n1_;clear n0_ n1_;(try clear hb);(try clear hb2);(try clear hk);(try clear hi);(try clear ho0);obtain ⟨Ao7,co7,eo7⟩ := Kd.R_slice HO108.out;subst eo7))
 go_loopg [5,16] k (fun kq v5 v16 w' => ∃ (x5_1 : Int) (x16_1 : Int),v5 = .int .i64 x5_1 ∧ v16 = .int .i64 x16_1 ∧ Aside0 (word_Behind.l0 kq ji4 x5_1 t106 (t106.length : Int) x16_1 = some r) ∧ Aside0 (kq ≤ k) ∧ Aside0 (Kd.R k32 32 w' w.heap.size (fun _ => True) (.slice Ao7 t106.length co7) t106) ∧ Aside0 (Below w.heap.size w w'))
 case atStart => exact ⟨(0),(0),(by first | rfl | (simp;done) | (simp [*];done)),(by first | rfl | (simp;done) | (simp [*];done)),H',⟨Nat.le_refl _⟩,⟨by (with_reducible repeat (first | apply Kd.R_alloc | apply Kd.R_drewN | apply Kd.R_drew));exact HO108.out⟩,⟨by repeat (first | (with_reducible first | exact HB.out | apply below_alloc | apply pw_below_drewN | apply below_drew1) | exact HB.out)⟩⟩
 case round =>
  clear H'
  try clear c2
  try clear p2
  obtain ⟨x5_1,x16_1,rfl,rfl,HA,HK1,HO_14,HB⟩ := hrel
  cases gk with
  | zero => exact absurd HA.out (by simp [word_Behind.l0])
  | succ k1 =>
   have H := HA.out
   clear HA
   simp only [word_Behind.l0] at H
   by_cases c8 : x16_1 < (t106.length : Int)
   ·rw [if_pos c8] at H
    have c8b0 : decide (x16_1 < (t106.length : Int)) = true := decide_eq_true c8
    clear c8
    by_cases c9 : 0 ≤ x16_1
    ·rw [if_pos c9] at H
     have c9b0 : decide (0 ≤ x16_1) = true := decide_eq_true c9
     clear c9
     by_cases c10 : x16_1 < (t106.length : Int)
     ·rw [if_pos c10] at H
      have c10b0 : decide (x16_1 < (t106.length : Int)) = true := decide_eq_true c10
      clear c10
      by_cases c11 : ((rd_T32 t106 x16_1).f0) < ji4
      ·rw [if_pos c11] at H
       have c11b0 : decide (((rd_T32 t106 x16_1).f0) < ji4) = true := decide_eq_true c11
       clear c11
       have H' := Aside0.mk H
       clear H
       have p109 : 0 ≤ (x16_1 : Int) := of_decide_eq_true (by first | (with_reducible assumption) | assumption)
       have q109 : x16_1 < (t106.length : Int) := of_decide_eq_true (by first | (with_reducible assumption) | assumption)
       obtain ⟨ad109,e109,hx109_0,hx109_1⟩ := at_T32 (Kd.R_reads' HO_14.out).2.2 x16_1 p109 q109
       cases e109
       replace p109 := eq_true p109
       replace q109 := eq_true q109
       go_wp2_with (first | ((with_reducible refine gate_dst (N := 7) rfl ?_);refine box_event ?hg (N := 7) ?hd (cs := #[.int .i64 0,.int .i64 0]) (t := 32) ?hr ?_;(case hd => rfl);(case hg => rfl);(case hr => first | (go_simp;done) | (go_simp;rfl));intro gb110 hg w12 hbox hb;have n0_ := Aside0.mk (Kd.R_below (Kd.R_elderB (by (with_reducible repeat (first | apply Kd.R_alloc | apply Kd.R_drewN | apply Kd.R_drew));exact HO_14.out) gb110 (Nat.le_of_eq hg.symm)) hb);have n1_ := Aside0.mk (below_step (by repeat (first | (with_reducible first | exact HB.out | apply below_alloc | apply pw_below_drewN | apply below_drew1) | exact HB.out)) hb);have n2_ := Aside0.mk (hbox);have n3_ := Aside0.mk ((by rw [hg];exact (below_size (by repeat (first | (with_reducible first | exact HB.out | apply below_alloc | apply pw_below_drewN | apply below_drew1) | exact HB.out))) : w.heap.size ≤ gb110));have n4_ := Aside0.mk ((by rw [hg];exact (below_size (by repeat (first | (with_reducible first | exact HB.out | apply below_alloc | apply pw_below_drewN | apply below_drew1) | exact HB.out))) : w.heap.size ≤ gb110));clear HO_14;clear HB;have HO_14 := n0_;have HB := n1_;have BK110 := n2_;have GW110 := n3_;have GE110 := n4_;clear n0_ n1_ n2_ n3_ n4_;clear hb hbox hg;have hcz13_0 : w12.cell? ⟨gb110,0,none⟩ = some (.int .i64 0) := (blk_cell BK110.out 0).trans rfl;have hcz13_1 : w12.cell? ⟨gb110,1,none⟩ = some (.int .i64 0) := (blk_cell BK110.out 1).trans rfl;have hfz13_0 := blk_frozen BK110.out 0;have hfz13_1 := blk_frozen BK110.out 1))
       go_roundg k1
       case measure => have := HK1.out;omega
       case rel => exact ⟨((rd_T32 t106 x16_1).f0),(wrap64 (x16_1 + 1)),(by first | rfl | (simp;done) | (simp [*];done)),(by first | rfl | (simp;done) | (simp [*];done)),H',⟨by have := HK1.out;omega⟩,⟨by (with_reducible repeat (first | apply Kd.R_alloc | apply Kd.R_drewN | apply Kd.R_drew));exact Kd.R_mono (Kd.R_far (p := ⟨gb110,1,none⟩) (Kd.R_far (p := ⟨gb110,0,none⟩) (Kd.R_mono HO_14.out (fun k_ hk => (⟨hk,hk.2⟩ : _ ∧ k_ ≠ gb110))) (fun _ hk => hk.2) (.int .i64 ((rd_T32 t106 x16_1).f0))) (fun _ hk => hk.2) (.int .i64 ((rd_T32 t106 x16_1).f1))) (fun _ hk => trivial)⟩,⟨by repeat (first | (with_reducible first | exact HB.out | apply below_alloc | apply pw_below_drewN | apply below_drew1 | refine below_set ?_ GE110.out) | exact HB.out)⟩⟩
      ·rw [if_neg c11] at H
       have c11b0 : decide (((rd_T32 t106 x16_1).f0) < ji4) = false := decide_eq_false c11
       clear c11
       have H' := Aside0.mk H
       clear H
       have p109 : 0 ≤ (x16_1 : Int) := of_decide_eq_true (by first | (with_reducible assumption) | assumption)
       have q109 : x16_1 < (t106.length : Int) := of_decide_eq_true (by first | (with_reducible assumption) | assumption)
       obtain ⟨ad109,e109,hx109_0,hx109_1⟩ := at_T32 (Kd.R_reads' HO_14.out).2.2 x16_1 p109 q109
       cases e109
       replace p109 := eq_true p109
       replace q109 := eq_true q109
       go_wp2_with (first | ((with_reducible refine gate_dst (N := 7) rfl ?_);refine box_event ?hg (N := 7) ?hd (cs := #[.int .i64 0,.int .i64 0]) (t := 32) ?hr ?_;(case hd => rfl);(case hg => rfl);(case hr => first | (go_simp;done) | (go_simp;rfl));intro gb110 hg w14 hbox hb;have n0_ := Aside0.mk (Kd.R_below (Kd.R_elderB (by (with_reducible repeat (first | apply Kd.R_alloc | apply Kd.R_drewN | apply Kd.R_drew));exact HO_14.out) gb110 (Nat.le_of_eq hg.symm)) hb);have n1_ := Aside0.mk (below_step (by repeat (first | (with_reducible first | exact HB.out | apply below_alloc | apply pw_below_drewN | apply below_drew1) | exact HB.out)) hb);have n2_ := Aside0.mk (hbox);have n3_ := Aside0.mk ((by rw [hg];exact (below_size (by repeat (first | (with_reducible first | exact HB.out | apply below_alloc | apply pw_below_drewN | apply below_drew1) | exact HB.out))) : w.heap.size ≤ gb110));have n4_ := Aside0.mk ((by rw [hg];exact (below_size (by repeat (first | (with_reducible first | exact HB.out | apply below_alloc | apply pw_below_drewN | apply below_drew1) | exact HB.out))) : w.heap.size ≤ gb110));clear HO_14;clear HB;have HO_14 := n0_;have HB := n1_;have BK110 := n2_;have GW110 := n3_;have GE110 := n4_;clear n0_ n1_ n2_ n3_ n4_;clear hb hbox hg;have hcz15_0 : w14.cell? ⟨gb110,0,none⟩ = some (.int .i64 0) := (blk_cell BK110.out 0).trans rfl;have hcz15_1 : w14.cell? ⟨gb110,1,none⟩ = some (.int .i64 0) := (blk_cell BK110.out 1).trans rfl;have hfz15_0 := blk_frozen BK110.out 0;have hfz15_1 := blk_frozen BK110.out 1))
       go_roundg k1
       case measure => have := HK1.out;omega
       case rel => exact ⟨(x5_1),(wrap64 (x16_1 + 1)),(by first | rfl | (simp;done) | (simp [*];done)),(by first | rfl | (simp;done) | (simp [*];done)),H',⟨by have := HK1.out;omega⟩,⟨by (with_reducible repeat (first | apply Kd.R_alloc | apply Kd.R_drewN | apply Kd.R_drew));exact Kd.R_mono (Kd.R_far (p := ⟨gb110,1,none⟩) (Kd.R_far (p := ⟨gb110,0,none⟩) (Kd.R_mono HO_14.out (fun k_ hk => (⟨hk,hk.2⟩ : _ ∧ k_ ≠ gb110))) (fun _ hk => hk.2) (.int .i64 ((rd_T32 t106 x16_1).f0))) (fun _ hk => hk.2) (.int .i64 ((rd_T32 t106 x16_1).f1))) (fun _ hk => trivial)⟩,⟨by repeat (first | (with_reducible first | exact HB.out | apply below_alloc | apply pw_below_drewN | apply below_drew1 | refine below_set ?_ GE110.out) | exact HB.out)⟩⟩
     ·rw [if_neg c10] at H
      exact absurd H (by simp)
    ·rw [if_neg c9] at H
     exact absurd H (by simp)
   ·rw [if_neg c8] at H
    have c8b0 : decide (x16_1 < (t106.length : Int)) = false := decide_eq_false c8
    clear c8
    obtain rfl := Option.some.inj H
    go_wp2
    go_ret
    exact ⟨by first | rfl | (simp [errW_none,errW_some] <;> rfl) | (simp only [← hji3,← hji4];first | rfl | (simp [errW_none,errW_some] <;> rfl)) | (simp [*,errW_none,errW_some] <;> rfl),by repeat (first | (with_reducible first | exact HB.out | apply below_alloc | apply pw_below_drewN | apply below_drew1) | exact HB.out)⟩
def bodkinlaw05_awake.f (k : Nat)  : Option (Bool) := (cluster_Next.f k (⟨#[97]⟩ : ByteArray) 0).bind fun t159 => (if t159 = 1 then ((word_Spans.f (⟨#[97,98,44,32,99,95,49,32,32]⟩ : ByteArray)).bind fun t160 => (if (t160.length : Int) = 2 then (if 1 < (t160.length : Int) then (if (((rd_T32 t160 1).f0) == 4 && (((rd_T32 t160 1).f1) == 7)) = true then ((word_Ahead.f k (⟨#[97,98,32,99,100]⟩ : ByteArray) 2).bind fun t164 => (if t164 = 5 then ((word_Behind.f k (⟨#[97,98,32,99,100]⟩ : ByteArray) 4).bind fun t165 => (if t165 = 3 then ((word_Capital.f (⟨#[104,101,76,76,79,32,49,119,79,82,76,68,32,97,95,98]⟩ : ByteArray)).bind fun t166 => (some (t166.toList == ([72,101,108,108,111,32,49,119,111,114,108,100,32,65,95,98] : List UInt8)))) else (some false))) else (some false))) else (some false)) else (none)) else (some false))) else (some false))
theorem bodkinlaw05_awake.mono : ∀ k,LeO (bodkinlaw05_awake.f k ) (bodkinlaw05_awake.f (k + 1) ) := by
 intro  k
 unfold bodkinlaw05_awake.f
 repeat' first
   | (with_reducible exact cluster_Next.mono _ _ _)
   | (with_reducible exact word_Ahead.mono _ _ _)
   | (with_reducible exact word_Behind.mono _ _ _)
   | (with_reducible exact LeO.refl _)
   | (with_reducible exact LeO.none _)
   | (with_reducible refine LeO.ite ?_ ?_)
   | (with_reducible refine LeO.bind ?_ (fun _ => ?_))
   | exact cluster_Next.mono _ _ _
   | exact word_Ahead.mono _ _ _
   | exact word_Behind.mono _ _ _
   | exact LeO.none _
   | refine LeO.ite ?_ ?_
   | refine LeO.bind ?_ (fun _ => ?_)
set_option maxHeartbeats 8000000 in
set_option maxRecDepth 100000 in
theorem bodkinlaw05_awake.calls (k : Nat)  (r : Bool) (w : World) (hT : Lib.Utf8Tabs 0 1 w) (h : bodkinlaw05_awake.f k  = some r) :
  Calls Tryd.prog 12 #[] w fun e w' => e = .returned (.bool r) ∧ Below w.heap.size w w' := by
 have hu32 := Tryd.underlying32
 have HT := Aside0.mk hT
 clear hT
 have HB := Aside0.mk (Below.refl w.heap.size w)
 have H : ((cluster_Next.f k (⟨#[97]⟩ : ByteArray) 0).bind fun t159 => (if t159 = 1 then ((word_Spans.f (⟨#[97,98,44,32,99,95,49,32,32]⟩ : ByteArray)).bind fun t160 => (if (t160.length : Int) = 2 then (if 1 < (t160.length : Int) then (if (((rd_T32 t160 1).f0) == 4 && (((rd_T32 t160 1).f1) == 7)) = true then ((word_Ahead.f k (⟨#[97,98,32,99,100]⟩ : ByteArray) 2).bind fun t164 => (if t164 = 5 then ((word_Behind.f k (⟨#[97,98,32,99,100]⟩ : ByteArray) 4).bind fun t165 => (if t165 = 3 then ((word_Capital.f (⟨#[104,101,76,76,79,32,49,119,79,82,76,68,32,97,95,98]⟩ : ByteArray)).bind fun t166 => (some (t166.toList == ([72,101,108,108,111,32,49,119,111,114,108,100,32,65,95,98] : List UInt8)))) else (some false))) else (some false))) else (some false)) else (none)) else (some false))) else (some false))) = some r := h
 clear h
 replace H := Option.bind_eq_some_iff.mp H
 obtain ⟨t159,A10,H⟩ := H
 replace H : (if t159 = 1 then ((word_Spans.f (⟨#[97,98,44,32,99,95,49,32,32]⟩ : ByteArray)).bind fun t160 => (if (t160.length : Int) = 2 then (if 1 < (t160.length : Int) then (if (((rd_T32 t160 1).f0) == 4 && (((rd_T32 t160 1).f1) == 7)) = true then ((word_Ahead.f k (⟨#[97,98,32,99,100]⟩ : ByteArray) 2).bind fun t164 => (if t164 = 5 then ((word_Behind.f k (⟨#[97,98,32,99,100]⟩ : ByteArray) 4).bind fun t165 => (if t165 = 3 then ((word_Capital.f (⟨#[104,101,76,76,79,32,49,119,79,82,76,68,32,97,95,98]⟩ : ByteArray)).bind fun t166 => (some (t166.toList == ([72,101,108,108,111,32,49,119,111,114,108,100,32,65,95,98] : List UInt8)))) else (some false))) else (some false))) else (some false)) else (none)) else (some false))) else (some false)) = some r := H
 have A1 := Aside0.mk A10
 clear A10
 by_cases c2 : t159 = 1
 ·rw [if_pos c2] at H
  have c2b0 : (t159 == 1) = true := beq_iff_eq.mpr c2
  have c2b1 : (t159 != 1) = false := bne_eq_false_iff_eq.mpr c2
  clear c2
  replace H := Option.bind_eq_some_iff.mp H
  obtain ⟨t160,A30,H⟩ := H
  replace H : (if (t160.length : Int) = 2 then (if 1 < (t160.length : Int) then (if (((rd_T32 t160 1).f0) == 4 && (((rd_T32 t160 1).f1) == 7)) = true then ((word_Ahead.f k (⟨#[97,98,32,99,100]⟩ : ByteArray) 2).bind fun t164 => (if t164 = 5 then ((word_Behind.f k (⟨#[97,98,32,99,100]⟩ : ByteArray) 4).bind fun t165 => (if t165 = 3 then ((word_Capital.f (⟨#[104,101,76,76,79,32,49,119,79,82,76,68,32,97,95,98]⟩ : ByteArray)).bind fun t166 => (some (t166.toList == ([72,101,108,108,111,32,49,119,111,114,108,100,32,65,95,98] : List UInt8)))) else (some false))) else (some false))) else (some false)) else (none)) else (some false)) = some r := H
  have A3 := Aside0.mk A30
  clear A30
  by_cases c4 : (t160.length : Int) = 2
  ·rw [if_pos c4] at H
   have c4b0 : ((t160.length : Int) == 2) = true := beq_iff_eq.mpr c4
   have c4b1 : ((t160.length : Int) != 2) = false := bne_eq_false_iff_eq.mpr c4
   clear c4
   by_cases c5 : 1 < (t160.length : Int)
   ·rw [if_pos c5] at H
    have c5b0 : decide (1 < (t160.length : Int)) = true := decide_eq_true c5
    have c5b1 : decide (1 < t160.length) = true := decide_eq_true (by omega)
    clear c5
    by_cases c6 : (((rd_T32 t160 1).f0) == 4 && (((rd_T32 t160 1).f1) == 7)) = true
    ·rw [if_pos c6] at H
     have c6b0 : (((rd_T32 t160 1).f0) == 4 && (((rd_T32 t160 1).f1) == 7)) = true := c6
     (try (have c6b1 : decide (((rd_T32 t160 1).f0) = 4 && (((rd_T32 t160 1).f1) == 7)) = true := by simpa using c6))
     (try (have c6b2 : (((rd_T32 t160 1).f0) == 4 && (((rd_T32 t160 1).f1) == 7)) = true := by simpa using c6))
     clear c6
     replace H := Option.bind_eq_some_iff.mp H
     obtain ⟨t164,A70,H⟩ := H
     replace H : (if t164 = 5 then ((word_Behind.f k (⟨#[97,98,32,99,100]⟩ : ByteArray) 4).bind fun t165 => (if t165 = 3 then ((word_Capital.f (⟨#[104,101,76,76,79,32,49,119,79,82,76,68,32,97,95,98]⟩ : ByteArray)).bind fun t166 => (some (t166.toList == ([72,101,108,108,111,32,49,119,111,114,108,100,32,65,95,98] : List UInt8)))) else (some false))) else (some false)) = some r := H
     have A7 := Aside0.mk A70
     clear A70
     by_cases c8 : t164 = 5
     ·rw [if_pos c8] at H
      have c8b0 : (t164 == 5) = true := beq_iff_eq.mpr c8
      have c8b1 : (t164 != 5) = false := bne_eq_false_iff_eq.mpr c8
      clear c8
      replace H := Option.bind_eq_some_iff.mp H
      obtain ⟨t165,A90,H⟩ := H
      replace H : (if t165 = 3 then ((word_Capital.f (⟨#[104,101,76,76,79,32,49,119,79,82,76,68,32,97,95,98]⟩ : ByteArray)).bind fun t166 => (some (t166.toList == ([72,101,108,108,111,32,49,119,111,114,108,100,32,65,95,98] : List UInt8)))) else (some false)) = some r := H
      have A9 := Aside0.mk A90
      clear A90
      by_cases c10 : t165 = 3
      ·rw [if_pos c10] at H
       have c10b0 : (t165 == 3) = true := beq_iff_eq.mpr c10
       have c10b1 : (t165 != 3) = false := bne_eq_false_iff_eq.mpr c10
       clear c10
       replace H := Option.bind_eq_some_iff.mp H
       obtain ⟨t166,A110,H⟩ := H
       replace H : (some (t166.toList == ([72,101,108,108,111,32,49,119,111,114,108,100,32,65,95,98] : List UInt8))) = some r := H
       have A11 := Aside0.mk A110
       clear A110
       obtain rfl := Option.some.inj H
       go_enter Tryd.func12,Tryd.ntmps12
       go_wp2_with (first | ((with_reducible refine gate_callee (f := 27) rfl ?_);refine goesL_ (some 2) rfl rfl Tryd.func27 (by kernel_rfl) rfl #[.string (⟨#[97]⟩ : ByteArray),.int .i64 0] rfl (by (try simp only [List.map_toArray,List.map_cons,List.map_nil]);first | done | rfl | (simp only [List.length_drop,List.length_take];rfl)) ?_;(with_reducible refine (cluster_Next.calls k (⟨#[97]⟩ : ByteArray) 0 t159 _ ?side1 A1.out).mono ?_);(case side1 => exact tabs_below HT.out (by repeat (first | (with_reducible first | exact HB.out | apply below_alloc | apply pw_below_drewN | apply below_drew1) | exact HB.out)));rintro e w12 ⟨rfl,hb⟩;refine ⟨_,rfl,?_⟩;have n0_ := Aside0.mk (below_step (by repeat (first | (with_reducible first | exact HB.out | apply below_alloc | apply pw_below_drewN | apply below_drew1) | exact HB.out)) hb);clear HB;have HB := n0_;clear n0_;(try clear hb);(try clear hb2);(try clear hk);(try clear hi)) | ((with_reducible refine gate_callee (f := 20) rfl ?_);refine goesL_ (some 4) rfl rfl Tryd.func20 (by kernel_rfl) rfl #[.string (⟨#[97,98,44,32,99,95,49,32,32]⟩ : ByteArray)] rfl (by (try simp only [List.map_toArray,List.map_cons,List.map_nil]);first | done | rfl | (simp only [List.length_drop,List.length_take];rfl)) ?_;(with_reducible refine (word_Spans.calls (⟨#[97,98,44,32,99,95,49,32,32]⟩ : ByteArray) t160 _ ?side1 A3.out).mono ?_);(case side1 => exact tabs_below HT.out (by repeat (first | (with_reducible first | exact HB.out | apply below_alloc | apply pw_below_drewN | apply below_drew1) | exact HB.out)));rintro e w13 ⟨v161,rfl,ho0,hb⟩;refine ⟨_,rfl,?_⟩;have n0_ := Aside0.mk (Kd.R_lower ho0 (below_size (by repeat (first | (with_reducible first | exact HB.out | apply below_alloc | apply pw_below_drewN | apply below_drew1) | exact HB.out))));have n1_ := Aside0.mk (below_step (by repeat (first | (with_reducible first | exact HB.out | apply below_alloc | apply pw_below_drewN | apply below_drew1) | exact HB.out)) hb);clear HB;have HO162 := n0_;have HB := n1_;clear n0_ n1_;(try clear hb);(try clear hb2);(try clear hk);(try clear hi);(try clear ho0);obtain ⟨Ao14,co14,eo14⟩ := Kd.R_slice HO162.out;subst eo14;have p163 : 0 ≤ (1 : Int) := (by omega);have q163 : 1 < (t160.length : Int) := of_decide_eq_true (by first | (with_reducible assumption) | assumption);obtain ⟨ad163,e163,hx163_0,hx163_1⟩ := at_T32 (Kd.R_reads' HO162.out).2.2 1 p163 q163;cases e163;(try simp only [show (1 : Int).toNat = 1 from rfl,Nat.reduceMul,Nat.reduceEqDiff,Go.Addr.add,↓reduceIte] at hx163_0);(try simp only [show (1 : Int).toNat = 1 from rfl,Nat.reduceMul,Nat.reduceEqDiff,Go.Addr.add,↓reduceIte] at hx163_1);have qi163 : (1 < t160.length) = True := eq_true (by omega);(try rw [show ((1 : Int)).toNat = 1 from rfl] at hx163_0);(try rw [show 1 * 2 = 2 from rfl] at hx163_0);(try rw [show ((1 : Int)).toNat = 1 from rfl] at hx163_1);(try rw [show 1 * 2 = 2 from rfl] at hx163_1);replace p163 := eq_true p163;replace q163 := eq_true q163) | (go_at_call 22;(with_reducible refine (word_Ahead.calls k (⟨#[97,98,32,99,100]⟩ : ByteArray) 2 t164 _ ?side1 A7.out).mono ?_);(case side1 => exact tabs_below HT.out (by repeat (first | (with_reducible first | exact HB.out | apply below_alloc | apply pw_below_drewN | apply below_drew1) | exact HB.out)));rintro e w15 ⟨rfl,hb⟩;have n0_ := Aside0.mk (Kd.R_below (by (with_reducible repeat (first | apply Kd.R_alloc | apply Kd.R_drewN | apply Kd.R_drew));exact HO162.out) hb);have n1_ := Aside0.mk (below_step (by repeat (first | (with_reducible first | exact HB.out | apply below_alloc | apply pw_below_drewN | apply below_drew1) | exact HB.out)) hb);clear HO162;clear HB;have HO162 := n0_;have HB := n1_;clear n0_ n1_;(try clear hb);(try clear hb2);(try clear hk);(try clear hi)) | (go_at_call 24;(with_reducible refine (word_Behind.calls k (⟨#[97,98,32,99,100]⟩ : ByteArray) 4 t165 _ ?side1 A9.out).mono ?_);(case side1 => exact tabs_below HT.out (by repeat (first | (with_reducible first | exact HB.out | apply below_alloc | apply pw_below_drewN | apply below_drew1) | exact HB.out)));rintro e w16 ⟨rfl,hb⟩;have n0_ := Aside0.mk (Kd.R_below (by (with_reducible repeat (first | apply Kd.R_alloc | apply Kd.R_drewN | apply Kd.R_drew));exact HO162.out) hb);have n1_ := Aside0.mk (below_step (by repeat (first | (with_reducible first | exact HB.out | apply below_alloc | apply pw_below_drewN | apply below_drew1) | exact HB.out)) hb);clear HO162;clear HB;have HO162 := n0_;have HB := n1_;clear n0_ n1_;(try clear hb);(try clear hb2);(try clear hk);(try clear hi)) | (go_at_call 34;(with_reducible refine (word_Capital.calls (⟨#[104,101,76,76,79,32,49,119,79,82,76,68,32,97,95,98]⟩ : ByteArray) t166 _ ?side1 A11.out).mono ?_);(case side1 => exact tabs_below HT.out (by repeat (first | (with_reducible first | exact HB.out | apply below_alloc | apply pw_below_drewN | apply below_drew1) | exact HB.out)));rintro e w17 ⟨rfl,hb⟩;have n0_ := Aside0.mk (Kd.R_below (by (with_reducible repeat (first | apply Kd.R_alloc | apply Kd.R_drewN | apply Kd.R_drew));exact HO162.out) hb);have n1_ := Aside0.mk (below_step (by repeat (first | (with_reducible first | exact HB.out | apply below_alloc | apply pw_below_drewN | apply below_drew1) | exact HB.out)) hb);clear HO162;clear HB;have HO162 := n0_;have HB := n1_;clear n0_ n1_;(try clear hb);(try clear hb2);(try clear hk);(try clear hi)))
       go_ret
       exact ⟨by first | rfl | (simp [errW_none,errW_some] <;> rfl) | (simp [*,errW_none,errW_some] <;> rfl),by repeat (first | (with_reducible first | exact HB.out | apply below_alloc | apply pw_below_drewN | apply below_drew1) | exact HB.out)⟩
      ·rw [if_neg c10] at H
       have c10b0 : (t165 == 3) = false := beq_eq_false_iff_ne.mpr c10
       have c10b1 : (t165 != 3) = true := bne_iff_ne.mpr c10
       obtain rfl := Option.some.inj H
       go_enter Tryd.func12,Tryd.ntmps12
       go_wp2_with (first | ((with_reducible refine gate_callee (f := 27) rfl ?_);refine goesL_ (some 2) rfl rfl Tryd.func27 (by kernel_rfl) rfl #[.string (⟨#[97]⟩ : ByteArray),.int .i64 0] rfl (by (try simp only [List.map_toArray,List.map_cons,List.map_nil]);first | done | rfl | (simp only [List.length_drop,List.length_take];rfl)) ?_;(with_reducible refine (cluster_Next.calls k (⟨#[97]⟩ : ByteArray) 0 t159 _ ?side1 A1.out).mono ?_);(case side1 => exact tabs_below HT.out (by repeat (first | (with_reducible first | exact HB.out | apply below_alloc | apply pw_below_drewN | apply below_drew1) | exact HB.out)));rintro e w18 ⟨rfl,hb⟩;refine ⟨_,rfl,?_⟩;have n0_ := Aside0.mk (below_step (by repeat (first | (with_reducible first | exact HB.out | apply below_alloc | apply pw_below_drewN | apply below_drew1) | exact HB.out)) hb);clear HB;have HB := n0_;clear n0_;(try clear hb);(try clear hb2);(try clear hk);(try clear hi)) | ((with_reducible refine gate_callee (f := 20) rfl ?_);refine goesL_ (some 4) rfl rfl Tryd.func20 (by kernel_rfl) rfl #[.string (⟨#[97,98,44,32,99,95,49,32,32]⟩ : ByteArray)] rfl (by (try simp only [List.map_toArray,List.map_cons,List.map_nil]);first | done | rfl | (simp only [List.length_drop,List.length_take];rfl)) ?_;(with_reducible refine (word_Spans.calls (⟨#[97,98,44,32,99,95,49,32,32]⟩ : ByteArray) t160 _ ?side1 A3.out).mono ?_);(case side1 => exact tabs_below HT.out (by repeat (first | (with_reducible first | exact HB.out | apply below_alloc | apply pw_below_drewN | apply below_drew1) | exact HB.out)));rintro e w19 ⟨v161,rfl,ho0,hb⟩;refine ⟨_,rfl,?_⟩;have n0_ := Aside0.mk (Kd.R_lower ho0 (below_size (by repeat (first | (with_reducible first | exact HB.out | apply below_alloc | apply pw_below_drewN | apply below_drew1) | exact HB.out))));have n1_ := Aside0.mk (below_step (by repeat (first | (with_reducible first | exact HB.out | apply below_alloc | apply pw_below_drewN | apply below_drew1) | exact HB.out)) hb);clear HB;have HO162 := n0_;have HB := n1_;clear n0_ n1_;(try clear hb);(try clear hb2);(try clear hk);(try clear hi);(try clear ho0);obtain ⟨Ao20,co20,eo20⟩ := Kd.R_slice HO162.out;subst eo20;have p163 : 0 ≤ (1 : Int) := (by omega);have q163 : 1 < (t160.length : Int) := of_decide_eq_true (by first | (with_reducible assumption) | assumption);obtain ⟨ad163,e163,hx163_0,hx163_1⟩ := at_T32 (Kd.R_reads' HO162.out).2.2 1 p163 q163;cases e163;(try simp only [show (1 : Int).toNat = 1 from rfl,Nat.reduceMul,Nat.reduceEqDiff,Go.Addr.add,↓reduceIte] at hx163_0);(try simp only [show (1 : Int).toNat = 1 from rfl,Nat.reduceMul,Nat.reduceEqDiff,Go.Addr.add,↓reduceIte] at hx163_1);have qi163 : (1 < t160.length) = True := eq_true (by omega);(try rw [show ((1 : Int)).toNat = 1 from rfl] at hx163_0);(try rw [show 1 * 2 = 2 from rfl] at hx163_0);(try rw [show ((1 : Int)).toNat = 1 from rfl] at hx163_1);(try rw [show 1 * 2 = 2 from rfl] at hx163_1);replace p163 := eq_true p163;replace q163 := eq_true q163) | (go_at_call 22;(with_reducible refine (word_Ahead.calls k (⟨#[97,98,32,99,100]⟩ : ByteArray) 2 t164 _ ?side1 A7.out).mono ?_);(case side1 => exact tabs_below HT.out (by repeat (first | (with_reducible first | exact HB.out | apply below_alloc | apply pw_below_drewN | apply below_drew1) | exact HB.out)));rintro e w21 ⟨rfl,hb⟩;have n0_ := Aside0.mk (Kd.R_below (by (with_reducible repeat (first | apply Kd.R_alloc | apply Kd.R_drewN | apply Kd.R_drew));exact HO162.out) hb);have n1_ := Aside0.mk (below_step (by repeat (first | (with_reducible first | exact HB.out | apply below_alloc | apply pw_below_drewN | apply below_drew1) | exact HB.out)) hb);clear HO162;clear HB;have HO162 := n0_;have HB := n1_;clear n0_ n1_;(try clear hb);(try clear hb2);(try clear hk);(try clear hi)) | (go_at_call 24;(with_reducible refine (word_Behind.calls k (⟨#[97,98,32,99,100]⟩ : ByteArray) 4 t165 _ ?side1 A9.out).mono ?_);(case side1 => exact tabs_below HT.out (by repeat (first | (with_reducible first | exact HB.out | apply below_alloc | apply pw_below_drewN | apply below_drew1) | exact HB.out)));rintro e w22 ⟨rfl,hb⟩;have n0_ := Aside0.mk (Kd.R_below (by (with_reducible repeat (first | apply Kd.R_alloc | apply Kd.R_drewN | apply Kd.R_drew));exact HO162.out) hb);have n1_ := Aside0.mk (below_step (by repeat (first | (with_reducible first | exact HB.out | apply below_alloc | apply pw_below_drewN | apply below_drew1) | exact HB.out)) hb);clear HO162;clear HB;have HO162 := n0_;have HB := n1_;clear n0_ n1_;(try clear hb);(try clear hb2);(try clear hk);(try clear hi)))
       go_ret
       exact ⟨by first | rfl | (simp [errW_none,errW_some] <;> rfl) | (simp [*,errW_none,errW_some] <;> rfl),by repeat (first | (with_reducible first | exact HB.out | apply below_alloc | apply pw_below_drewN | apply below_drew1) | exact HB.out)⟩
     ·rw [if_neg c8] at H
      have c8b0 : (t164 == 5) = false := beq_eq_false_iff_ne.mpr c8
      have c8b1 : (t164 != 5) = true := bne_iff_ne.mpr c8
      obtain rfl := Option.some.inj H
      go_enter Tryd.func12,Tryd.ntmps12
      go_wp2_with (first | ((with_reducible refine gate_callee (f := 27) rfl ?_);refine goesL_ (some 2) rfl rfl Tryd.func27 (by kernel_rfl) rfl #[.string (⟨#[97]⟩ : ByteArray),.int .i64 0] rfl (by (try simp only [List.map_toArray,List.map_cons,List.map_nil]);first | done | rfl | (simp only [List.length_drop,List.length_take];rfl)) ?_;(with_reducible refine (cluster_Next.calls k (⟨#[97]⟩ : ByteArray) 0 t159 _ ?side1 A1.out).mono ?_);(case side1 => exact tabs_below HT.out (by repeat (first | (with_reducible first | exact HB.out | apply below_alloc | apply pw_below_drewN | apply below_drew1) | exact HB.out)));rintro e w23 ⟨rfl,hb⟩;refine ⟨_,rfl,?_⟩;have n0_ := Aside0.mk (below_step (by repeat (first | (with_reducible first | exact HB.out | apply below_alloc | apply pw_below_drewN | apply below_drew1) | exact HB.out)) hb);clear HB;have HB := n0_;clear n0_;(try clear hb);(try clear hb2);(try clear hk);(try clear hi)) | ((with_reducible refine gate_callee (f := 20) rfl ?_);refine goesL_ (some 4) rfl rfl Tryd.func20 (by kernel_rfl) rfl #[.string (⟨#[97,98,44,32,99,95,49,32,32]⟩ : ByteArray)] rfl (by (try simp only [List.map_toArray,List.map_cons,List.map_nil]);first | done | rfl | (simp only [List.length_drop,List.length_take];rfl)) ?_;(with_reducible refine (word_Spans.calls (⟨#[97,98,44,32,99,95,49,32,32]⟩ : ByteArray) t160 _ ?side1 A3.out).mono ?_);(case side1 => exact tabs_below HT.out (by repeat (first | (with_reducible first | exact HB.out | apply below_alloc | apply pw_below_drewN | apply below_drew1) | exact HB.out)));rintro e w24 ⟨v161,rfl,ho0,hb⟩;refine ⟨_,rfl,?_⟩;have n0_ := Aside0.mk (Kd.R_lower ho0 (below_size (by repeat (first | (with_reducible first | exact HB.out | apply below_alloc | apply pw_below_drewN | apply below_drew1) | exact HB.out))));have n1_ := Aside0.mk (below_step (by repeat (first | (with_reducible first | exact HB.out | apply below_alloc | apply pw_below_drewN | apply below_drew1) | exact HB.out)) hb);clear HB;have HO162 := n0_;have HB := n1_;clear n0_ n1_;(try clear hb);(try clear hb2);(try clear hk);(try clear hi);(try clear ho0);obtain ⟨Ao25,co25,eo25⟩ := Kd.R_slice HO162.out;subst eo25;have p163 : 0 ≤ (1 : Int) := (by omega);have q163 : 1 < (t160.length : Int) := of_decide_eq_true (by first | (with_reducible assumption) | assumption);obtain ⟨ad163,e163,hx163_0,hx163_1⟩ := at_T32 (Kd.R_reads' HO162.out).2.2 1 p163 q163;cases e163;(try simp only [show (1 : Int).toNat = 1 from rfl,Nat.reduceMul,Nat.reduceEqDiff,Go.Addr.add,↓reduceIte] at hx163_0);(try simp only [show (1 : Int).toNat = 1 from rfl,Nat.reduceMul,Nat.reduceEqDiff,Go.Addr.add,↓reduceIte] at hx163_1);have qi163 : (1 < t160.length) = True := eq_true (by omega);(try rw [show ((1 : Int)).toNat = 1 from rfl] at hx163_0);(try rw [show 1 * 2 = 2 from rfl] at hx163_0);(try rw [show ((1 : Int)).toNat = 1 from rfl] at hx163_1);(try rw [show 1 * 2 = 2 from rfl] at hx163_1);replace p163 := eq_true p163;replace q163 := eq_true q163) | (go_at_call 22;(with_reducible refine (word_Ahead.calls k (⟨#[97,98,32,99,100]⟩ : ByteArray) 2 t164 _ ?side1 A7.out).mono ?_);(case side1 => exact tabs_below HT.out (by repeat (first | (with_reducible first | exact HB.out | apply below_alloc | apply pw_below_drewN | apply below_drew1) | exact HB.out)));rintro e w26 ⟨rfl,hb⟩;have n0_ := Aside0.mk (Kd.R_below (by (with_reducible repeat (first | apply Kd.R_alloc | apply Kd.R_drewN | apply Kd.R_drew));exact HO162.out) hb);have n1_ := Aside0.mk (below_step (by repeat (first | (with_reducible first | exact HB.out | apply below_alloc | apply pw_below_drewN | apply below_drew1) | exact HB.out)) hb);clear HO162;clear HB;have HO162 := n0_;have HB := n1_;clear n0_ n1_;(try clear hb);(try clear hb2);(try clear hk);(try clear hi)))
      go_ret
      exact ⟨by first | rfl | (simp [errW_none,errW_some] <;> rfl) | (simp [*,errW_none,errW_some] <;> rfl),by repeat (first | (with_reducible first | exact HB.out | apply below_alloc | apply pw_below_drewN | apply below_drew1) | exact HB.out)⟩
    ·rw [if_neg c6] at H
     have c6b0 : (((rd_T32 t160 1).f0) == 4 && (((rd_T32 t160 1).f1) == 7)) = false := by simpa using c6
     (try (have c6b1 : decide (((rd_T32 t160 1).f0) = 4 && (((rd_T32 t160 1).f1) == 7)) = false := by simpa using c6))
     (try (have c6b2 : (((rd_T32 t160 1).f0) == 4 && (((rd_T32 t160 1).f1) == 7)) = false := by simpa using c6))
     (try (have c6b3 : ¬ (((rd_T32 t160 1).f0) = 4 && (((rd_T32 t160 1).f1) == 7)) := by simpa using c6))
     clear c6
     obtain rfl := Option.some.inj H
     go_enter Tryd.func12,Tryd.ntmps12
     go_wp2_with (first | ((with_reducible refine gate_callee (f := 27) rfl ?_);refine goesL_ (some 2) rfl rfl Tryd.func27 (by kernel_rfl) rfl #[.string (⟨#[97]⟩ : ByteArray),.int .i64 0] rfl (by (try simp only [List.map_toArray,List.map_cons,List.map_nil]);first | done | rfl | (simp only [List.length_drop,List.length_take];rfl)) ?_;(with_reducible refine (cluster_Next.calls k (⟨#[97]⟩ : ByteArray) 0 t159 _ ?side1 A1.out).mono ?_);(case side1 => exact tabs_below HT.out (by repeat (first | (with_reducible first | exact HB.out | apply below_alloc | apply pw_below_drewN | apply below_drew1) | exact HB.out)));rintro e w27 ⟨rfl,hb⟩;refine ⟨_,rfl,?_⟩;have n0_ := Aside0.mk (below_step (by repeat (first | (with_reducible first | exact HB.out | apply below_alloc | apply pw_below_drewN | apply below_drew1) | exact HB.out)) hb);clear HB;have HB := n0_;clear n0_;(try clear hb);(try clear hb2);(try clear hk);(try clear hi)) | ((with_reducible refine gate_callee (f := 20) rfl ?_);refine goesL_ (some 4) rfl rfl Tryd.func20 (by kernel_rfl) rfl #[.string (⟨#[97,98,44,32,99,95,49,32,32]⟩ : ByteArray)] rfl (by (try simp only [List.map_toArray,List.map_cons,List.map_nil]);first | done | rfl | (simp only [List.length_drop,List.length_take];rfl)) ?_;(with_reducible refine (word_Spans.calls (⟨#[97,98,44,32,99,95,49,32,32]⟩ : ByteArray) t160 _ ?side1 A3.out).mono ?_);(case side1 => exact tabs_below HT.out (by repeat (first | (with_reducible first | exact HB.out | apply below_alloc | apply pw_below_drewN | apply below_drew1) | exact HB.out)));rintro e w28 ⟨v161,rfl,ho0,hb⟩;refine ⟨_,rfl,?_⟩;have n0_ := Aside0.mk (Kd.R_lower ho0 (below_size (by repeat (first | (with_reducible first | exact HB.out | apply below_alloc | apply pw_below_drewN | apply below_drew1) | exact HB.out))));have n1_ := Aside0.mk (below_step (by repeat (first | (with_reducible first | exact HB.out | apply below_alloc | apply pw_below_drewN | apply below_drew1) | exact HB.out)) hb);clear HB;have HO162 := n0_;have HB := n1_;clear n0_ n1_;(try clear hb);(try clear hb2);(try clear hk);(try clear hi);(try clear ho0);obtain ⟨Ao29,co29,eo29⟩ := Kd.R_slice HO162.out;subst eo29;have p163 : 0 ≤ (1 : Int) := (by omega);have q163 : 1 < (t160.length : Int) := of_decide_eq_true (by first | (with_reducible assumption) | assumption);obtain ⟨ad163,e163,hx163_0,hx163_1⟩ := at_T32 (Kd.R_reads' HO162.out).2.2 1 p163 q163;cases e163;(try simp only [show (1 : Int).toNat = 1 from rfl,Nat.reduceMul,Nat.reduceEqDiff,Go.Addr.add,↓reduceIte] at hx163_0);(try simp only [show (1 : Int).toNat = 1 from rfl,Nat.reduceMul,Nat.reduceEqDiff,Go.Addr.add,↓reduceIte] at hx163_1);have qi163 : (1 < t160.length) = True := eq_true (by omega);(try rw [show ((1 : Int)).toNat = 1 from rfl] at hx163_0);(try rw [show 1 * 2 = 2 from rfl] at hx163_0);(try rw [show ((1 : Int)).toNat = 1 from rfl] at hx163_1);(try rw [show 1 * 2 = 2 from rfl] at hx163_1);replace p163 := eq_true p163;replace q163 := eq_true q163))
     go_ret
     exact ⟨by first | rfl | (simp [errW_none,errW_some] <;> rfl) | (simp [*,errW_none,errW_some] <;> rfl),by repeat (first | (with_reducible first | exact HB.out | apply below_alloc | apply pw_below_drewN | apply below_drew1) | exact HB.out)⟩
   ·rw [if_neg c5] at H
    exact absurd H (by simp)
  ·rw [if_neg c4] at H
   have c4b0 : ((t160.length : Int) == 2) = false := beq_eq_false_iff_ne.mpr c4
   have c4b1 : ((t160.length : Int) != 2) = true := bne_iff_ne.mpr c4
   obtain rfl := Option.some.inj H
   go_enter Tryd.func12,Tryd.ntmps12
   go_wp2_with (first | ((with_reducible refine gate_callee (f := 27) rfl ?_);refine goesL_ (some 2) rfl rfl Tryd.func27 (by kernel_rfl) rfl #[.string (⟨#[97]⟩ : ByteArray),.int .i64 0] rfl (by (try simp only [List.map_toArray,List.map_cons,List.map_nil]);first | done | rfl | (simp only [List.length_drop,List.length_take];rfl)) ?_;(with_reducible refine (cluster_Next.calls k (⟨#[97]⟩ : ByteArray) 0 t159 _ ?side1 A1.out).mono ?_);(case side1 => exact tabs_below HT.out (by repeat (first | (with_reducible first | exact HB.out | apply below_alloc | apply pw_below_drewN | apply below_drew1) | exact HB.out)));rintro e w30 ⟨rfl,hb⟩;refine ⟨_,rfl,?_⟩;have n0_ := Aside0.mk (below_step (by repeat (first | (with_reducible first | exact HB.out | apply below_alloc | apply pw_below_drewN | apply below_drew1) | exact HB.out)) hb);clear HB;have HB := n0_;clear n0_;(try clear hb);(try clear hb2);(try clear hk);(try clear hi)) | ((with_reducible refine gate_callee (f := 20) rfl ?_);refine goesL_ (some 4) rfl rfl Tryd.func20 (by kernel_rfl) rfl #[.string (⟨#[97,98,44,32,99,95,49,32,32]⟩ : ByteArray)] rfl (by (try simp only [List.map_toArray,List.map_cons,List.map_nil]);first | done | rfl | (simp only [List.length_drop,List.length_take];rfl)) ?_;(with_reducible refine (word_Spans.calls (⟨#[97,98,44,32,99,95,49,32,32]⟩ : ByteArray) t160 _ ?side1 A3.out).mono ?_);(case side1 => exact tabs_below HT.out (by repeat (first | (with_reducible first | exact HB.out | apply below_alloc | apply pw_below_drewN | apply below_drew1) | exact HB.out)));rintro e w31 ⟨v161,rfl,ho0,hb⟩;refine ⟨_,rfl,?_⟩;have n0_ := Aside0.mk (Kd.R_lower ho0 (below_size (by repeat (first | (with_reducible first | exact HB.out | apply below_alloc | apply pw_below_drewN | apply below_drew1) | exact HB.out))));have n1_ := Aside0.mk (below_step (by repeat (first | (with_reducible first | exact HB.out | apply below_alloc | apply pw_below_drewN | apply below_drew1) | exact HB.out)) hb);clear HB;have HO162 := n0_;have HB := n1_;clear n0_ n1_;(try clear hb);(try clear hb2);(try clear hk);(try clear hi);(try clear ho0);obtain ⟨Ao32,co32,eo32⟩ := Kd.R_slice HO162.out;subst eo32))
   go_ret
   exact ⟨by first | rfl | (simp [errW_none,errW_some] <;> rfl) | (simp [*,errW_none,errW_some] <;> rfl),by repeat (first | (with_reducible first | exact HB.out | apply below_alloc | apply pw_below_drewN | apply below_drew1) | exact HB.out)⟩
 ·rw [if_neg c2] at H
  have c2b0 : (t159 == 1) = false := beq_eq_false_iff_ne.mpr c2
  have c2b1 : (t159 != 1) = true := bne_iff_ne.mpr c2
  obtain rfl := Option.some.inj H
  go_enter Tryd.func12,Tryd.ntmps12
  go_wp2_with (first | ((with_reducible refine gate_callee (f := 27) rfl ?_);refine goesL_ (some 2) rfl rfl Tryd.func27 (by kernel_rfl) rfl #[.string (⟨#[97]⟩ : ByteArray),.int .i64 0] rfl (by (try simp only [List.map_toArray,List.map_cons,List.map_nil]);first | done | rfl | (simp only [List.length_drop,List.length_take];rfl)) ?_;(with_reducible refine (cluster_Next.calls k (⟨#[97]⟩ : ByteArray) 0 t159 _ ?side1 A1.out).mono ?_);(case side1 => exact tabs_below HT.out (by repeat (first | (with_reducible first | exact HB.out | apply below_alloc | apply pw_below_drewN | apply below_drew1) | exact HB.out)));rintro e w33 ⟨rfl,hb⟩;refine ⟨_,rfl,?_⟩;have n0_ := Aside0.mk (below_step (by repeat (first | (with_reducible first | exact HB.out | apply below_alloc | apply pw_below_drewN | apply below_drew1) | exact HB.out)) hb);clear HB;have HB := n0_;clear n0_;(try clear hb);(try clear hb2);(try clear hk);(try clear hi)))
  go_ret
  exact ⟨by first | rfl | (simp [errW_none,errW_some] <;> rfl) | (simp [*,errW_none,errW_some] <;> rfl),by repeat (first | (with_reducible first | exact HB.out | apply below_alloc | apply pw_below_drewN | apply below_drew1) | exact HB.out)⟩
end Go.Proofs.YtkficbgnjpekaaaDoor.U
end
section
namespace Go.Proofs.YtkficbgnjpekaaaDoor.U
open Go.RowKit Go.Proofs.YtkficbgnjpekaaaDoorW.PrintWords Go.Proofs.YtkficbgnjpekaaaDoorW.PrintLast Go.Proofs.YtkficbgnjpekaaaDoorW.PrintMore
attribute [local go_sem] max2_int min2_int max_two min_two max_three min_three max_four min_four   -- for this text's walks alone
set_option linter.unusedVariables false
set_option linter.unusedSimpArgs false
def bodkinlaw05_WordChars.l0 : Nat → List Int → Int → Option (Bool)
 | 0,_,_ => none
 | k + 1,x0,x3 => if x3 < (x0.length : Int) then (if 0 ≤ x3 then ((word_IsWord.f k (rd x0 x3)).bind fun t246 => ((bodkinref05_IsWord.f k (rd x0 x3)).bind fun t247 => (if (t246 != t247) = true then (some false) else ((word_UpperOf.f k (rd x0 x3)).bind fun t248 => ((bodkinref05_UpperOf.f k (rd x0 x3)).bind fun t249 => (if t248 = t249 then ((word_LowerOf.f (rd x0 x3)).bind fun t250 => ((bodkinref05_LowerOf.f k (rd x0 x3)).bind fun t251 => (if t250 = t251 then (bodkinlaw05_WordChars.l0 k x0 (wrap64 (x3 + 1))) else (some false)))) else (some false))))))) else (none)) else (some true)
def bodkinlaw05_WordChars.f (k : Nat) (l0 : List Int) : Option (Bool) := (bodkinlaw05_awake.f k).bind fun t244 => (if t244 = true then (bodkinlaw05_WordChars.l0 k l0 0) else (some false))
set_option maxHeartbeats 8000000 in
set_option maxRecDepth 100000 in
theorem bodkinlaw05_WordChars.calls (k : Nat) (A0 : Option Addr) (c0 : Nat) (l0 : List Int) (r : Bool) (hr_ : r = true) (w : World) (hr0 : Kd.C (Kd.int .i32) w A0 l0.length l0) (hc0 : l0.length ≤ c0) (hT : Lib.Utf8Tabs 0 1 w) (h : bodkinlaw05_WordChars.f k l0 = some r) :
  Calls Tryd.prog 3 #[.slice A0 l0.length c0] w fun e w' => e = .returned (.bool r) ∧ Below w.heap.size w w' := by
 have HT := Aside0.mk hT
 clear hT
 have HR0 := Aside0.mk hr0
 have HC0 := Aside0.mk hc0
 clear hr0 hc0
 have HB := Aside0.mk (Below.refl w.heap.size w)
 have H : ((bodkinlaw05_awake.f k).bind fun t244 => (if t244 = true then (bodkinlaw05_WordChars.l0 k l0 0) else (some false))) = some r := h
 clear h
 replace H := Option.bind_eq_some_iff.mp H
 obtain ⟨t244,A20,H⟩ := H
 replace H : (if t244 = true then (bodkinlaw05_WordChars.l0 k l0 0) else (some false)) = some r := H
 have A2 := Aside0.mk A20
 clear A20
 by_cases c3 : t244 = true
 ·subst c3
  have H1 : (bodkinlaw05_WordChars.l0 k l0 0) = some r := by rw [if_pos rfl] at H;exact H
  clear H
  have H := H1
  clear H1
  have H' := Aside0.mk H
  clear H
  go_enter Tryd.func3,Tryd.ntmps3
  go_wp2_with (first | ((with_reducible refine gate_callee (f := 12) rfl ?_);refine goesL_ (some 5) rfl rfl Tryd.func12 (by kernel_rfl) rfl #[] rfl (by (try simp only [List.map_toArray,List.map_cons,List.map_nil]);first | done | rfl | (simp only [List.length_drop,List.length_take];rfl)) ?_;(with_reducible refine (bodkinlaw05_awake.calls k  true _ ?side1 A2.out).mono ?_);(case side1 => exact tabs_below HT.out (by repeat (first | (with_reducible first | exact HB.out | apply below_alloc | apply pw_below_drewN | apply below_drew1) | exact HB.out)));rintro e w4 ⟨rfl,hb⟩;refine ⟨_,rfl,?_⟩;have n0_ := Aside0.mk (below_step (by repeat (first | (with_reducible first | exact HB.out | apply below_alloc | apply pw_below_drewN | apply below_drew1) | exact HB.out)) hb);clear HB;have HB := n0_;clear n0_;(try clear hb);(try clear hb2);(try clear hk);(try clear hi)))
  go_loopg [3] k (fun kq v3 w' => ∃ (x3_1 : Int),v3 = .int .i64 x3_1 ∧ Aside0 (bodkinlaw05_WordChars.l0 kq l0 x3_1 = some r) ∧ Aside0 (kq ≤ k) ∧ Aside0 (Below w.heap.size w w'))
  case atStart => exact ⟨(0),(by first | rfl | (simp;done) | (simp [*];done)),H',⟨Nat.le_refl _⟩,⟨by repeat (first | (with_reducible first | exact HB.out | apply below_alloc | apply pw_below_drewN | apply below_drew1) | exact HB.out)⟩⟩
  case round =>
   clear H'
   try clear c1
   try clear p2
   try clear c3
   obtain ⟨x3_1,rfl,HA,HK1,HB⟩ := hrel
   cases gk with
   | zero => exact absurd HA.out (by simp [bodkinlaw05_WordChars.l0])
   | succ k1 =>
    have H := HA.out
    clear HA
    simp only [bodkinlaw05_WordChars.l0] at H
    by_cases c5 : x3_1 < (l0.length : Int)
    ·rw [if_pos c5] at H
     have c5b0 : decide (x3_1 < (l0.length : Int)) = true := decide_eq_true c5
     clear c5
     by_cases c6 : 0 ≤ x3_1
     ·rw [if_pos c6] at H
      have c6b0 : decide (0 ≤ x3_1) = true := decide_eq_true c6
      clear c6
      replace H := Option.bind_eq_some_iff.mp H
      obtain ⟨t246,A70,H⟩ := H
      replace H : ((bodkinref05_IsWord.f k1 (rd l0 x3_1)).bind fun t247 => (if (t246 != t247) = true then (some false) else ((word_UpperOf.f k1 (rd l0 x3_1)).bind fun t248 => ((bodkinref05_UpperOf.f k1 (rd l0 x3_1)).bind fun t249 => (if t248 = t249 then ((word_LowerOf.f (rd l0 x3_1)).bind fun t250 => ((bodkinref05_LowerOf.f k1 (rd l0 x3_1)).bind fun t251 => (if t250 = t251 then (bodkinlaw05_WordChars.l0 k1 l0 (wrap64 (x3_1 + 1))) else (some false)))) else (some false)))))) = some r := H
      have A7 := Aside0.mk A70
      clear A70
      replace H := Option.bind_eq_some_iff.mp H
      obtain ⟨t247,A80,H⟩ := H
      replace H : (if (t246 != t247) = true then (some false) else ((word_UpperOf.f k1 (rd l0 x3_1)).bind fun t248 => ((bodkinref05_UpperOf.f k1 (rd l0 x3_1)).bind fun t249 => (if t248 = t249 then ((word_LowerOf.f (rd l0 x3_1)).bind fun t250 => ((bodkinref05_LowerOf.f k1 (rd l0 x3_1)).bind fun t251 => (if t250 = t251 then (bodkinlaw05_WordChars.l0 k1 l0 (wrap64 (x3_1 + 1))) else (some false)))) else (some false))))) = some r := H
      have A8 := Aside0.mk A80
      clear A80
      by_cases c9 : (t246 != t247) = true
      ·rw [if_pos c9] at H
       have c9b0 : (t246 != t247) = true := c9
       (try (have c9b1 : decide (t246 = t247) = false := by simpa using c9))
       (try (have c9b2 : (t246 == t247) = false := by simpa using c9))
       (try (have c9b3 : ¬ (t246 = t247) := by simpa using c9))
       clear c9
       obtain rfl := Option.some.inj H
       cases hr_
      ·rw [if_neg c9] at H
       have c9b0 : (t246 != t247) = false := by simpa using c9
       (try (have c9b1 : decide (t246 = t247) = true := by simpa using c9))
       (try (have c9b2 : (t246 == t247) = true := by simpa using c9))
       clear c9
       replace H := Option.bind_eq_some_iff.mp H
       obtain ⟨t248,A120,H⟩ := H
       replace H : ((bodkinref05_UpperOf.f k1 (rd l0 x3_1)).bind fun t249 => (if t248 = t249 then ((word_LowerOf.f (rd l0 x3_1)).bind fun t250 => ((bodkinref05_LowerOf.f k1 (rd l0 x3_1)).bind fun t251 => (if t250 = t251 then (bodkinlaw05_WordChars.l0 k1 l0 (wrap64 (x3_1 + 1))) else (some false)))) else (some false))) = some r := H
       have A12 := Aside0.mk A120
       clear A120
       replace H := Option.bind_eq_some_iff.mp H
       obtain ⟨t249,A130,H⟩ := H
       replace H : (if t248 = t249 then ((word_LowerOf.f (rd l0 x3_1)).bind fun t250 => ((bodkinref05_LowerOf.f k1 (rd l0 x3_1)).bind fun t251 => (if t250 = t251 then (bodkinlaw05_WordChars.l0 k1 l0 (wrap64 (x3_1 + 1))) else (some false)))) else (some false)) = some r := H
       have A13 := Aside0.mk A130
       clear A130
       by_cases c14 : t248 = t249
       ·rw [if_pos c14] at H
        have c14b0 : (t248 == t249) = true := beq_iff_eq.mpr c14
        have c14b1 : (t248 != t249) = false := bne_eq_false_iff_eq.mpr c14
        clear c14
        replace H := Option.bind_eq_some_iff.mp H
        obtain ⟨t250,A150,H⟩ := H
        replace H : ((bodkinref05_LowerOf.f k1 (rd l0 x3_1)).bind fun t251 => (if t250 = t251 then (bodkinlaw05_WordChars.l0 k1 l0 (wrap64 (x3_1 + 1))) else (some false))) = some r := H
        have A15 := Aside0.mk A150
        clear A150
        replace H := Option.bind_eq_some_iff.mp H
        obtain ⟨t251,A160,H⟩ := H
        replace H : (if t250 = t251 then (bodkinlaw05_WordChars.l0 k1 l0 (wrap64 (x3_1 + 1))) else (some false)) = some r := H
        have A16 := Aside0.mk A160
        clear A160
        by_cases c17 : t250 = t251
        ·rw [if_pos c17] at H
         have c17b0 : (t250 == t251) = true := beq_iff_eq.mpr c17
         have c17b1 : (t250 != t251) = false := bne_eq_false_iff_eq.mpr c17
         clear c17
         have H' := Aside0.mk H
         clear H
         have p245 : 0 ≤ (x3_1 : Int) := of_decide_eq_true (by first | (with_reducible assumption) | assumption)
         have q245 : x3_1 < (l0.length : Int) := of_decide_eq_true (by first | (with_reducible assumption) | assumption)
         obtain ⟨ad245,e245,hx245_0⟩ := Kd.at_int HR0.out x3_1 p245 q245
         cases e245
         replace hx245_0 := (HB.out.cell (World.block_lt_of_cell? w _ hx245_0)).trans hx245_0
         replace p245 := eq_true p245
         replace q245 := eq_true q245
         go_wp2_with (first | ((with_reducible refine gate_callee (f := 13) rfl ?_);refine goesL_ (some 18) rfl rfl Tryd.func13 (by kernel_rfl) rfl #[.int .i32 (rd l0 x3_1)] rfl (by (try simp only [List.map_toArray,List.map_cons,List.map_nil]);first | done | rfl | (simp only [List.length_drop,List.length_take];rfl)) ?_;(with_reducible refine (word_IsWord.calls k1 (rd l0 x3_1) t246 _ A7.out).mono ?_);rintro e w18 ⟨rfl,hb⟩;refine ⟨_,rfl,?_⟩;have n0_ := Aside0.mk (below_step (by repeat (first | (with_reducible first | exact HB.out | apply below_alloc | apply pw_below_drewN | apply below_drew1) | exact HB.out)) hb);clear HB;have HB := n0_;clear n0_;(try clear hb);(try clear hb2);(try clear hk);(try clear hi)) | ((with_reducible refine gate_callee (f := 14) rfl ?_);refine goesL_ (some 20) rfl rfl Tryd.func14 (by kernel_rfl) rfl #[.int .i32 (rd l0 x3_1)] rfl (by (try simp only [List.map_toArray,List.map_cons,List.map_nil]);first | done | rfl | (simp only [List.length_drop,List.length_take];rfl)) ?_;(with_reducible refine (bodkinref05_IsWord.calls k1 (rd l0 x3_1) t247 _ A8.out).mono ?_);rintro e w19 ⟨rfl,hb⟩;refine ⟨_,rfl,?_⟩;have n0_ := Aside0.mk (below_step (by repeat (first | (with_reducible first | exact HB.out | apply below_alloc | apply pw_below_drewN | apply below_drew1) | exact HB.out)) hb);clear HB;have HB := n0_;clear n0_;(try clear hb);(try clear hb2);(try clear hk);(try clear hi)) | (go_at_call 15;(with_reducible refine (word_UpperOf.calls k1 (rd l0 x3_1) t248 _ A12.out).mono ?_);rintro e w' ⟨rfl,⟨nd,rfl⟩⟩) | (go_at_call 16;(with_reducible refine (bodkinref05_UpperOf.calls k1 (rd l0 x3_1) t249 _ A13.out).mono ?_);rintro e w20 ⟨rfl,hb⟩;have n0_ := Aside0.mk (below_step (by repeat (first | (with_reducible first | exact HB.out | apply below_alloc | apply pw_below_drewN | apply below_drew1) | exact HB.out)) hb);clear HB;have HB := n0_;clear n0_;(try clear hb);(try clear hb2);(try clear hk);(try clear hi)) | (go_at_call 17;(with_reducible refine (word_LowerOf.calls (rd l0 x3_1) t250 _ A15.out).mono ?_);rintro e w21 ⟨rfl,hb⟩;have n0_ := Aside0.mk (below_step (by repeat (first | (with_reducible first | exact HB.out | apply below_alloc | apply pw_below_drewN | apply below_drew1) | exact HB.out)) hb);clear HB;have HB := n0_;clear n0_;(try clear hb);(try clear hb2);(try clear hk);(try clear hi)) | (go_at_call 18;(with_reducible refine (bodkinref05_LowerOf.calls k1 (rd l0 x3_1) t251 _ A16.out).mono ?_);rintro e w22 ⟨rfl,hb⟩;have n0_ := Aside0.mk (below_step (by repeat (first | (with_reducible first | exact HB.out | apply below_alloc | apply pw_below_drewN | apply below_drew1) | exact HB.out)) hb);clear HB;have HB := n0_;clear n0_;(try clear hb);(try clear hb2);(try clear hk);(try clear hi)))
         go_roundg k1
         case measure => have := HK1.out;omega
         case rel => exact ⟨(wrap64 (x3_1 + 1)),(by first | rfl | (simp;done) | (simp [*];done)),H',⟨by have := HK1.out;omega⟩,⟨by repeat (first | (with_reducible first | exact HB.out | apply below_alloc | apply pw_below_drewN | apply below_drew1) | exact HB.out)⟩⟩
        ·rw [if_neg c17] at H
         have c17b0 : (t250 == t251) = false := beq_eq_false_iff_ne.mpr c17
         have c17b1 : (t250 != t251) = true := bne_iff_ne.mpr c17
         obtain rfl := Option.some.inj H
         cases hr_
       ·rw [if_neg c14] at H
        have c14b0 : (t248 == t249) = false := beq_eq_false_iff_ne.mpr c14
        have c14b1 : (t248 != t249) = true := bne_iff_ne.mpr c14
        obtain rfl := Option.some.inj H
        cases hr_
     ·rw [if_neg c6] at H
      exact absurd H (by simp)
    ·rw [if_neg c5] at H
     have c5b0 : decide (x3_1 < (l0.length : Int)) = false := decide_eq_false c5
     clear c5
     obtain rfl := Option.some.inj H
     go_wp2
     go_ret
     exact ⟨by first | rfl | (simp [errW_none,errW_some] <;> rfl) | (simp [*,errW_none,errW_some] <;> rfl),by repeat (first | (with_reducible first | exact HB.out | apply below_alloc | apply pw_below_drewN | apply below_drew1) | exact HB.out)⟩
 ·replace c3 := Bool.eq_false_iff.mpr c3
  subst c3
  have H1 : (some false) = some r := by rw [if_neg (show ¬ (false = true) by decide)] at H;exact H
  clear H
  have H := H1
  clear H1
  obtain rfl := Option.some.inj H
  cases hr_
end Go.Proofs.YtkficbgnjpekaaaDoor.U
end
section
namespace Go.Proofs.YtkficbgnjpekaaaDoor.Pu
open Go Go.RowKit Go.Proofs.YtkficbgnjpekaaaDoor.Mu Go.Proofs.YtkficbgnjpekaaaDoor.U Go.Proofs.YtkficbgnjpekaaaDoorW.PrintWords Go.Proofs.YtkficbgnjpekaaaDoorW.PrintLast Go.Proofs.YtkficbgnjpekaaaDoorW.PrintMore
theorem awake_ans : Ev (fun k => bodkinlaw05_awake.f k) true := Ev.of (fun k => bodkinlaw05_awake.mono k) (k := 200) (by kernel_rfl)
end Go.Proofs.YtkficbgnjpekaaaDoor.Pu
end
section
namespace Go.Proofs.YtkficbgnjpekaaaDoor.Pu
open Go Go.RowKit Go.Proofs.YtkficbgnjpekaaaDoor.Mu Go.Proofs.YtkficbgnjpekaaaDoor.U Go.Proofs.YtkficbgnjpekaaaDoorW.PrintWords Go.Proofs.YtkficbgnjpekaaaDoorW.PrintLast Go.Proofs.YtkficbgnjpekaaaDoorW.PrintMore
set_option linter.unusedVariables false
set_option linter.unusedSimpArgs false
theorem out_any (c : Int) : (pairsL outTab).any (fun p => decide (p.f0 ≤ c) && decide (c ≤ p.f1)) = outB c := by kernel_rfl
theorem but_len : (pairsL outTab).length ≤ 1000000 := of_decide_eq_true (by kernel_rfl)
theorem rw_j0 (c : Int) (b : Bool) : Ev (fun k => bodkinref05_IsWord.j0 k c b) (b || wHigh c) := by
 refine Ev.step (fun k => bodkinref05_IsWord.j0.eq_2 ..) ?_
 by_cases hb : b = true
 ·rw [hb,Bool.true_or];exact ev_pos rfl (Ev.now _)
 rw [eq_false_of_ne_true hb,Bool.false_or]
 refine ev_neg (by simp) ?_
 unfold wHigh
 by_cases h : c < 170
 ·rw [decide_eq_false (by omega),Bool.false_and];exact ev_pos h (Ev.now _)
 rw [decide_eq_true (by omega),Bool.true_and]
 refine ev_neg h (Ev.bind (a := pairsL outTab) (Ev.of (fun k => bodkinref02_Table.mono _ k) (k := 1000) (by kernel_rfl)) (Ev.bind (ref_within _ but_len c _ 0 rfl) ?_))
 rw [List.drop_zero,out_any]
 by_cases ho : outB c = true
 ·rw [ho,Bool.not_true,Bool.and_false];exact ev_pos rfl (Ev.now _)
 rw [eq_false_of_ne_true ho,Bool.not_false,Bool.and_true]
 refine ev_neg (by simp) (Ev.bind (ref_class_ans c) ?_)
 by_cases h3 : cls c = 3
 ·rw [decide_eq_true (.inl h3)];exact ev_pos h3 (Ev.now _)
 refine ev_neg h3 ?_
 by_cases h4 : cls c = 4
 ·rw [decide_eq_true (.inr (.inl h4))];exact ev_pos h4 (Ev.now _)
 refine ev_neg h4 (ev_now ?_)
 rw [Bool.eq_iff_iff,beq_iff_eq,decide_eq_true_iff];omega
theorem rw_at (c : Int) (b : Bool) (h : b = true ↔ ((48 ≤ c ∧ c ≤ 57) ∨ (65 ≤ c ∧ c ≤ 90) ∨ (97 ≤ c ∧ c ≤ 122) ∨ c = 95)) : Ev (fun k => bodkinref05_IsWord.j0 k c b) (wordB c) := by
 have e : b = wLow c := by rw [Bool.eq_iff_iff,h];unfold wLow;rw [decide_eq_true_iff]
 unfold wordB;rw [← e];exact rw_j0 c b
theorem ref_isword_ans (c : Int) : Ev (fun k => bodkinref05_IsWord.f k c) (wordB c) := by
 unfold bodkinref05_IsWord.f
 have e3 : ∀ g : Nat → Option Bool,¬ (48 ≤ c ∧ c ≤ 57) → ¬ (65 ≤ c ∧ c ≤ 90) → (∀ k,g k = if c ≥ 97 then (if c ≤ 122 then bodkinref05_IsWord.j0 k c true else bodkinref05_IsWord.j0 k c (c == 95)) else bodkinref05_IsWord.j0 k c (c == 95)) → Ev g (wordB c) := by
  intro g h1 h2 hg
  refine Ev.congr hg ?_
  by_cases h : c ≥ 97
  ·refine ev_pos h ?_
   by_cases h' : c ≤ 122
   ·exact ev_pos h' (rw_at c _ (by simp;omega))
   ·exact ev_neg h' (rw_at c _ (by simp;omega))
  ·exact ev_neg h (rw_at c _ (by simp;omega))
 have e2 : ∀ g : Nat → Option Bool,¬ (48 ≤ c ∧ c ≤ 57) → (∀ k,g k = if c ≥ 65 then (if c ≤ 90 then bodkinref05_IsWord.j0 k c true else (if c ≥ 97 then (if c ≤ 122 then bodkinref05_IsWord.j0 k c true else bodkinref05_IsWord.j0 k c (c == 95)) else bodkinref05_IsWord.j0 k c (c == 95))) else (if c ≥ 97 then (if c ≤ 122 then bodkinref05_IsWord.j0 k c true else bodkinref05_IsWord.j0 k c (c == 95)) else bodkinref05_IsWord.j0 k c (c == 95))) → Ev g (wordB c) := by
  intro g h1 hg
  refine Ev.congr hg ?_
  by_cases h : c ≥ 65
  ·refine ev_pos h ?_
   by_cases h' : c ≤ 90
   ·exact ev_pos h' (rw_at c _ (by simp;omega))
   ·exact ev_neg h' (e3 _ h1 (by omega) (fun _ => rfl))
  ·exact ev_neg h (e3 _ h1 (by omega) (fun _ => rfl))
 by_cases h : c ≥ 48
 ·refine ev_pos h ?_
  by_cases h' : c ≤ 57
  ·exact ev_pos h' (rw_at c _ (by simp;omega))
  ·exact ev_neg h' (e2 _ (by omega) (fun _ => rfl))
 ·exact ev_neg h (e2 _ (by omega) (fun _ => rfl))
def casL : List S55 := match bodkinref05_Pairs.f 200 with | some l => l | none => []
theorem pairs_ans : Ev (fun k => bodkinref05_Pairs.f k) casL := Ev.of (fun k => bodkinref05_Pairs.mono k) (k := 200) (by kernel_rfl)
def casesOk : Bool := casL.all fun p => decide (upC p.f0 = p.f1) && decide (lowC p.f1 = p.f0)
def restOk : Bool := (List.range 1300).all fun n => (decide (upC (n : Int) = n) || casL.any (fun p => decide (p.f0 = n))) && (decide (lowC (n : Int) = n) || casL.any (fun p => decide (p.f1 = n)))
theorem cases_ok : casesOk = true := by kernel_rfl
theorem rest_ok : restOk = true := by kernel_rfl
theorem cas_len : casL.length ≤ 1000000 := of_decide_eq_true (by kernel_rfl)
theorem upC_far (c : Int) (h : c < 0 ∨ 1300 ≤ c) : upC c = c := by
 have e3 : runB c = false := by unfold runB;rw [decide_eq_false_iff_not];omega
 have o1 : oddB c 257 311 = false := by unfold oddB;rw [decide_eq_false_iff_not];omega
 have o2 : oddB c 331 375 = false := by unfold oddB;rw [decide_eq_false_iff_not];omega
 have o3 : oddB c 1121 1153 = false := by unfold oddB;rw [decide_eq_false_iff_not];omega
 unfold upC low3
 rw [e3,if_neg (by simp)]
 unfold low2
 rw [if_neg (by rw [decide_eq_true_iff];omega),if_neg (by omega)]
 unfold low1
 rw [o1,Bool.and_false,if_neg (by simp),o2,if_neg (by simp),o3,if_neg (by simp)]
theorem lowC_far (c : Int) (h : c < 0 ∨ 1300 ≤ c) : lowC c = c := by
 have hn : ∀ f r,lowTry c f r = r := fun f r => by unfold lowTry;rw [if_neg (by omega)]
 unfold lowC
 rw [if_neg (by omega),hn,hn,hn]
theorem up_of (p : S55) (h : p ∈ casL) : upC p.f0 = p.f1 ∧ lowC p.f1 = p.f0 := by
 have := List.all_eq_true.1 cases_ok p h
 simp only [Bool.and_eq_true,decide_eq_true_eq] at this
 exact this
theorem rest_of (c : Int) : (upC c = c ∨ ∃ p ∈ casL,p.f0 = c) ∧ (lowC c = c ∨ ∃ p ∈ casL,p.f1 = c) := by
 by_cases h : c < 0 ∨ 1300 ≤ c
 ·exact ⟨.inl (upC_far c h),.inl (lowC_far c h)⟩
 ·have := List.all_eq_true.1 rest_ok c.toNat (List.mem_range.2 (by omega))
  have e : ((c.toNat : Nat) : Int) = c := by omega
  rw [e] at this
  simp only [Bool.and_eq_true,Bool.or_eq_true,decide_eq_true_eq,List.any_eq_true] at this
  exact this
theorem rup_loop (c : Int) (hx : ∀ p ∈ casL,p.f0 = c → p.f1 = upC c) (L : List S55) (hL : L.length ≤ 1000000) : ∀ (l : List S55) (i : Nat),L.drop i = l → (∀ p ∈ l,p ∈ casL) → ((∃ p ∈ l,p.f0 = c) ∨ upC c = c) → Ev (fun k => bodkinref05_UpperOf.l0 k c L i) (upC c) := by
 intro l
 induction l with
 | nil =>
  intro i h _ hc
  have := List.drop_eq_nil_iff.1 h
  refine Ev.step (fun k => bodkinref05_UpperOf.l0.eq_2 ..) (ev_neg (by omega) (ev_now ?_))
  rcases hc with ⟨p,hp,_⟩ | h1
  ·cases hp
  ·exact h1.symm
 | cons p l ih =>
  intro i h hm hc
  obtain ⟨hi,hg,hd⟩ := drop_cons' (d := z55) h
  have hr : rd_T55 L i = p := by unfold rd_T55;rw [Int.toNat_natCast];exact hg
  refine Ev.step (fun k => bodkinref05_UpperOf.l0.eq_2 ..) (ev_pos (by omega) (ev_pos (by omega) ?_))
  rw [hr,w64 (by omega) (by omega)]
  by_cases h1 : p.f0 = c
  ·exact ev_pos h1 (ev_now (hx p (hm p (by simp)) h1))
  ·refine ev_neg h1 (ih (i + 1) hd (fun q hq => hm q (List.mem_cons_of_mem _ hq)) ?_)
   rcases hc with ⟨q,hq,he⟩ | h2
   ·rcases List.mem_cons.1 hq with rfl | hq
    ·exact absurd he h1
    ·exact .inl ⟨q,hq,he⟩
   ·exact .inr h2
theorem rlow_loop (c : Int) (hx : ∀ p ∈ casL,p.f1 = c → p.f0 = lowC c) (L : List S55) (hL : L.length ≤ 1000000) : ∀ (l : List S55) (i : Nat),L.drop i = l → (∀ p ∈ l,p ∈ casL) → ((∃ p ∈ l,p.f1 = c) ∨ lowC c = c) → Ev (fun k => bodkinref05_LowerOf.l0 k c L i) (lowC c) := by
 intro l
 induction l with
 | nil =>
  intro i h _ hc
  have := List.drop_eq_nil_iff.1 h
  refine Ev.step (fun k => bodkinref05_LowerOf.l0.eq_2 ..) (ev_neg (by omega) (ev_now ?_))
  rcases hc with ⟨p,hp,_⟩ | h1
  ·cases hp
  ·exact h1.symm
 | cons p l ih =>
  intro i h hm hc
  obtain ⟨hi,hg,hd⟩ := drop_cons' (d := z55) h
  have hr : rd_T55 L i = p := by unfold rd_T55;rw [Int.toNat_natCast];exact hg
  refine Ev.step (fun k => bodkinref05_LowerOf.l0.eq_2 ..) (ev_pos (by omega) (ev_pos (by omega) ?_))
  rw [hr,w64 (by omega) (by omega)]
  by_cases h1 : p.f1 = c
  ·exact ev_pos h1 (ev_now (hx p (hm p (by simp)) h1))
  ·refine ev_neg h1 (ih (i + 1) hd (fun q hq => hm q (List.mem_cons_of_mem _ hq)) ?_)
   rcases hc with ⟨q,hq,he⟩ | h2
   ·rcases List.mem_cons.1 hq with rfl | hq
    ·exact absurd he h1
    ·exact .inl ⟨q,hq,he⟩
   ·exact .inr h2
/-- What the reference's UpperOf and LowerOf answer. -/
theorem ref_upper_ans (c : Int) : Ev (fun k => bodkinref05_UpperOf.f k c) (upC c) :=
 Ev.bind pairs_ans (rup_loop c (fun p hp h => by rw [← h];exact (up_of p hp).1.symm) casL cas_len casL 0 rfl (fun _ h => h) ((rest_of c).1.symm))
theorem ref_lower_ans (c : Int) : Ev (fun k => bodkinref05_LowerOf.f k c) (lowC c) :=
 Ev.bind pairs_ans (rlow_loop c (fun p hp h => by rw [← h];exact (up_of p hp).2.symm) casL cas_len casL 0 rfl (fun _ h => h) ((rest_of c).2.symm))
theorem upper_ev (c : Int) : Ev (fun k => word_UpperOf.f k c) (upC c) := Ev.of (fun k => word_UpperOf.mono _ k) (upper7 c)
end Go.Proofs.YtkficbgnjpekaaaDoor.Pu
end
section
namespace Go.Proofs.YtkficbgnjpekaaaDoor.Pure
open Go Go.RowKit Go.Proofs.YtkficbgnjpekaaaDoor.Mu Go.Proofs.YtkficbgnjpekaaaDoor.Pu Go.Proofs.YtkficbgnjpekaaaDoor.U Go.Proofs.YtkficbgnjpekaaaDoorW.PrintWords Go.Proofs.YtkficbgnjpekaaaDoorW.PrintLast Go.Proofs.YtkficbgnjpekaaaDoorW.PrintMore
set_option linter.unusedVariables false
theorem wchars_loop (L : List Int) (hL : L.length ≤ 1048576) : ∀ n i : Nat,i + n = L.length → Ev (fun k => bodkinlaw05_WordChars.l0 k L i) true := by
 intro n
 induction n with
 | zero => intro i hi;exact Ev.step (fun k => bodkinlaw05_WordChars.l0.eq_2 ..) (ev_neg (by omega) (Ev.now _))
 | succ n ih =>
  intro i hi
  obtain ⟨c,hc⟩ : ∃ c,rd L (i : Int) = c := ⟨_,rfl⟩
  refine Ev.step (fun k => bodkinlaw05_WordChars.l0.eq_2 ..) (ev_pos (by omega) (ev_pos (by omega) ?_))
  rw [hc]
  refine Ev.bind (isword_ans c) (Ev.bind (ref_isword_ans c) (ev_neg (by simp) (Ev.bind (upper_ev c) (Ev.bind (ref_upper_ans c) (ev_pos rfl (ev_some (a := lowC c) rfl (Ev.bind (ref_lower_ans c) (ev_pos rfl ?_))))))))
  rw [w64 (by omega) (by omega)]
  exact ih (i + 1) (by omega)
theorem WordChars (l0 : List Int) (u : l0.length ≤ 1048576) (_hw : ∀ x ∈ l0,(Lit.int .i32 x).wf = true) : ∃ k,bodkinlaw05_WordChars.f k l0 = some true := by
 apply Ev.rounds
 unfold bodkinlaw05_WordChars.f
 exact Ev.bind awake_ans (ev_pos rfl (wchars_loop l0 u l0.length 0 (by omega)))
end Go.Proofs.YtkficbgnjpekaaaDoor.Pure
end
section
namespace Go.Proofs.YtkficbgnjpekaaaDoor.Lf
open Go.Lib Go.Proofs
theorem own : ownKnob Tryd.prog.godebug = none := by kernel_rfl
theorem laidOut : laidOutB Tryd.prog = true := by kernel_rfl
theorem extra : U8Extra Tryd.prog Tryd.lays260_ren := {
 n3 := by kernel_rfl
 n4 := by kernel_rfl
 y3 := by kernel_rfl
 y4 := by kernel_rfl
 c5 := by kernel_rfl
 c119 := by kernel_rfl
 c138 := by kernel_rfl }
theorem first_eq : Rows.laid_unicode_utf8_first = Lib.firstData := by kernel_rfl
theorem accept_eq : (Rows.laid_unicode_utf8_acceptRanges : DataW Unit) = Lib.acceptData := by kernel_rfl
abbrev laid : List (String × DataW Unit) := [("unicode/utf8.acceptRanges", Rows.laid_unicode_utf8_acceptRanges), ("unicode/utf8.first", Rows.laid_unicode_utf8_first)]
/-- The two tables lie as the contracts ask. -/
theorem tabs {W : World} (h : laidMetH Tryd.prog laid W) : Lib.Utf8Tabs 0 1 W := by
  rw [MakeChecks.laidMetH_plain _ _ _ (by kernel_rfl)] at h
  have h3 := laidMet.reads h (n := "unicode/utf8.first") (d := Rows.laid_unicode_utf8_first) (List.mem_cons_of_mem _ List.mem_cons_self)
  have h4 := laidMet.reads h (n := "unicode/utf8.acceptRanges") (d := Rows.laid_unicode_utf8_acceptRanges) List.mem_cons_self
  rw [first_eq] at h3
  rw [accept_eq] at h4
  exact utf8Tabs_of_reads Tryd.lays260 extra h3 h4
/-- The world of the witness: the settled one,the tables laid. -/
noncomputable abbrev wit (os : Os) : World := World.laidAll Tryd.prog os laid
theorem wit_laid (os : Os) (args : Array Value) : laidMetH Tryd.prog laid ((wit os).forCall (fun _ _ => 0) ⟨#[],args,[]⟩).memory := by
 rw [MakeChecks.laidMetH_plain _ _ _ (by kernel_rfl)]
 exact laidMet_laidAll _ (by kernel_rfl) (by kernel_rfl)
theorem wit_shaped (os : Os) (args : Array Value) : ((wit os).forCall (fun _ _ => 0) ⟨#[],args,[]⟩).Shaped Tryd.prog :=
 World.shaped_of_ZipB (by kernel_rfl) (by kernel_rfl)
end Go.Proofs.YtkficbgnjpekaaaDoor.Lf
end
