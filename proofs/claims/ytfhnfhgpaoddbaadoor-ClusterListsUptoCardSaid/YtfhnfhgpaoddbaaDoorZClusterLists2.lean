/- What the law ClusterLists reaches of this seat's own texts, merged; what nothing uses is left out. -/
import Derived.Test.YtfhnfhgpaoddbaaDoorProg
import Derived.Below
import Derived.Deep.Draws
import Derived.Deep.AppendLies
import Derived.Maps.AppendAt
import Derived.OwnWalk
import Derived.Laws.BytesArg
import Derived.Laws.MakeOwn
import Derived.Laws.OwnMore
import Derived.Deep.OwnRows
import Derived.Tactics
import Derived.Lib.ConvBytes
import Derived.Laws.Slices
import Derived.WalkKit
import Derived.KernelRfl
import Derived.RowKit3
import Derived.Deep.LoopGhost
import Derived.Deep.QuietTactic
import Derived.BigQuiet
import Derived.WideLaws
import Derived.Deep.DeepCutAuto
import Derived.Deep.CutBlock
import Derived.Deep.RegionHeld3
import Derived.Laws.Rows
import Derived.Lib.AppendStr
import Derived.ArgAppend
import Derived.Laws.IdiomCopy
import Derived.OrdersHeld
import Derived.Laws.BitsLemmas
import Derived.RowKit
import Derived.Shelf.Strings.Builder1
import Derived.Shelf.Small.Utf8
import Derived.Shelf.Strings.BuilderF
import Derived.Shelf.Strings.BuilderK
import Derived.Shelf.Utf8.AppendRunePlain
import Derived.Shelf.Utf8.RuneCount
import Derived.Shelf.Strings.Prefix
import Derived.Shelf.Unicode.Decode
import Derived.Shelf.Strings.RuneCount
import Derived.Shelf.Unicode.DecodeSlow
import Derived.Shelf.Unicode.DecodeAny
import Derived.Shelf.Strings.BuilderCap
import Derived.Lib.LaidU8
import Derived.RangeFuncNested
import Derived.RangeFuncBound
import Derived.RangeFuncCalls
import Derived.RangeFuncLeaves
import Derived.Lib.DecodeN
import Derived.Lib.MapLaws
import Derived.Laws.DeepStrings4
import Derived.Shelf.Unicode.DecodeLastEight
import Derived.Shelf.Abstract
import Derived.Shelf.RegionOpen
import Derived.OwnWalkIn
import Derived.TacticsInMore
import Derived.LoopNIn
import Derived.LoopIn
import Derived.Lib.Hide
import Derived.Sort.BigQuietIn
import Derived.Sort.CutIn
import Derived.Lib.Builder
import Derived.Lib.FrozenHead
import Derived.Test.YtfhnfhgpaoddbaaDoorRows
import Derived.ProofKit
import Derived.Deep.DeepHandedRow
import Derived.LaidMore
import Derived.Lay
import Derived.SliceStrings
import Derived.Test.YtfhnfhgpaoddbaaDoorWWords
import Derived.Test.YtfhnfhgpaoddbaaDoorWLast
import Derived.Test.YtfhnfhgpaoddbaaDoorWTab
import Derived.Test.YtfhnfhgpaoddbaaDoorWQPut
import Derived.Test.YtfhnfhgpaoddbaaDoorWApart
import Derived.Test.YtfhnfhgpaoddbaaDoorWArr
import Derived.Test.YtfhnfhgpaoddbaaDoorWZeros
import Derived.Test.YtfhnfhgpaoddbaaDoorWFoot
import Derived.Test.YtfhnfhgpaoddbaaDoorWKept
import Derived.Test.YtfhnfhgpaoddbaaDoorWShare
import Derived.Test.YtfhnfhgpaoddbaaDoorWN
import Derived.Test.YtfhnfhgpaoddbaaDoorWEqStruct
import Derived.Test.YtfhnfhgpaoddbaaDoorWRepsOne
import Derived.Test.YtfhnfhgpaoddbaaDoorWInv
import Derived.Test.YtfhnfhgpaoddbaaDoorWGuard
import Derived.Test.YtfhnfhgpaoddbaaDoorWNEv
import Derived.Test.YtfhnfhgpaoddbaaDoorWMore
import Derived.Test.YtfhnfhgpaoddbaaDoorWx
import Derived.Test.YtfhnfhgpaoddbaaDoorZClusterLists0
import Derived.Test.YtfhnfhgpaoddbaaDoorZClusterLists1
section
namespace Go.Proofs.YtfhnfhgpaoddbaaDoor.U
open Go.RowKit Go.Proofs.YtfhnfhgpaoddbaaDoorW.PrintWords Go.Proofs.YtfhnfhgpaoddbaaDoorW.PrintLast Go.Proofs.YtfhnfhgpaoddbaaDoorW.PrintMore
attribute [local go_sem] max2_int min2_int max_two min_two max_three min_three max_four min_four   -- for this text's walks alone
set_option linter.unusedVariables false
set_option linter.unusedSimpArgs false
attribute [local go_sem high] eqA53
def bodkinref03_joined.j0 : Nat → Bool → Int → Int → Int → Int → Option (Bool)
 | 0,_,_,_,_,_ => none
 | k + 1,x13,x290000,x290001,x291000,x291001 => if x13 = true then (some true) else ((bodkinref02_Class.f k x290000).bind fun t291 => ((bodkinref02_Class.f k x291000).bind fun t292 => (if t292 = 3 then (if t291 = 1 then (some false) else (some (t291 != 2))) else (some false))))
def bodkinref03_joined.f (k : Nat) (a0_0 : Int) (a0_1 : Int) (a1_0 : Int) (a1_1 : Int) : Option (Bool) := if a0_0 = 13 then (bodkinref03_joined.j0 k (a1_0 == 10) a0_0 a0_1 a1_0 a1_1) else (bodkinref03_joined.j0 k false a0_0 a0_1 a1_0 a1_1)
set_option maxHeartbeats 8000000 in
set_option maxRecDepth 100000 in
theorem bodkinref03_joined.calls (k : Nat) (a0_0 : Int) (a0_1 : Int) (a1_0 : Int) (a1_1 : Int) (r : Bool) (w : World) (h : bodkinref03_joined.f k a0_0 a0_1 a1_0 a1_1 = some r) :
  Calls Tryd.prog 80 #[.agg #[.int .i32 a0_0,.int .i64 a0_1],.agg #[.int .i32 a1_0,.int .i64 a1_1]] w fun e w' => e = .returned (.bool r) ∧ Below w.heap.size w w' := by
 have hu30 := Tryd.underlying30
 have HB := Aside0.mk (Below.refl w.heap.size w)
 have H : (if a0_0 = 13 then (bodkinref03_joined.j0 k (a1_0 == 10) a0_0 a0_1 a1_0 a1_1) else (bodkinref03_joined.j0 k false a0_0 a0_1 a1_0 a1_1)) = some r := h
 clear h
 have HC3 := Aside0.mk H
 clear H
 go_enter Tryd.func80,Tryd.ntmps80
 go_upto_region 1 with (first | ((with_reducible refine gate_dst (N := 2) rfl ?_);refine box_event ?hg (N := 2) ?hd (cs := #[.int .i32 a0_0,.int .i64 a0_1]) (t := 30) ?hr ?_;(case hd => rfl);(case hg => rfl);(case hr => first | (go_simp;done) | (go_simp;rfl));intro gb289 hg w4 hbox hb;have n0_ := Aside0.mk (below_step (by repeat (first | (with_reducible first | exact HB.out | apply below_alloc | apply pw_below_drewN | apply below_drew1) | exact HB.out)) hb);have n1_ := Aside0.mk (hbox);have n2_ := Aside0.mk ((by rw [hg];exact (below_size (by repeat (first | (with_reducible first | exact HB.out | apply below_alloc | apply pw_below_drewN | apply below_drew1) | exact HB.out))) : w.heap.size ≤ gb289));have n3_ := Aside0.mk ((by rw [hg];exact (below_size (by repeat (first | (with_reducible first | exact HB.out | apply below_alloc | apply pw_below_drewN | apply below_drew1) | exact HB.out))) : w.heap.size ≤ gb289));clear HB;have HB := n0_;have BK289 := n1_;have GW289 := n2_;have GE289 := n3_;clear n0_ n1_ n2_ n3_;clear hb hbox hg) | ((with_reducible refine gate_dst (N := 3) rfl ?_);refine box_event ?hg (N := 3) ?hd (cs := #[.int .i32 a1_0,.int .i64 a1_1]) (t := 30) ?hr ?_;(case hd => rfl);(case hg => rfl);(case hr => first | (go_simp;done) | (go_simp;rfl));intro gb290 hg w5 hbox hb;have n0_ := Aside0.mk (blk_below (g := gb289) (o := .cells #[.int .i32 a0_0,.int .i64 a0_1] 30 (0,0)) (by (with_reducible repeat (first | refine blk_drewN ?_ _ | refine blk_drew ?_ | refine blk_alloc ?_ _));exact BK289.out) hb);have n1_ := Aside0.mk (below_step (by repeat (first | (with_reducible first | exact HB.out | apply below_alloc | apply pw_below_drewN | apply below_drew1 | refine below_set ?_ GE289.out) | exact HB.out)) hb);have n2_ := Aside0.mk (hbox);have n3_ := Aside0.mk ((by rw [hg];exact (below_size (by repeat (first | (with_reducible first | exact HB.out | apply below_alloc | apply pw_below_drewN | apply below_drew1 | refine below_set ?_ GE289.out) | exact HB.out))) : w.heap.size ≤ gb290));have n4_ := Aside0.mk ((by rw [hg];exact (below_size (by repeat (first | (with_reducible first | exact HB.out | apply below_alloc | apply pw_below_drewN | apply below_drew1 | refine below_set ?_ GE289.out) | exact HB.out))) : w.heap.size ≤ gb290));have n5_ := Aside0.mk ((by rw [hg];exact Nat.ne_of_lt (blk_lt (g := gb289) (o := .cells #[.int .i32 a0_0,.int .i64 a0_1] 30 (0,0)) (by (with_reducible repeat (first | refine blk_drewN ?_ _ | refine blk_drew ?_ | refine blk_alloc ?_ _));exact BK289.out)) : gb289 ≠ gb290));have n6_ := Aside0.mk ((by rw [hg];exact Nat.ne_of_gt (blk_lt (g := gb289) (o := .cells #[.int .i32 a0_0,.int .i64 a0_1] 30 (0,0)) (by (with_reducible repeat (first | refine blk_drewN ?_ _ | refine blk_drew ?_ | refine blk_alloc ?_ _));exact BK289.out)) : gb290 ≠ gb289));clear BK289;clear HB;have BK289 := n0_;have HB := n1_;have BK290 := n2_;have GW290 := n3_;have GE290 := n4_;have NB289_290 := n5_;have NB290_289 := n6_;clear n0_ n1_ n2_ n3_ n4_ n5_ n6_;clear hb hbox hg))
 (try simp only [Act.put,List.setIfInBounds_toArray,List.set_cons_zero,List.set_cons_succ])
 go_cut [13] (fun v13 wc => ∃ (kq : Nat) (x13_2 : Bool),v13 = .bool x13_2 ∧ Aside0 (bodkinref03_joined.j0 kq x13_2 a0_0 a0_1 a1_0 a1_1 = some r) ∧ Aside0 (kq ≤ k) ∧ Aside0 (wc.heap[gb289]? = some (.cells #[.int .i32 a0_0,.int .i64 a0_1] 30 (0,0))) ∧ Aside0 (wc.heap[gb290]? = some (.cells #[.int .i32 a1_0,.int .i64 a1_1] 30 (0,0))) ∧ Aside0 (Below w.heap.size w wc))
 case first =>
  have H := HC3.out
  clear HC3
  by_cases c6 : a0_0 = 13
  ·rw [if_pos c6] at H
   have c6b0 : (a0_0 == 13) = true := beq_iff_eq.mpr c6
   have c6b1 : (a0_0 != 13) = false := bne_eq_false_iff_eq.mpr c6
   clear c6
   (first | rw [c6b0] | (simp only [i64_w,i32_w];rw [c6b0]) | skip)
   have H' := Aside0.mk H
   clear H
   have hnb7 := NB289_290.out
   have hnc7 := NB290_289.out
   have hcz8_0 : w5.cell? ⟨gb289,0,none⟩ = some (.int .i32 a0_0) := (blk_cell BK289.out 0).trans rfl
   have hcz8_1 : w5.cell? ⟨gb289,1,none⟩ = some (.int .i64 a0_1) := (blk_cell BK289.out 1).trans rfl
   have hfz8_0 := blk_frozen BK289.out 0
   have hfz8_1 := blk_frozen BK289.out 1
   have hcz9_0 : w5.cell? ⟨gb290,0,none⟩ = some (.int .i32 a1_0) := (blk_cell BK290.out 0).trans rfl
   have hcz9_1 : w5.cell? ⟨gb290,1,none⟩ = some (.int .i64 a1_1) := (blk_cell BK290.out 1).trans rfl
   have hfz9_0 := blk_frozen BK290.out 0
   have hfz9_1 := blk_frozen BK290.out 1
   go_wp2
   go_meet
   case rel => exact ⟨_,((a1_0 == 10)),(by first | rfl | (simp;done) | (simp [*];done)),H',⟨by first | omega | exact Nat.le_refl _⟩,⟨by (with_reducible repeat (first | refine blk_drewN ?_ _ | refine blk_drew ?_ | refine blk_alloc ?_ _));exact BK289.out⟩,⟨by (with_reducible repeat (first | refine blk_drewN ?_ _ | refine blk_drew ?_ | refine blk_alloc ?_ _));exact BK290.out⟩,⟨by repeat (first | (with_reducible first | exact HB.out | apply below_alloc | apply pw_below_drewN | apply below_drew1 | refine below_set ?_ GE289.out | refine below_set ?_ GE290.out) | exact HB.out)⟩⟩
  ·rw [if_neg c6] at H
   have c6b0 : (a0_0 == 13) = false := beq_eq_false_iff_ne.mpr c6
   have c6b1 : (a0_0 != 13) = true := bne_iff_ne.mpr c6
   (first | rw [c6b0] | (simp only [i64_w,i32_w];rw [c6b0]) | skip)
   have H' := Aside0.mk H
   clear H
   have hnb10 := NB289_290.out
   have hnc10 := NB290_289.out
   have hcz11_0 : w5.cell? ⟨gb289,0,none⟩ = some (.int .i32 a0_0) := (blk_cell BK289.out 0).trans rfl
   have hcz11_1 : w5.cell? ⟨gb289,1,none⟩ = some (.int .i64 a0_1) := (blk_cell BK289.out 1).trans rfl
   have hfz11_0 := blk_frozen BK289.out 0
   have hfz11_1 := blk_frozen BK289.out 1
   go_wp2
   go_meet
   case rel => exact ⟨_,(false),(by first | rfl | (simp;done) | (simp [*];done)),H',⟨by first | omega | exact Nat.le_refl _⟩,⟨by (with_reducible repeat (first | refine blk_drewN ?_ _ | refine blk_drew ?_ | refine blk_alloc ?_ _));exact BK289.out⟩,⟨by (with_reducible repeat (first | refine blk_drewN ?_ _ | refine blk_drew ?_ | refine blk_alloc ?_ _));exact BK290.out⟩,⟨by repeat (first | (with_reducible first | exact HB.out | apply below_alloc | apply pw_below_drewN | apply below_drew1 | refine below_set ?_ GE289.out | refine below_set ?_ GE290.out) | exact HB.out)⟩⟩
 case rest =>
  clear HC3
  try clear c1
  try clear p2
  try clear c6
  try clear c6b0
  try clear c6b1
  try clear c7
  try clear c8
  try clear c10
  try clear hcz11_0
  try clear hcz11_1
  try clear hcz8_0
  try clear hcz8_1
  try clear hcz9_0
  try clear hcz9_1
  try clear hfz11_0
  try clear hfz11_1
  try clear hfz8_0
  try clear hfz8_1
  try clear hfz9_0
  try clear hfz9_1
  obtain ⟨kq,x13_2,rfl,HA,HJ2,BK289,BK290,HB⟩ := hcut
  cases kq with
  | zero => exact absurd HA.out (by simp [bodkinref03_joined.j0])
  | succ kj2 =>
   have H := HA.out
   clear HA
   simp only [bodkinref03_joined.j0] at H
   by_cases c12 : x13_2 = true
   ·subst c12
    have H1 : (some true) = some r := by rw [if_pos rfl] at H;exact H
    clear H
    have H := H1
    clear H1
    obtain rfl := Option.some.inj H
    go_wp2
    go_ret
    exact ⟨by first | rfl | (simp [errW_none,errW_some] <;> rfl) | (simp [*,errW_none,errW_some] <;> rfl),by repeat (first | (with_reducible first | exact HB.out | apply below_alloc | apply pw_below_drewN | apply below_drew1 | refine below_set ?_ GE289.out | refine below_set ?_ GE290.out) | exact HB.out)⟩
   ·replace c12 := Bool.eq_false_iff.mpr c12
    subst c12
    have H1 : ((bodkinref02_Class.f kj2 a0_0).bind fun t291 => ((bodkinref02_Class.f kj2 a1_0).bind fun t292 => (if t292 = 3 then (if t291 = 1 then (some false) else (some (t291 != 2))) else (some false)))) = some r := by rw [if_neg (show ¬ (false = true) by decide)] at H;exact H
    clear H
    have H := H1
    clear H1
    replace H := Option.bind_eq_some_iff.mp H
    obtain ⟨t291,A130,H⟩ := H
    replace H : ((bodkinref02_Class.f kj2 a1_0).bind fun t292 => (if t292 = 3 then (if t291 = 1 then (some false) else (some (t291 != 2))) else (some false))) = some r := H
    have A13 := Aside0.mk A130
    clear A130
    replace H := Option.bind_eq_some_iff.mp H
    obtain ⟨t292,A140,H⟩ := H
    replace H : (if t292 = 3 then (if t291 = 1 then (some false) else (some (t291 != 2))) else (some false)) = some r := H
    have A14 := Aside0.mk A140
    clear A140
    by_cases c15 : t292 = 3
    ·rw [if_pos c15] at H
     have c15b0 : (t292 == 3) = true := beq_iff_eq.mpr c15
     have c15b1 : (t292 != 3) = false := bne_eq_false_iff_eq.mpr c15
     clear c15
     by_cases c16 : t291 = 1
     ·rw [if_pos c16] at H
      have c16b0 : (t291 == 1) = true := beq_iff_eq.mpr c16
      have c16b1 : (t291 != 1) = false := bne_eq_false_iff_eq.mpr c16
      clear c16
      obtain rfl := Option.some.inj H
      have hnb17 := NB289_290.out
      have hnc17 := NB290_289.out
      have hcz18_0 : wc.cell? ⟨gb289,0,none⟩ = some (.int .i32 a0_0) := (blk_cell BK289.out 0).trans rfl
      have hcz18_1 : wc.cell? ⟨gb289,1,none⟩ = some (.int .i64 a0_1) := (blk_cell BK289.out 1).trans rfl
      have hfz18_0 := blk_frozen BK289.out 0
      have hfz18_1 := blk_frozen BK289.out 1
      go_wp2_with (first | ((with_reducible refine gate_callee (f := 81) rfl ?_);refine goesL_ (some 16) rfl rfl Tryd.func81 (by kernel_rfl) rfl #[.int .i32 a0_0] rfl (by (try simp only [List.map_toArray,List.map_cons,List.map_nil]);first | done | rfl | (simp only [List.length_drop,List.length_take];rfl)) ?_;(with_reducible refine (bodkinref02_Class.calls kj2 a0_0 t291 _ A13.out).mono ?_);rintro e w19 ⟨rfl,hb⟩;refine ⟨_,rfl,?_⟩;have n0_ := Aside0.mk (blk_below (g := gb289) (o := .cells #[.int .i32 a0_0,.int .i64 a0_1] 30 (0,0)) (by (with_reducible repeat (first | refine blk_drewN ?_ _ | refine blk_drew ?_ | refine blk_alloc ?_ _));exact BK289.out) hb);have n1_ := Aside0.mk (blk_below (g := gb290) (o := .cells #[.int .i32 a1_0,.int .i64 a1_1] 30 (0,0)) (by (with_reducible repeat (first | refine blk_drewN ?_ _ | refine blk_drew ?_ | refine blk_alloc ?_ _));exact BK290.out) hb);have n2_ := Aside0.mk (below_step (by repeat (first | (with_reducible first | exact HB.out | apply below_alloc | apply pw_below_drewN | apply below_drew1 | refine below_set ?_ GE289.out | refine below_set ?_ GE290.out) | exact HB.out)) hb);clear BK289;clear BK290;clear HB;have BK289 := n0_;have BK290 := n1_;have HB := n2_;clear n0_ n1_ n2_;(try clear hb);(try clear hb2);(try clear hk);(try clear hi);have hcz20_0 : w19.cell? ⟨gb290,0,none⟩ = some (.int .i32 a1_0) := (blk_cell BK290.out 0).trans rfl;have hcz20_1 : w19.cell? ⟨gb290,1,none⟩ = some (.int .i64 a1_1) := (blk_cell BK290.out 1).trans rfl;have hfz20_0 := blk_frozen BK290.out 0;have hfz20_1 := blk_frozen BK290.out 1) | ((with_reducible refine gate_callee (f := 81) rfl ?_);refine goesL_ (some 19) rfl rfl Tryd.func81 (by kernel_rfl) rfl #[.int .i32 a1_0] rfl (by (try simp only [List.map_toArray,List.map_cons,List.map_nil]);first | done | rfl | (simp only [List.length_drop,List.length_take];rfl)) ?_;(with_reducible refine (bodkinref02_Class.calls kj2 a1_0 t292 _ A14.out).mono ?_);rintro e w21 ⟨rfl,hb⟩;refine ⟨_,rfl,?_⟩;have n0_ := Aside0.mk (blk_below (g := gb289) (o := .cells #[.int .i32 a0_0,.int .i64 a0_1] 30 (0,0)) (by (with_reducible repeat (first | refine blk_drewN ?_ _ | refine blk_drew ?_ | refine blk_alloc ?_ _));exact BK289.out) hb);have n1_ := Aside0.mk (blk_below (g := gb290) (o := .cells #[.int .i32 a1_0,.int .i64 a1_1] 30 (0,0)) (by (with_reducible repeat (first | refine blk_drewN ?_ _ | refine blk_drew ?_ | refine blk_alloc ?_ _));exact BK290.out) hb);have n2_ := Aside0.mk (below_step (by repeat (first | (with_reducible first | exact HB.out | apply below_alloc | apply pw_below_drewN | apply below_drew1 | refine below_set ?_ GE289.out | refine below_set ?_ GE290.out) | exact HB.out)) hb);clear BK289;clear BK290;clear HB;have BK289 := n0_;have BK290 := n1_;have HB := n2_;clear n0_ n1_ n2_;(try clear hb);(try clear hb2);(try clear hk);(try clear hi)))
      go_ret
      exact ⟨by first | rfl | (simp [errW_none,errW_some] <;> rfl) | (simp [*,errW_none,errW_some] <;> rfl),by repeat (first | (with_reducible first | exact HB.out | apply below_alloc | apply pw_below_drewN | apply below_drew1 | refine below_set ?_ GE289.out | refine below_set ?_ GE290.out) | exact HB.out)⟩
     ·rw [if_neg c16] at H
      have c16b0 : (t291 == 1) = false := beq_eq_false_iff_ne.mpr c16
      have c16b1 : (t291 != 1) = true := bne_iff_ne.mpr c16
      obtain rfl := Option.some.inj H
      have hnb22 := NB289_290.out
      have hnc22 := NB290_289.out
      have hcz23_0 : wc.cell? ⟨gb289,0,none⟩ = some (.int .i32 a0_0) := (blk_cell BK289.out 0).trans rfl
      have hcz23_1 : wc.cell? ⟨gb289,1,none⟩ = some (.int .i64 a0_1) := (blk_cell BK289.out 1).trans rfl
      have hfz23_0 := blk_frozen BK289.out 0
      have hfz23_1 := blk_frozen BK289.out 1
      go_wp2_with (first | ((with_reducible refine gate_callee (f := 81) rfl ?_);refine goesL_ (some 16) rfl rfl Tryd.func81 (by kernel_rfl) rfl #[.int .i32 a0_0] rfl (by (try simp only [List.map_toArray,List.map_cons,List.map_nil]);first | done | rfl | (simp only [List.length_drop,List.length_take];rfl)) ?_;(with_reducible refine (bodkinref02_Class.calls kj2 a0_0 t291 _ A13.out).mono ?_);rintro e w24 ⟨rfl,hb⟩;refine ⟨_,rfl,?_⟩;have n0_ := Aside0.mk (blk_below (g := gb289) (o := .cells #[.int .i32 a0_0,.int .i64 a0_1] 30 (0,0)) (by (with_reducible repeat (first | refine blk_drewN ?_ _ | refine blk_drew ?_ | refine blk_alloc ?_ _));exact BK289.out) hb);have n1_ := Aside0.mk (blk_below (g := gb290) (o := .cells #[.int .i32 a1_0,.int .i64 a1_1] 30 (0,0)) (by (with_reducible repeat (first | refine blk_drewN ?_ _ | refine blk_drew ?_ | refine blk_alloc ?_ _));exact BK290.out) hb);have n2_ := Aside0.mk (below_step (by repeat (first | (with_reducible first | exact HB.out | apply below_alloc | apply pw_below_drewN | apply below_drew1 | refine below_set ?_ GE289.out | refine below_set ?_ GE290.out) | exact HB.out)) hb);clear BK289;clear BK290;clear HB;have BK289 := n0_;have BK290 := n1_;have HB := n2_;clear n0_ n1_ n2_;(try clear hb);(try clear hb2);(try clear hk);(try clear hi);have hcz25_0 : w24.cell? ⟨gb290,0,none⟩ = some (.int .i32 a1_0) := (blk_cell BK290.out 0).trans rfl;have hcz25_1 : w24.cell? ⟨gb290,1,none⟩ = some (.int .i64 a1_1) := (blk_cell BK290.out 1).trans rfl;have hfz25_0 := blk_frozen BK290.out 0;have hfz25_1 := blk_frozen BK290.out 1) | ((with_reducible refine gate_callee (f := 81) rfl ?_);refine goesL_ (some 19) rfl rfl Tryd.func81 (by kernel_rfl) rfl #[.int .i32 a1_0] rfl (by (try simp only [List.map_toArray,List.map_cons,List.map_nil]);first | done | rfl | (simp only [List.length_drop,List.length_take];rfl)) ?_;(with_reducible refine (bodkinref02_Class.calls kj2 a1_0 t292 _ A14.out).mono ?_);rintro e w26 ⟨rfl,hb⟩;refine ⟨_,rfl,?_⟩;have n0_ := Aside0.mk (blk_below (g := gb289) (o := .cells #[.int .i32 a0_0,.int .i64 a0_1] 30 (0,0)) (by (with_reducible repeat (first | refine blk_drewN ?_ _ | refine blk_drew ?_ | refine blk_alloc ?_ _));exact BK289.out) hb);have n1_ := Aside0.mk (blk_below (g := gb290) (o := .cells #[.int .i32 a1_0,.int .i64 a1_1] 30 (0,0)) (by (with_reducible repeat (first | refine blk_drewN ?_ _ | refine blk_drew ?_ | refine blk_alloc ?_ _));exact BK290.out) hb);have n2_ := Aside0.mk (below_step (by repeat (first | (with_reducible first | exact HB.out | apply below_alloc | apply pw_below_drewN | apply below_drew1 | refine below_set ?_ GE289.out | refine below_set ?_ GE290.out) | exact HB.out)) hb);clear BK289;clear BK290;clear HB;have BK289 := n0_;have BK290 := n1_;have HB := n2_;clear n0_ n1_ n2_;(try clear hb);(try clear hb2);(try clear hk);(try clear hi)))
      go_ret
      exact ⟨by first | rfl | (simp [errW_none,errW_some] <;> rfl) | (simp [*,errW_none,errW_some] <;> rfl),by repeat (first | (with_reducible first | exact HB.out | apply below_alloc | apply pw_below_drewN | apply below_drew1 | refine below_set ?_ GE289.out | refine below_set ?_ GE290.out) | exact HB.out)⟩
    ·rw [if_neg c15] at H
     have c15b0 : (t292 == 3) = false := beq_eq_false_iff_ne.mpr c15
     have c15b1 : (t292 != 3) = true := bne_iff_ne.mpr c15
     obtain rfl := Option.some.inj H
     have hnb27 := NB289_290.out
     have hnc27 := NB290_289.out
     have hcz28_0 : wc.cell? ⟨gb289,0,none⟩ = some (.int .i32 a0_0) := (blk_cell BK289.out 0).trans rfl
     have hcz28_1 : wc.cell? ⟨gb289,1,none⟩ = some (.int .i64 a0_1) := (blk_cell BK289.out 1).trans rfl
     have hfz28_0 := blk_frozen BK289.out 0
     have hfz28_1 := blk_frozen BK289.out 1
     go_wp2_with (first | ((with_reducible refine gate_callee (f := 81) rfl ?_);refine goesL_ (some 16) rfl rfl Tryd.func81 (by kernel_rfl) rfl #[.int .i32 a0_0] rfl (by (try simp only [List.map_toArray,List.map_cons,List.map_nil]);first | done | rfl | (simp only [List.length_drop,List.length_take];rfl)) ?_;(with_reducible refine (bodkinref02_Class.calls kj2 a0_0 t291 _ A13.out).mono ?_);rintro e w29 ⟨rfl,hb⟩;refine ⟨_,rfl,?_⟩;have n0_ := Aside0.mk (blk_below (g := gb289) (o := .cells #[.int .i32 a0_0,.int .i64 a0_1] 30 (0,0)) (by (with_reducible repeat (first | refine blk_drewN ?_ _ | refine blk_drew ?_ | refine blk_alloc ?_ _));exact BK289.out) hb);have n1_ := Aside0.mk (blk_below (g := gb290) (o := .cells #[.int .i32 a1_0,.int .i64 a1_1] 30 (0,0)) (by (with_reducible repeat (first | refine blk_drewN ?_ _ | refine blk_drew ?_ | refine blk_alloc ?_ _));exact BK290.out) hb);have n2_ := Aside0.mk (below_step (by repeat (first | (with_reducible first | exact HB.out | apply below_alloc | apply pw_below_drewN | apply below_drew1 | refine below_set ?_ GE289.out | refine below_set ?_ GE290.out) | exact HB.out)) hb);clear BK289;clear BK290;clear HB;have BK289 := n0_;have BK290 := n1_;have HB := n2_;clear n0_ n1_ n2_;(try clear hb);(try clear hb2);(try clear hk);(try clear hi);have hcz30_0 : w29.cell? ⟨gb290,0,none⟩ = some (.int .i32 a1_0) := (blk_cell BK290.out 0).trans rfl;have hcz30_1 : w29.cell? ⟨gb290,1,none⟩ = some (.int .i64 a1_1) := (blk_cell BK290.out 1).trans rfl;have hfz30_0 := blk_frozen BK290.out 0;have hfz30_1 := blk_frozen BK290.out 1) | ((with_reducible refine gate_callee (f := 81) rfl ?_);refine goesL_ (some 19) rfl rfl Tryd.func81 (by kernel_rfl) rfl #[.int .i32 a1_0] rfl (by (try simp only [List.map_toArray,List.map_cons,List.map_nil]);first | done | rfl | (simp only [List.length_drop,List.length_take];rfl)) ?_;(with_reducible refine (bodkinref02_Class.calls kj2 a1_0 t292 _ A14.out).mono ?_);rintro e w31 ⟨rfl,hb⟩;refine ⟨_,rfl,?_⟩;have n0_ := Aside0.mk (blk_below (g := gb289) (o := .cells #[.int .i32 a0_0,.int .i64 a0_1] 30 (0,0)) (by (with_reducible repeat (first | refine blk_drewN ?_ _ | refine blk_drew ?_ | refine blk_alloc ?_ _));exact BK289.out) hb);have n1_ := Aside0.mk (blk_below (g := gb290) (o := .cells #[.int .i32 a1_0,.int .i64 a1_1] 30 (0,0)) (by (with_reducible repeat (first | refine blk_drewN ?_ _ | refine blk_drew ?_ | refine blk_alloc ?_ _));exact BK290.out) hb);have n2_ := Aside0.mk (below_step (by repeat (first | (with_reducible first | exact HB.out | apply below_alloc | apply pw_below_drewN | apply below_drew1 | refine below_set ?_ GE289.out | refine below_set ?_ GE290.out) | exact HB.out)) hb);clear BK289;clear BK290;clear HB;have BK289 := n0_;have BK290 := n1_;have HB := n2_;clear n0_ n1_ n2_;(try clear hb);(try clear hb2);(try clear hk);(try clear hi)))
     go_ret
     exact ⟨by first | rfl | (simp [errW_none,errW_some] <;> rfl) | (simp [*,errW_none,errW_some] <;> rfl),by repeat (first | (with_reducible first | exact HB.out | apply below_alloc | apply pw_below_drewN | apply below_drew1 | refine below_set ?_ GE289.out | refine below_set ?_ GE290.out) | exact HB.out)⟩
def bodkinref02_Cells.f (k : Nat) (a0 : Int) : Option (Int) := (bodkinref02_Class.f k a0).bind fun t293 => (if t293 = 1 then (some 0) else (if t293 = 4 then (some 2) else (if t293 = 2 then (if a0 ≤ 127 then (some 2) else (some 1)) else (some 1))))
set_option maxHeartbeats 8000000 in
set_option maxRecDepth 100000 in
theorem bodkinref02_Cells.calls (k : Nat) (a0 : Int) (r : Int) (w : World) (h : bodkinref02_Cells.f k a0 = some r) :
  Calls Tryd.prog 82 #[.int .i32 a0] w fun e w' => e = .returned (.int .i64 r) ∧ Below w.heap.size w w' := by
 have HB := Aside0.mk (Below.refl w.heap.size w)
 have H : ((bodkinref02_Class.f k a0).bind fun t293 => (if t293 = 1 then (some 0) else (if t293 = 4 then (some 2) else (if t293 = 2 then (if a0 ≤ 127 then (some 2) else (some 1)) else (some 1))))) = some r := h
 clear h
 replace H := Option.bind_eq_some_iff.mp H
 obtain ⟨t293,A20,H⟩ := H
 replace H : (if t293 = 1 then (some 0) else (if t293 = 4 then (some 2) else (if t293 = 2 then (if a0 ≤ 127 then (some 2) else (some 1)) else (some 1)))) = some r := H
 have A2 := Aside0.mk A20
 clear A20
 by_cases c3 : t293 = 1
 ·rw [if_pos c3] at H
  have c3b0 : (t293 == 1) = true := beq_iff_eq.mpr c3
  have c3b1 : (t293 != 1) = false := bne_eq_false_iff_eq.mpr c3
  clear c3
  obtain rfl := Option.some.inj H
  go_enter Tryd.func82,Tryd.ntmps82
  go_wp2_with (first | ((with_reducible refine gate_callee (f := 81) rfl ?_);refine goesL_ (some 5) rfl rfl Tryd.func81 (by kernel_rfl) rfl #[.int .i32 a0] rfl (by (try simp only [List.map_toArray,List.map_cons,List.map_nil]);first | done | rfl | (simp only [List.length_drop,List.length_take];rfl)) ?_;(with_reducible refine (bodkinref02_Class.calls k a0 t293 _ A2.out).mono ?_);rintro e w4 ⟨rfl,hb⟩;refine ⟨_,rfl,?_⟩;have n0_ := Aside0.mk (below_step (by repeat (first | (with_reducible first | exact HB.out | apply below_alloc | apply pw_below_drewN | apply below_drew1) | exact HB.out)) hb);clear HB;have HB := n0_;clear n0_;(try clear hb);(try clear hb2);(try clear hk);(try clear hi)))
  go_ret
  exact ⟨by first | rfl | (simp [errW_none,errW_some] <;> rfl) | (simp [*,errW_none,errW_some] <;> rfl),by repeat (first | (with_reducible first | exact HB.out | apply below_alloc | apply pw_below_drewN | apply below_drew1) | exact HB.out)⟩
 ·rw [if_neg c3] at H
  have c3b0 : (t293 == 1) = false := beq_eq_false_iff_ne.mpr c3
  have c3b1 : (t293 != 1) = true := bne_iff_ne.mpr c3
  by_cases c5 : t293 = 4
  ·rw [if_pos c5] at H
   have c5b0 : (t293 == 4) = true := beq_iff_eq.mpr c5
   have c5b1 : (t293 != 4) = false := bne_eq_false_iff_eq.mpr c5
   clear c5
   obtain rfl := Option.some.inj H
   go_enter Tryd.func82,Tryd.ntmps82
   go_wp2_with (first | ((with_reducible refine gate_callee (f := 81) rfl ?_);refine goesL_ (some 5) rfl rfl Tryd.func81 (by kernel_rfl) rfl #[.int .i32 a0] rfl (by (try simp only [List.map_toArray,List.map_cons,List.map_nil]);first | done | rfl | (simp only [List.length_drop,List.length_take];rfl)) ?_;(with_reducible refine (bodkinref02_Class.calls k a0 t293 _ A2.out).mono ?_);rintro e w6 ⟨rfl,hb⟩;refine ⟨_,rfl,?_⟩;have n0_ := Aside0.mk (below_step (by repeat (first | (with_reducible first | exact HB.out | apply below_alloc | apply pw_below_drewN | apply below_drew1) | exact HB.out)) hb);clear HB;have HB := n0_;clear n0_;(try clear hb);(try clear hb2);(try clear hk);(try clear hi)))
   go_ret
   exact ⟨by first | rfl | (simp [errW_none,errW_some] <;> rfl) | (simp [*,errW_none,errW_some] <;> rfl),by repeat (first | (with_reducible first | exact HB.out | apply below_alloc | apply pw_below_drewN | apply below_drew1) | exact HB.out)⟩
  ·rw [if_neg c5] at H
   have c5b0 : (t293 == 4) = false := beq_eq_false_iff_ne.mpr c5
   have c5b1 : (t293 != 4) = true := bne_iff_ne.mpr c5
   by_cases c7 : t293 = 2
   ·rw [if_pos c7] at H
    have c7b0 : (t293 == 2) = true := beq_iff_eq.mpr c7
    have c7b1 : (t293 != 2) = false := bne_eq_false_iff_eq.mpr c7
    clear c7
    by_cases c8 : a0 ≤ 127
    ·rw [if_pos c8] at H
     have c8b0 : decide (a0 ≤ 127) = true := decide_eq_true c8
     clear c8
     obtain rfl := Option.some.inj H
     go_enter Tryd.func82,Tryd.ntmps82
     go_wp2_with (first | ((with_reducible refine gate_callee (f := 81) rfl ?_);refine goesL_ (some 5) rfl rfl Tryd.func81 (by kernel_rfl) rfl #[.int .i32 a0] rfl (by (try simp only [List.map_toArray,List.map_cons,List.map_nil]);first | done | rfl | (simp only [List.length_drop,List.length_take];rfl)) ?_;(with_reducible refine (bodkinref02_Class.calls k a0 t293 _ A2.out).mono ?_);rintro e w9 ⟨rfl,hb⟩;refine ⟨_,rfl,?_⟩;have n0_ := Aside0.mk (below_step (by repeat (first | (with_reducible first | exact HB.out | apply below_alloc | apply pw_below_drewN | apply below_drew1) | exact HB.out)) hb);clear HB;have HB := n0_;clear n0_;(try clear hb);(try clear hb2);(try clear hk);(try clear hi)))
     go_ret
     exact ⟨by first | rfl | (simp [errW_none,errW_some] <;> rfl) | (simp [*,errW_none,errW_some] <;> rfl),by repeat (first | (with_reducible first | exact HB.out | apply below_alloc | apply pw_below_drewN | apply below_drew1) | exact HB.out)⟩
    ·rw [if_neg c8] at H
     have c8b0 : decide (a0 ≤ 127) = false := decide_eq_false c8
     clear c8
     obtain rfl := Option.some.inj H
     go_enter Tryd.func82,Tryd.ntmps82
     go_wp2_with (first | ((with_reducible refine gate_callee (f := 81) rfl ?_);refine goesL_ (some 5) rfl rfl Tryd.func81 (by kernel_rfl) rfl #[.int .i32 a0] rfl (by (try simp only [List.map_toArray,List.map_cons,List.map_nil]);first | done | rfl | (simp only [List.length_drop,List.length_take];rfl)) ?_;(with_reducible refine (bodkinref02_Class.calls k a0 t293 _ A2.out).mono ?_);rintro e w10 ⟨rfl,hb⟩;refine ⟨_,rfl,?_⟩;have n0_ := Aside0.mk (below_step (by repeat (first | (with_reducible first | exact HB.out | apply below_alloc | apply pw_below_drewN | apply below_drew1) | exact HB.out)) hb);clear HB;have HB := n0_;clear n0_;(try clear hb);(try clear hb2);(try clear hk);(try clear hi)))
     go_ret
     exact ⟨by first | rfl | (simp [errW_none,errW_some] <;> rfl) | (simp [*,errW_none,errW_some] <;> rfl),by repeat (first | (with_reducible first | exact HB.out | apply below_alloc | apply pw_below_drewN | apply below_drew1) | exact HB.out)⟩
   ·rw [if_neg c7] at H
    have c7b0 : (t293 == 2) = false := beq_eq_false_iff_ne.mpr c7
    have c7b1 : (t293 != 2) = true := bne_iff_ne.mpr c7
    obtain rfl := Option.some.inj H
    go_enter Tryd.func82,Tryd.ntmps82
    go_wp2_with (first | ((with_reducible refine gate_callee (f := 81) rfl ?_);refine goesL_ (some 5) rfl rfl Tryd.func81 (by kernel_rfl) rfl #[.int .i32 a0] rfl (by (try simp only [List.map_toArray,List.map_cons,List.map_nil]);first | done | rfl | (simp only [List.length_drop,List.length_take];rfl)) ?_;(with_reducible refine (bodkinref02_Class.calls k a0 t293 _ A2.out).mono ?_);rintro e w11 ⟨rfl,hb⟩;refine ⟨_,rfl,?_⟩;have n0_ := Aside0.mk (below_step (by repeat (first | (with_reducible first | exact HB.out | apply below_alloc | apply pw_below_drewN | apply below_drew1) | exact HB.out)) hb);clear HB;have HB := n0_;clear n0_;(try clear hb);(try clear hb2);(try clear hk);(try clear hi)))
    go_ret
    exact ⟨by first | rfl | (simp [errW_none,errW_some] <;> rfl) | (simp [*,errW_none,errW_some] <;> rfl),by repeat (first | (with_reducible first | exact HB.out | apply below_alloc | apply pw_below_drewN | apply below_drew1) | exact HB.out)⟩
def bodkinlaw03_same.l0 : Nat → List (S53) → List (S53) → Int → Option (Bool)
 | 0,_,_,_ => none
 | k + 1,x0,x1,x5 => if x5 < (x0.length : Int) then (if 0 ≤ x5 then (if x5 < (x1.length : Int) then (if (!(((rd_T53 x0 x5).f0) == ((rd_T53 x1 x5).f0)) || (!(((rd_T53 x0 x5).f1) == ((rd_T53 x1 x5).f1)) || (!(((rd_T53 x0 x5).f2) == ((rd_T53 x1 x5).f2)) || (!(((rd_T53 x0 x5).f3) == ((rd_T53 x1 x5).f3)))))) = true then (some false) else (bodkinlaw03_same.l0 k x0 x1 (wrap64 (x5 + 1)))) else (none)) else (none)) else (some true)
def bodkinlaw03_same.f (k : Nat) (l0 : List (S53)) (l1 : List (S53)) : Option (Bool) := if (l0.length : Int) = (l1.length : Int) then (bodkinlaw03_same.l0 k l0 l1 0) else (some false)
set_option maxHeartbeats 8000000 in
set_option maxRecDepth 100000 in
theorem bodkinlaw03_same.calls (k : Nat) (A0 : Option Addr) (c0 : Nat) (l0 : List (S53)) (A1 : Option Addr) (c1 : Nat) (l1 : List (S53)) (r : Bool) (w : World) (hr0 : Kd.C k53 w A0 l0.length l0) (hc0 : l0.length ≤ c0) (hr1 : Kd.C k53 w A1 l1.length l1) (hc1 : l1.length ≤ c1) (h : bodkinlaw03_same.f k l0 l1 = some r) :
  Calls Tryd.prog 44 #[.slice A0 l0.length c0,.slice A1 l1.length c1] w fun e w' => e = .returned (.bool r) ∧ Drawn0 w w' := by
 have hu53 := Tryd.underlying53
 have HR0 := Aside0.mk hr0
 have HC0 := Aside0.mk hc0
 clear hr0 hc0
 have HR1 := Aside0.mk hr1
 have HC1 := Aside0.mk hc1
 clear hr1 hc1
 have H : (if (l0.length : Int) = (l1.length : Int) then (bodkinlaw03_same.l0 k l0 l1 0) else (some false)) = some r := h
 clear h
 by_cases c3 : (l0.length : Int) = (l1.length : Int)
 ·rw [if_pos c3] at H
  have c3b0 : ((l0.length : Int) == (l1.length : Int)) = true := beq_iff_eq.mpr c3
  have c3b1 : ((l0.length : Int) != (l1.length : Int)) = false := bne_eq_false_iff_eq.mpr c3
  have c3b2 : (l0.length == l1.length) = true := by first | simpa using c3 | (simp at c3 ⊢;omega)
  clear c3
  have H' := Aside0.mk H
  clear H
  go_enter Tryd.func44,Tryd.ntmps44
  go_wp2
  repeat (go_quiet (fail);try go_wp2)
  go_loopg [5] k (fun kq v5 w' => ∃ (x5_1 : Int),v5 = .int .i64 x5_1 ∧ Aside0 (bodkinlaw03_same.l0 kq l0 l1 x5_1 = some r) ∧ Aside0 (kq ≤ k) ∧ Drawn0 w w')
  case atStart => exact ⟨(0),(by first | rfl | (simp;done) | (simp [*];done)),H',⟨Nat.le_refl _⟩,by repeat (first | exact Drawn0.refl _ | apply Drawn0.step)⟩
  case round =>
   clear H'
   try clear c1
   try clear p2
   try clear c3
   try clear c3b0
   try clear c3b1
   try clear c3b2
   obtain ⟨x5_1,rfl,HA,HK1,⟨m1,rfl⟩⟩ := hrel
   cases gk with
   | zero => exact absurd HA.out (by simp [bodkinlaw03_same.l0])
   | succ k1 =>
    have H := HA.out
    clear HA
    simp only [bodkinlaw03_same.l0] at H
    by_cases c4 : x5_1 < (l0.length : Int)
    ·rw [if_pos c4] at H
     have c4b0 : decide (x5_1 < (l0.length : Int)) = true := decide_eq_true c4
     clear c4
     by_cases c5 : 0 ≤ x5_1
     ·rw [if_pos c5] at H
      have c5b0 : decide (0 ≤ x5_1) = true := decide_eq_true c5
      clear c5
      by_cases c6 : x5_1 < (l1.length : Int)
      ·rw [if_pos c6] at H
       have c6b0 : decide (x5_1 < (l1.length : Int)) = true := decide_eq_true c6
       clear c6
       by_cases c7 : (!(((rd_T53 l0 x5_1).f0) == ((rd_T53 l1 x5_1).f0)) || (!(((rd_T53 l0 x5_1).f1) == ((rd_T53 l1 x5_1).f1)) || (!(((rd_T53 l0 x5_1).f2) == ((rd_T53 l1 x5_1).f2)) || (!(((rd_T53 l0 x5_1).f3) == ((rd_T53 l1 x5_1).f3)))))) = true
       ·rw [if_pos c7] at H
        have c7b0 : (!(((rd_T53 l0 x5_1).f0) == ((rd_T53 l1 x5_1).f0)) || (!(((rd_T53 l0 x5_1).f1) == ((rd_T53 l1 x5_1).f1)) || (!(((rd_T53 l0 x5_1).f2) == ((rd_T53 l1 x5_1).f2)) || (!(((rd_T53 l0 x5_1).f3) == ((rd_T53 l1 x5_1).f3)))))) = true := c7
        clear c7
        obtain rfl := Option.some.inj H
        have p320 : 0 ≤ (x5_1 : Int) := of_decide_eq_true (by first | (with_reducible assumption) | assumption)
        have q320 : x5_1 < (l0.length : Int) := of_decide_eq_true (by first | (with_reducible assumption) | assumption)
        obtain ⟨ad320,e320,hx320_0,hx320_1,hx320_2,hx320_3⟩ := at_T53 HR0.out x5_1 p320 q320
        cases e320
        replace p320 := eq_true p320
        replace q320 := eq_true q320
        have p321 : 0 ≤ (x5_1 : Int) := of_decide_eq_true (by first | (with_reducible assumption) | assumption)
        have q321 : x5_1 < (l1.length : Int) := of_decide_eq_true (by first | (with_reducible assumption) | assumption)
        obtain ⟨ad321,e321,hx321_0,hx321_1,hx321_2,hx321_3⟩ := at_T53 HR1.out x5_1 p321 q321
        cases e321
        replace p321 := eq_true p321
        replace q321 := eq_true q321
        go_wp2
        repeat (go_quiet (fail);try go_wp2)
        go_ret
        exact ⟨by first | rfl | (simp;done) | (simp [*];done),by repeat (first | exact Drawn0.refl _ | apply Drawn0.step)⟩
       ·rw [if_neg c7] at H
        have c7b0 : (!(((rd_T53 l0 x5_1).f0) == ((rd_T53 l1 x5_1).f0)) || (!(((rd_T53 l0 x5_1).f1) == ((rd_T53 l1 x5_1).f1)) || (!(((rd_T53 l0 x5_1).f2) == ((rd_T53 l1 x5_1).f2)) || (!(((rd_T53 l0 x5_1).f3) == ((rd_T53 l1 x5_1).f3)))))) = false := by simpa using c7
        clear c7
        have H' := Aside0.mk H
        clear H
        have p320 : 0 ≤ (x5_1 : Int) := of_decide_eq_true (by first | (with_reducible assumption) | assumption)
        have q320 : x5_1 < (l0.length : Int) := of_decide_eq_true (by first | (with_reducible assumption) | assumption)
        obtain ⟨ad320,e320,hx320_0,hx320_1,hx320_2,hx320_3⟩ := at_T53 HR0.out x5_1 p320 q320
        cases e320
        replace p320 := eq_true p320
        replace q320 := eq_true q320
        have p321 : 0 ≤ (x5_1 : Int) := of_decide_eq_true (by first | (with_reducible assumption) | assumption)
        have q321 : x5_1 < (l1.length : Int) := of_decide_eq_true (by first | (with_reducible assumption) | assumption)
        obtain ⟨ad321,e321,hx321_0,hx321_1,hx321_2,hx321_3⟩ := at_T53 HR1.out x5_1 p321 q321
        cases e321
        replace p321 := eq_true p321
        replace q321 := eq_true q321
        go_wp2
        repeat (go_quiet (fail);try go_wp2)
        go_roundg k1
        case measure => have := HK1.out;omega
        case rel => exact ⟨(wrap64 (x5_1 + 1)),(by first | rfl | (simp;done) | (simp [*];done)),H',⟨by have := HK1.out;omega⟩,by repeat (first | exact Drawn0.refl _ | apply Drawn0.step)⟩
      ·rw [if_neg c6] at H
       exact absurd H (by simp)
     ·rw [if_neg c5] at H
      exact absurd H (by simp)
    ·rw [if_neg c4] at H
     have c4b0 : decide (x5_1 < (l0.length : Int)) = false := decide_eq_false c4
     clear c4
     obtain rfl := Option.some.inj H
     go_wp2
     repeat (go_quiet (fail);try go_wp2)
     go_ret
     exact ⟨by first | rfl | (simp;done) | (simp [*];done),by repeat (first | exact Drawn0.refl _ | apply Drawn0.step)⟩
 ·rw [if_neg c3] at H
  have c3b0 : ((l0.length : Int) == (l1.length : Int)) = false := beq_eq_false_iff_ne.mpr c3
  have c3b1 : ((l0.length : Int) != (l1.length : Int)) = true := bne_iff_ne.mpr c3
  have c3b2 : (l0.length == l1.length) = false := by first | simpa using c3 | (simp at c3 ⊢;omega)
  obtain rfl := Option.some.inj H
  go_enter Tryd.func44,Tryd.ntmps44
  go_wp2
  repeat (go_quiet (fail);try go_wp2)
  go_ret
  exact ⟨by first | rfl | (simp;done) | (simp [*];done),by repeat (first | exact Drawn0.refl _ | apply Drawn0.step)⟩
def bodkinref03_drawn.f (a0 : ByteArray) (a1 : Int) : Option (ByteArray) := if a1 = 1 then (some (⟨#[]⟩ : ByteArray)) else (if a1 = 2 then (if 0 < (a0.size : Int) then (if (bt a0 0) = 127 then (some (⟨#[94,63]⟩ : ByteArray)) else (if (bt a0 0) < 32 then ((some (([((bt a0 0) + 64) % 256] : List Int) : List Int)).bind fun y397 => (if 1 + (strOfNums y397).size ≤ 9223372036854775807 then (some ((⟨#[94]⟩ : ByteArray) ++ (strOfNums y397))) else (none))) else (some (⟨#[239,191,189]⟩ : ByteArray)))) else (none)) else (if a1 = 3 then (if 1 + a0.size ≤ 9223372036854775807 then (some ((⟨#[32]⟩ : ByteArray) ++ a0)) else (none)) else (if a1 = 5 then (if 1 ≤ (a0.size : Int) then (if 3 + (a0.extract 1 a0.size).size ≤ 9223372036854775807 then (some ((⟨#[239,191,189]⟩ : ByteArray) ++ (a0.extract 1 a0.size))) else (none)) else (none)) else (some a0))))
set_option maxHeartbeats 8000000 in
set_option maxRecDepth 100000 in
theorem bodkinref03_drawn.calls (a0 : ByteArray) (a1 : Int) (r : ByteArray) (w : World) (h : bodkinref03_drawn.f a0 a1 = some r) :
  Calls Tryd.prog 89 #[.string a0,.int .i64 a1] w fun e w' => e = .returned (.string r) ∧ Below w.heap.size w w' := by
 have HB := Aside0.mk (Below.refl w.heap.size w)
 have H : (if a1 = 1 then (some (⟨#[]⟩ : ByteArray)) else (if a1 = 2 then (if 0 < (a0.size : Int) then (if (bt a0 0) = 127 then (some (⟨#[94,63]⟩ : ByteArray)) else (if (bt a0 0) < 32 then ((some (([((bt a0 0) + 64) % 256] : List Int) : List Int)).bind fun y397 => (if 1 + (strOfNums y397).size ≤ 9223372036854775807 then (some ((⟨#[94]⟩ : ByteArray) ++ (strOfNums y397))) else (none))) else (some (⟨#[239,191,189]⟩ : ByteArray)))) else (none)) else (if a1 = 3 then (if 1 + a0.size ≤ 9223372036854775807 then (some ((⟨#[32]⟩ : ByteArray) ++ a0)) else (none)) else (if a1 = 5 then (if 1 ≤ (a0.size : Int) then (if 3 + (a0.extract 1 a0.size).size ≤ 9223372036854775807 then (some ((⟨#[239,191,189]⟩ : ByteArray) ++ (a0.extract 1 a0.size))) else (none)) else (none)) else (some a0))))) = some r := h
 clear h
 by_cases c3 : a1 = 1
 ·rw [if_pos c3] at H
  have c3b0 : (a1 == 1) = true := beq_iff_eq.mpr c3
  have c3b1 : (a1 != 1) = false := bne_eq_false_iff_eq.mpr c3
  clear c3
  obtain rfl := Option.some.inj H
  go_enter Tryd.func89,Tryd.ntmps89
  go_wp2
  go_ret
  exact ⟨by first | rfl | (simp [errW_none,errW_some] <;> rfl) | (simp [*,errW_none,errW_some] <;> rfl),by repeat (first | (with_reducible first | exact HB.out | apply below_alloc | apply pw_below_drewN | apply below_drew1) | exact HB.out)⟩
 ·rw [if_neg c3] at H
  have c3b0 : (a1 == 1) = false := beq_eq_false_iff_ne.mpr c3
  have c3b1 : (a1 != 1) = true := bne_iff_ne.mpr c3
  by_cases c4 : a1 = 2
  ·rw [if_pos c4] at H
   have c4b0 : (a1 == 2) = true := beq_iff_eq.mpr c4
   have c4b1 : (a1 != 2) = false := bne_eq_false_iff_eq.mpr c4
   clear c4
   by_cases c5 : 0 < (a0.size : Int)
   ·rw [if_pos c5] at H
    have c5b0 : decide (0 < (a0.size : Int)) = true := decide_eq_true c5
    have c5b1 : decide (0 < a0.size) = true := decide_eq_true (by omega)
    clear c5
    by_cases c7 : (bt a0 0) = 127
    ·rw [if_pos c7] at H
     have c7b0 : ((bt a0 0) == 127) = true := beq_iff_eq.mpr c7
     have c7b1 : ((bt a0 0) != 127) = false := bne_eq_false_iff_eq.mpr c7
     clear c7
     obtain rfl := Option.some.inj H
     have p6 : 0 ≤ (0 : Int) := (by omega)
     have q6 : 0 < a0.size := (by have : (0 : Int) < (a0.size : Int) := of_decide_eq_true (by first | (with_reducible assumption) | assumption);omega)
     have hx6 : ∀ h : 0 < a0.size,((a0[0]'h).toNat : Int) = bt a0 0 := bt_at a0 0
     clear p6
     have qi6 : (0 < (a0.size : Int)) = True := eq_true (of_decide_eq_true (by first | (with_reducible assumption) | assumption))
     replace q6 := eq_true q6
     go_enter Tryd.func89,Tryd.ntmps89
     go_wp2
     go_ret
     exact ⟨by first | rfl | (simp [errW_none,errW_some] <;> rfl) | (simp [*,errW_none,errW_some] <;> rfl),by repeat (first | (with_reducible first | exact HB.out | apply below_alloc | apply pw_below_drewN | apply below_drew1) | exact HB.out)⟩
    ·rw [if_neg c7] at H
     have c7b0 : ((bt a0 0) == 127) = false := beq_eq_false_iff_ne.mpr c7
     have c7b1 : ((bt a0 0) != 127) = true := bne_iff_ne.mpr c7
     by_cases c9 : (bt a0 0) < 32
     ·rw [if_pos c9] at H
      have c9b0 : decide ((bt a0 0) < 32) = true := decide_eq_true c9
      clear c9
      obtain ⟨y397,hy397⟩ : ∃ y_ : List Int,y_ = (([((bt a0 0) + 64) % 256] : List Int)) := ⟨_,rfl⟩
      replace H : (if 1 + (strOfNums y397).size ≤ 9223372036854775807 then (some ((⟨#[94]⟩ : ByteArray) ++ (strOfNums y397))) else (none)) = some r := by first | (rw [hy397];with_reducible exact H) | (have H2_ := (Option.bind_some _ _).symm.trans H;rw [hy397];with_reducible exact H2_) | (have H2_ := (Option.bind_some _ _).symm.trans H;with_reducible exact H2_) | with_reducible exact H | (rw [hy397];exact H) | exact H
      have Ny397 := Aside0.mk hy397
      clear hy397
      by_cases c11 : 1 + (strOfNums y397).size ≤ 9223372036854775807
      ·rw [if_pos c11] at H
       have c11b0 := eq_true c11
       have c11b1 : decide (1 + (strOfNums y397).size ≤ 9223372036854775807) = true := decide_eq_true c11
       try have c11b2 : (9223372036854775807 < 1 + (strOfNums y397).size) = False := eq_false (Nat.not_lt.2 c11)
       obtain rfl := Option.some.inj H
       have p6 : 0 ≤ (0 : Int) := (by omega)
       have q6 : 0 < a0.size := (by have : (0 : Int) < (a0.size : Int) := of_decide_eq_true (by first | (with_reducible assumption) | assumption);omega)
       have hx6 : ∀ h : 0 < a0.size,((a0[0]'h).toNat : Int) = bt a0 0 := bt_at a0 0
       clear p6
       have qi6 : (0 < (a0.size : Int)) = True := eq_true (of_decide_eq_true (by first | (with_reducible assumption) | assumption))
       replace q6 := eq_true q6
       have p8 : 0 ≤ (0 : Int) := (by omega)
       have q8 : 0 < a0.size := (by have : (0 : Int) < (a0.size : Int) := of_decide_eq_true (by first | (with_reducible assumption) | assumption);omega)
       have hx8 : ∀ h : 0 < a0.size,((a0[0]'h).toNat : Int) = bt a0 0 := bt_at a0 0
       clear p8
       have qi8 : (0 < (a0.size : Int)) = True := eq_true (of_decide_eq_true (by first | (with_reducible assumption) | assumption))
       replace q8 := eq_true q8
       have p10 : 0 ≤ (0 : Int) := (by omega)
       have q10 : 0 < a0.size := (by have : (0 : Int) < (a0.size : Int) := of_decide_eq_true (by first | (with_reducible assumption) | assumption);omega)
       have hx10 : ∀ h : 0 < a0.size,((a0[0]'h).toNat : Int) = bt a0 0 := bt_at a0 0
       clear p10
       have qi10 : (0 < (a0.size : Int)) = True := eq_true (of_decide_eq_true (by first | (with_reducible assumption) | assumption))
       replace q10 := eq_true q10
       go_enter Tryd.func89,Tryd.ntmps89
       go_wp2_with (first | ((with_reducible refine gate_dst (N := 19) rfl ?_);refine Kd.R_lit (Kd.int .u8) _ 5 ?hg (N := 19) ?hd (xs := ([((bt a0 0) + 64) % 256] : List Int)) (inner := [.int .u8 (((bt a0 0) + 64) % 256)]) (ok := fun _ => True) (okp := fun _ => True) ?hr ?hp (fun _ hk => hk) trivial (Below.refl _ _) (Nat.le_refl _) (by simp) ?_;(case hd => rfl);(case hg => rfl);(case hr => first | (go_simp;done) | (go_simp;rfl));(case hp => exact (Reps.one (show Kd.M (Kd.int .u8) _ _ _ (((bt a0 0) + 64) % 256) [.int .u8 (((bt a0 0) + 64) % 256)] from rfl) (Reps.none _ _)));intro v398 w12 ho13 hb hg_ hnew_;clear hg_ hnew_;(first | rw [← Ny397.out] at ho13 | (simp only [Int.reduceToNat] at ho13;rw [← Ny397.out] at ho13));have n0_ := Aside0.mk (Kd.R_lower ho13 (below_size (by repeat (first | (with_reducible first | exact HB.out | apply below_alloc | apply pw_below_drewN | apply below_drew1) | exact HB.out))));have n1_ := Aside0.mk (below_step (by repeat (first | (with_reducible first | exact HB.out | apply below_alloc | apply pw_below_drewN | apply below_drew1) | exact HB.out)) hb);clear HB;have HO399 := n0_;have HB := n1_;clear n0_ n1_;clear hb ho13;have hcv14 := own_string (P := Tryd.prog) Tryd.underlying73 Tryd.underlying5 Tryd.underlying9 (Kd.own_of_R HO399.out)))
       go_ret
       exact ⟨by first | rfl | (simp [errW_none,errW_some] <;> rfl) | (simp [*,errW_none,errW_some] <;> rfl),by repeat (first | (with_reducible first | exact HB.out | apply below_alloc | apply pw_below_drewN | apply below_drew1) | exact HB.out)⟩
      ·rw [if_neg c11] at H
       exact absurd H (by simp)
     ·rw [if_neg c9] at H
      have c9b0 : decide ((bt a0 0) < 32) = false := decide_eq_false c9
      clear c9
      obtain rfl := Option.some.inj H
      have p6 : 0 ≤ (0 : Int) := (by omega)
      have q6 : 0 < a0.size := (by have : (0 : Int) < (a0.size : Int) := of_decide_eq_true (by first | (with_reducible assumption) | assumption);omega)
      have hx6 : ∀ h : 0 < a0.size,((a0[0]'h).toNat : Int) = bt a0 0 := bt_at a0 0
      clear p6
      have qi6 : (0 < (a0.size : Int)) = True := eq_true (of_decide_eq_true (by first | (with_reducible assumption) | assumption))
      replace q6 := eq_true q6
      have p8 : 0 ≤ (0 : Int) := (by omega)
      have q8 : 0 < a0.size := (by have : (0 : Int) < (a0.size : Int) := of_decide_eq_true (by first | (with_reducible assumption) | assumption);omega)
      have hx8 : ∀ h : 0 < a0.size,((a0[0]'h).toNat : Int) = bt a0 0 := bt_at a0 0
      clear p8
      have qi8 : (0 < (a0.size : Int)) = True := eq_true (of_decide_eq_true (by first | (with_reducible assumption) | assumption))
      replace q8 := eq_true q8
      go_enter Tryd.func89,Tryd.ntmps89
      go_wp2
      go_ret
      exact ⟨by first | rfl | (simp [errW_none,errW_some] <;> rfl) | (simp [*,errW_none,errW_some] <;> rfl),by repeat (first | (with_reducible first | exact HB.out | apply below_alloc | apply pw_below_drewN | apply below_drew1) | exact HB.out)⟩
   ·rw [if_neg c5] at H
    exact absurd H (by simp)
  ·rw [if_neg c4] at H
   have c4b0 : (a1 == 2) = false := beq_eq_false_iff_ne.mpr c4
   have c4b1 : (a1 != 2) = true := bne_iff_ne.mpr c4
   by_cases c15 : a1 = 3
   ·rw [if_pos c15] at H
    have c15b0 : (a1 == 3) = true := beq_iff_eq.mpr c15
    have c15b1 : (a1 != 3) = false := bne_eq_false_iff_eq.mpr c15
    clear c15
    by_cases c16 : 1 + a0.size ≤ 9223372036854775807
    ·rw [if_pos c16] at H
     have c16b0 := eq_true c16
     have c16b1 : decide (1 + a0.size ≤ 9223372036854775807) = true := decide_eq_true c16
     try have c16b2 : (9223372036854775807 < 1 + a0.size) = False := eq_false (Nat.not_lt.2 c16)
     obtain rfl := Option.some.inj H
     go_enter Tryd.func89,Tryd.ntmps89
     go_wp2
     go_ret
     exact ⟨by first | rfl | (simp [errW_none,errW_some] <;> rfl) | (simp [*,errW_none,errW_some] <;> rfl),by repeat (first | (with_reducible first | exact HB.out | apply below_alloc | apply pw_below_drewN | apply below_drew1) | exact HB.out)⟩
    ·rw [if_neg c16] at H
     exact absurd H (by simp)
   ·rw [if_neg c15] at H
    have c15b0 : (a1 == 3) = false := beq_eq_false_iff_ne.mpr c15
    have c15b1 : (a1 != 3) = true := bne_iff_ne.mpr c15
    by_cases c17 : a1 = 5
    ·rw [if_pos c17] at H
     have c17b0 : (a1 == 5) = true := beq_iff_eq.mpr c17
     have c17b1 : (a1 != 5) = false := bne_eq_false_iff_eq.mpr c17
     clear c17
     by_cases c18 : 1 ≤ (a0.size : Int)
     ·rw [if_pos c18] at H
      have c18b0 := eq_true c18
      have c18b1 : decide (1 ≤ (a0.size : Int)) = true := decide_eq_true c18
      clear c18
      by_cases c19 : 3 + (a0.extract 1 a0.size).size ≤ 9223372036854775807
      ·rw [if_pos c19] at H
       have c19b0 := eq_true c19
       have c19b1 : decide (3 + (a0.extract 1 a0.size).size ≤ 9223372036854775807) = true := decide_eq_true c19
       try have c19b2 : (9223372036854775807 < 3 + (a0.extract 1 a0.size).size) = False := eq_false (Nat.not_lt.2 c19)
       have c19s : (9223372036854775807 < 3 + (a0.size - 1)) = False := eq_false (by have e_ := c19;simp only [ByteArray.size_extract] at e_;omega)
       obtain rfl := Option.some.inj H
       go_enter Tryd.func89,Tryd.ntmps89
       go_wp2
       go_ret
       exact ⟨by first | rfl | (simp [errW_none,errW_some] <;> rfl) | (simp [*,errW_none,errW_some] <;> rfl),by repeat (first | (with_reducible first | exact HB.out | apply below_alloc | apply pw_below_drewN | apply below_drew1) | exact HB.out)⟩
      ·rw [if_neg c19] at H
       exact absurd H (by simp)
     ·rw [if_neg c18] at H
      exact absurd H (by simp)
    ·rw [if_neg c17] at H
     have c17b0 : (a1 == 5) = false := beq_eq_false_iff_ne.mpr c17
     have c17b1 : (a1 != 5) = true := bne_iff_ne.mpr c17
     obtain rfl := Option.some.inj H
     go_enter Tryd.func89,Tryd.ntmps89
     go_wp2
     go_ret
     exact ⟨by first | rfl | (simp [errW_none,errW_some] <;> rfl) | (simp [*,errW_none,errW_some] <;> rfl),by repeat (first | (with_reducible first | exact HB.out | apply below_alloc | apply pw_below_drewN | apply below_drew1) | exact HB.out)⟩
def stringslite_HasPrefix.f (a0 : ByteArray) (a1 : ByteArray) : Option (Bool) := if (a0.size : Int) ≥ (a1.size : Int) then (if 0 ≤ (a1.size : Int) then (if (a1.size : Int) ≤ (a0.size : Int) then (some ((a0.extract 0 ((a1.size : Int) : Int).toNat).toList == a1.toList)) else (none)) else (none)) else (some false)
set_option maxHeartbeats 8000000 in
set_option maxRecDepth 100000 in
theorem stringslite_HasPrefix.calls (a0 : ByteArray) (a1 : ByteArray) (r : Bool) (w : World) (h : stringslite_HasPrefix.f a0 a1 = some r) :
  Calls Tryd.prog 105 #[.string a0,.string a1] w fun e w' => e = .returned (.bool r) ∧ Drawn0 w w' := by
 have H : (if (a0.size : Int) ≥ (a1.size : Int) then (if 0 ≤ (a1.size : Int) then (if (a1.size : Int) ≤ (a0.size : Int) then (some ((a0.extract 0 ((a1.size : Int) : Int).toNat).toList == a1.toList)) else (none)) else (none)) else (some false)) = some r := h
 clear h
 by_cases c3 : (a0.size : Int) ≥ (a1.size : Int)
 ·rw [if_pos c3] at H
  have c3b0 : decide ((a1.size : Int) ≤ (a0.size : Int)) = true := decide_eq_true c3
  have c3b1 : decide (a1.size ≤ a0.size) = true := decide_eq_true (Int.ofNat_le.mp c3)
  clear c3
  by_cases c4 : 0 ≤ (a1.size : Int)
  ·rw [if_pos c4] at H
   have c4b0 := eq_true c4
   have c4b1 : decide (0 ≤ (a1.size : Int)) = true := decide_eq_true c4
   clear c4
   by_cases c5 : (a1.size : Int) ≤ (a0.size : Int)
   ·rw [if_pos c5] at H
    have c5b0 := eq_true c5
    have c5b1 : decide ((a1.size : Int) ≤ (a0.size : Int)) = true := decide_eq_true c5
    clear c5
    obtain rfl := Option.some.inj H
    go_enter Tryd.func105,Tryd.ntmps105
    go_wp2
    go_ret
    exact ⟨by first | rfl | (simp;done) | (simp [*];done),by repeat (first | exact Drawn0.refl _ | apply Drawn0.step)⟩
   ·rw [if_neg c5] at H
    exact absurd H (by simp)
  ·rw [if_neg c4] at H
   exact absurd H (by simp)
 ·rw [if_neg c3] at H
  have c3b0 : decide ((a1.size : Int) ≤ (a0.size : Int)) = false := decide_eq_false c3
  have c3b1 : decide (a1.size ≤ a0.size) = false := decide_eq_false (fun h => c3 (Int.ofNat_le.mpr h))
  clear c3
  obtain rfl := Option.some.inj H
  go_enter Tryd.func105,Tryd.ntmps105
  go_wp2
  go_ret
  exact ⟨by first | rfl | (simp;done) | (simp [*];done),by repeat (first | exact Drawn0.refl _ | apply Drawn0.step)⟩
def strings_HasPrefix.f (a0 : ByteArray) (a1 : ByteArray) : Option (Bool) := (stringslite_HasPrefix.f a0 a1).bind fun t469 => (some t469)
set_option maxHeartbeats 8000000 in
set_option maxRecDepth 100000 in
theorem strings_HasPrefix.calls (a0 : ByteArray) (a1 : ByteArray) (r : Bool) (w : World) (h : strings_HasPrefix.f a0 a1 = some r) :
  Calls Tryd.prog 98 #[.string a0,.string a1] w fun e w' => e = .returned (.bool r) ∧ Drawn0 w w' := by
 have H : ((stringslite_HasPrefix.f a0 a1).bind fun t469 => (some t469)) = some r := h
 clear h
 replace H := Option.bind_eq_some_iff.mp H
 obtain ⟨t469,A30,H⟩ := H
 replace H : (some t469) = some r := H
 have A3 := Aside0.mk A30
 clear A30
 obtain rfl := Option.some.inj H
 go_enter Tryd.func98,Tryd.ntmps98
 go_wp2_with (first | ((with_reducible refine gate_callee (f := 105) rfl ?_);refine goesL_ (some 7) rfl rfl Tryd.func105 (by kernel_rfl) rfl #[.string a0,.string a1] rfl (by (try simp only [List.map_toArray,List.map_cons,List.map_nil]);first | done | rfl | (simp only [List.length_drop,List.length_take];rfl)) ?_;(with_reducible refine (stringslite_HasPrefix.calls a0 a1 t469 _ A3.out).mono ?_);rintro e w' ⟨rfl,⟨nd,rfl⟩⟩;refine ⟨_,rfl,?_⟩))
 go_ret
 exact ⟨by first | rfl | (simp;done) | (simp [*];done),by repeat (first | exact Drawn0.refl _ | apply Drawn0.step)⟩
end Go.Proofs.YtfhnfhgpaoddbaaDoor.U
end
section
namespace Go.Proofs
open Go.Shelf
def Tryd.lays169_ren : Go.Shelf.Ren := ⟨fun | 169 => 88 | n => n,fun | 70 => 83 | 9 => 9 | 0 => 0 | 72 => 85 | 37 => 73 | 127 => 103 | 3 => 3 | 5 => 5 | n => n,fun | n => n⟩
theorem Tryd.lays169 : Go.Proofs.Lays.n169 Tryd.prog Tryd.lays169_ren := {
 mixed := by kernel_rfl
 f169 := Tryd.func88.trans (congrArg some (by kernel_rfl))
 t0 := Tryd.underlying0
 a0 := Tryd.isAgg0
 z0 := Tryd.sizeOf0
 v0 := Tryd.zeroValue0
 t3 := Tryd.underlying3
 a3 := Tryd.isAgg3
 z3 := Tryd.sizeOf3
 v3 := Tryd.zeroValue3
 t9 := Tryd.underlying9
 a9 := Tryd.isAgg9
 z9 := Tryd.sizeOf9
 v9 := Tryd.zeroValue9
 t37 := Tryd.underlying73
 a37 := Tryd.isAgg73
 z37 := Tryd.sizeOf73
 v37 := Tryd.zeroValue73
 t70 := Tryd.underlying83
 a70 := Tryd.isAgg83
 z70 := Tryd.sizeOf83
 v70 := Tryd.zeroValue83
 t72 := Tryd.underlying85
 a72 := Tryd.isAgg85
 z72 := Tryd.sizeOf85
 v72 := Tryd.zeroValue85
 t127 := Tryd.underlying103
 a127 := Tryd.isAgg103
 z127 := Tryd.sizeOf103
 v127 := Tryd.zeroValue103 }
theorem Tryd.Builder_Extra_169 : Builder.Extra Tryd.prog Tryd.lays169_ren := {
 sizeBuilder := by kernel_rfl
 liesBuilder := by kernel_rfl
 t5 := Tryd.underlying5
 a5 := Tryd.isAgg5
 z5 := Tryd.sizeOf5
 v5 := Tryd.zeroValue5
 infoByte := by kernel_rfl
 cellsByte := by kernel_rfl
 sizeByte := by kernel_rfl
 neB5 := by decide }
open Go.RowKit in
theorem Tryd.Builder_String_any_k (B b : Nat) (l : List UInt8) (w : World) (h : Lib.IsBuilderF 85 5 B b (Lib.byteCells l) w) (hBw : B ≤ w.heap.size) :
  Calls Tryd.prog 88 #[.pointer (some ⟨b,0,none⟩)] w fun e w' => e = .returned (.string ⟨l.toArray⟩) ∧ (Lib.IsBuilderF 85 5 B b (Lib.byteCells l) w' ∧ Below B w w' ∧ Lib.OthersKept 5 (some b) w w') := Any.Builder_String_any_k Tryd.lays169 Tryd.Builder_Extra_169 B b l w h hBw
def Tryd.lays206_ren : Go.Shelf.Ren := ⟨fun | 206 => 105 | n => n,fun | 9 => 9 | 4 => 4 | 3 => 3 | n => n,fun | n => n⟩
theorem Tryd.lays206 : Go.Proofs.Lays.n206 Tryd.prog Tryd.lays206_ren := {
 mixed := by kernel_rfl
 f206 := Tryd.func105.trans (congrArg some (by kernel_rfl))
 t3 := Tryd.underlying3
 a3 := Tryd.isAgg3
 z3 := Tryd.sizeOf3
 v3 := Tryd.zeroValue3
 t4 := Tryd.underlying4
 a4 := Tryd.isAgg4
 z4 := Tryd.sizeOf4
 v4 := Tryd.zeroValue4
 t9 := Tryd.underlying9
 a9 := Tryd.isAgg9
 z9 := Tryd.sizeOf9
 v9 := Tryd.zeroValue9 }
open Go.RowKit Go.Lib in
theorem Tryd.stringslite_HasPrefix (s p : ByteArray) (w : World) :
  Calls Tryd.prog 105 #[.string s,.string p] w fun e w' => e = .returned (.bool (Lib.hasPrefix s.data.toList p.data.toList)) ∧ w' = w := Any.stringslite_HasPrefix Tryd.lays206 s p w
def Tryd.lays99_ren : Go.Shelf.Ren := ⟨fun | 99 => 98 | 206 => 105 | n => n,fun | 9 => 9 | 4 => 4 | 3 => 3 | n => n,fun | n => n⟩
theorem Tryd.lays99 : Go.Proofs.Lays.n99 Tryd.prog Tryd.lays99_ren := {
 mixed := by kernel_rfl
 f99 := Tryd.func98.trans (congrArg some (by kernel_rfl))
 f206 := Tryd.func105.trans (congrArg some (by kernel_rfl))
 t3 := Tryd.underlying3
 a3 := Tryd.isAgg3
 z3 := Tryd.sizeOf3
 v3 := Tryd.zeroValue3
 t4 := Tryd.underlying4
 a4 := Tryd.isAgg4
 z4 := Tryd.sizeOf4
 v4 := Tryd.zeroValue4
 t9 := Tryd.underlying9
 a9 := Tryd.isAgg9
 z9 := Tryd.sizeOf9
 v9 := Tryd.zeroValue9 }
open Go.RowKit Go.Lib in
theorem Tryd.strings_HasPrefix (s p : ByteArray) (w : World) :
  Calls Tryd.prog 98 #[.string s,.string p] w fun e w' => e = .returned (.bool (Lib.hasPrefix s.data.toList p.data.toList)) ∧ w' = w := Any.strings_HasPrefix Tryd.lays99 s p w
def Tryd.lays197_ren : Go.Shelf.Ren := ⟨fun | 197 => 91 | 260 => 100 | n => n,fun | 9 => 9 | 21 => 21 | 3 => 3 | 4 => 4 | 5 => 5 | 105 => 71 | 119 => 93 | 0 => 0 | 46 => 97 | 139 => 96 | 138 => 95 | n => n,fun | 3 => 0 | 4 => 1 | n => n⟩
theorem Tryd.lays197 : Go.Proofs.Lays.n197 Tryd.prog Tryd.lays197_ren := {
 mixed := by kernel_rfl
 f197 := Tryd.func91.trans (congrArg some (by kernel_rfl))
 f260 := Tryd.func100.trans (congrArg some (by kernel_rfl))
 t0 := Tryd.underlying0
 a0 := Tryd.isAgg0
 z0 := Tryd.sizeOf0
 v0 := Tryd.zeroValue0
 t3 := Tryd.underlying3
 a3 := Tryd.isAgg3
 z3 := Tryd.sizeOf3
 v3 := Tryd.zeroValue3
 t4 := Tryd.underlying4
 a4 := Tryd.isAgg4
 z4 := Tryd.sizeOf4
 v4 := Tryd.zeroValue4
 t5 := Tryd.underlying5
 a5 := Tryd.isAgg5
 z5 := Tryd.sizeOf5
 v5 := Tryd.zeroValue5
 t9 := Tryd.underlying9
 a9 := Tryd.isAgg9
 z9 := Tryd.sizeOf9
 v9 := Tryd.zeroValue9
 t21 := Tryd.underlying21
 a21 := Tryd.isAgg21
 z21 := Tryd.sizeOf21
 v21 := Tryd.zeroValue21
 t46 := Tryd.underlying97
 a46 := Tryd.isAgg97
 z46 := Tryd.sizeOf97
 v46 := Tryd.zeroValue97
 t105 := Tryd.underlying71
 a105 := Tryd.isAgg71
 z105 := Tryd.sizeOf71
 v105 := Tryd.zeroValue71
 t119 := Tryd.underlying93
 a119 := Tryd.isAgg93
 z119 := Tryd.sizeOf93
 t138 := Tryd.underlying95
 a138 := Tryd.isAgg95
 z138 := Tryd.sizeOf95
 v138 := Tryd.zeroValue95
 t139 := Tryd.underlying96
 a139 := Tryd.isAgg96
 z139 := Tryd.sizeOf96
 v139 := Tryd.zeroValue96
 g3 := by kernel_rfl
 g4 := by kernel_rfl }
def Tryd.lays260_ren : Go.Shelf.Ren := ⟨fun | 260 => 100 | n => n,fun | 9 => 9 | 21 => 21 | 3 => 3 | 4 => 4 | 5 => 5 | 119 => 93 | 0 => 0 | 46 => 97 | 139 => 96 | 138 => 95 | n => n,fun | 3 => 0 | 4 => 1 | n => n⟩
theorem Tryd.lays260 : Go.Proofs.Lays.n260 Tryd.prog Tryd.lays260_ren := {
 mixed := by kernel_rfl
 f260 := Tryd.func100.trans (congrArg some (by kernel_rfl))
 t0 := Tryd.underlying0
 a0 := Tryd.isAgg0
 z0 := Tryd.sizeOf0
 v0 := Tryd.zeroValue0
 t3 := Tryd.underlying3
 a3 := Tryd.isAgg3
 z3 := Tryd.sizeOf3
 v3 := Tryd.zeroValue3
 t4 := Tryd.underlying4
 a4 := Tryd.isAgg4
 z4 := Tryd.sizeOf4
 v4 := Tryd.zeroValue4
 t5 := Tryd.underlying5
 a5 := Tryd.isAgg5
 z5 := Tryd.sizeOf5
 v5 := Tryd.zeroValue5
 t9 := Tryd.underlying9
 a9 := Tryd.isAgg9
 z9 := Tryd.sizeOf9
 v9 := Tryd.zeroValue9
 t21 := Tryd.underlying21
 a21 := Tryd.isAgg21
 z21 := Tryd.sizeOf21
 v21 := Tryd.zeroValue21
 t46 := Tryd.underlying97
 a46 := Tryd.isAgg97
 z46 := Tryd.sizeOf97
 v46 := Tryd.zeroValue97
 t119 := Tryd.underlying93
 a119 := Tryd.isAgg93
 z119 := Tryd.sizeOf93
 t138 := Tryd.underlying95
 a138 := Tryd.isAgg95
 z138 := Tryd.sizeOf95
 v138 := Tryd.zeroValue95
 t139 := Tryd.underlying96
 a139 := Tryd.isAgg96
 z139 := Tryd.sizeOf96
 v139 := Tryd.zeroValue96
 g3 := by kernel_rfl
 g4 := by kernel_rfl }
open Go.RowKit Go.Lib in
theorem Tryd.utf8_DecodeRuneInString (s : ByteArray) (w : World) (hT : Lib.Utf8Tabs 0 1 w) :
  Calls Tryd.prog 91 #[.string s] w fun e w' => e = .returned (.tuple #[.int .i32 (Lib.decodeGo s).1,.int .i64 (Lib.decodeGo s).2]) ∧ Below w.heap.size w w' := Any.utf8_DecodeRuneInString Tryd.lays197 s w hT
end Go.Proofs
end
section
namespace Go.Proofs.YtfhnfhgpaoddbaaDoor.U
open Go.RowKit Go.Proofs.YtfhnfhgpaoddbaaDoorW.PrintWords Go.Proofs.YtfhnfhgpaoddbaaDoorW.PrintLast Go.Proofs.YtfhnfhgpaoddbaaDoorW.PrintMore
set_option linter.unusedVariables false
set_option linter.unusedSimpArgs false
theorem block_of_cell {w : World} {p : Addr} {v : Value} (h : w.cell? p = some v) : p.block < w.heap.size := by
 unfold World.cell? at h
 cases hb : w.heap[p.block]? with
 | none => simp [hb] at h
 | some o => exact (Array.getElem?_eq_some_iff.1 hb).1
/-- The tables lie where nothing is turned. -/
theorem tabs_below {w0 w : World} (h : Lib.Utf8Tabs 0 1 w0) (hb : Below w0.heap.size w0 w) : Lib.Utf8Tabs 0 1 w :=
  ⟨fun c hc => (hb.cell (p := ⟨0, c, none⟩) (block_of_cell (h.1 c hc))).trans (h.1 c hc),
   fun i hi => ⟨(hb.cell (p := ⟨1, 2 * i, none⟩) (block_of_cell (h.2 i hi).1)).trans (h.2 i hi).1,
     (hb.cell (p := ⟨1, 2 * i + 1, none⟩) (block_of_cell (h.2 i hi).2)).trans (h.2 i hi).2⟩⟩
def utf8_DecodeRuneInString.f (a0 : ByteArray) : Option (Int × Int) := some (((Lib.decodeGo a0).1 : Int),((Lib.decodeGo a0).2 : Int))
theorem utf8_DecodeRuneInString.calls (a0 : ByteArray) (r1 : Int) (r2 : Int) (w : World) (hT : Lib.Utf8Tabs 0 1 w) (h : utf8_DecodeRuneInString.f a0 = some (r1,r2)) :
  Calls Tryd.prog 91 #[.string a0] w fun e w' => e = .returned (.tuple #[.int .i32 r1,.int .i64 r2]) ∧ Below w.heap.size w w' := by
 unfold utf8_DecodeRuneInString.f at h
 simp only [Option.some.injEq,Prod.mk.injEq] at h
 obtain ⟨rfl,rfl⟩ := h
 exact Tryd.utf8_DecodeRuneInString a0 w hT
def bodkinref01_size.f (a0 : Int) : Option (Int) := if a0 < 128 then (some 1) else (if a0 < 2048 then (some 2) else (if a0 < 65536 then (some 3) else (some 4)))
theorem bodkinref01_size.calls (a0 : Int) (r : Int) (w : World) (h : bodkinref01_size.f a0 = some r) :
  Calls Tryd.prog 63 #[.int .i32 a0] w fun e w' => e = .returned (.int .i64 r) ∧ Below w.heap.size w w' := by
 unfold bodkinref01_size.f at h
 by_cases c1 : a0 < 128
 ·rw [if_pos c1] at h
  obtain rfl := Option.some.inj h
  clear h
  go_enter Tryd.func63,Tryd.ntmps63
  go_wp2
  go_ret
  exact ⟨rfl,Below.refl _ _⟩
 ·rw [if_neg c1] at h
  by_cases c2 : a0 < 2048
  ·rw [if_pos c2] at h
   obtain rfl := Option.some.inj h
   clear h
   go_enter Tryd.func63,Tryd.ntmps63
   go_wp2
   go_ret
   exact ⟨rfl,Below.refl _ _⟩
  ·rw [if_neg c2] at h
   by_cases c3 : a0 < 65536
   ·rw [if_pos c3] at h
    obtain rfl := Option.some.inj h
    clear h
    go_enter Tryd.func63,Tryd.ntmps63
    go_wp2
    go_ret
    exact ⟨rfl,Below.refl _ _⟩
   ·rw [if_neg c3] at h
    obtain rfl := Option.some.inj h
    clear h
    go_enter Tryd.func63,Tryd.ntmps63
    go_wp2
    go_ret
    exact ⟨rfl,Below.refl _ _⟩
end Go.Proofs.YtfhnfhgpaoddbaaDoor.U
end
