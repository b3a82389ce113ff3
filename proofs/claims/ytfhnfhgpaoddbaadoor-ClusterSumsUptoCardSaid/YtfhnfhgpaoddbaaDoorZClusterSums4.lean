/- What the law ClusterSums reaches of this seat's own texts, merged; what nothing uses is left out. -/
import Derived.Test.YtfhnfhgpaoddbaaDoorProg
import Derived.Below
import Derived.Deep.Draws
import Derived.Deep.AppendLies
import Derived.Maps.AppendAt
import Derived.OwnWalk
import Derived.Laws.BytesArg
import Derived.Laws.MakeOwn
import Derived.Laws.OwnMore
import Derived.Deep.OwnRows
import Derived.Tactics
import Derived.Lib.ConvBytes
import Derived.Laws.Slices
import Derived.WalkKit
import Derived.KernelRfl
import Derived.RowKit3
import Derived.Deep.LoopGhost
import Derived.Deep.QuietTactic
import Derived.BigQuiet
import Derived.WideLaws
import Derived.Deep.DeepCutAuto
import Derived.Deep.CutBlock
import Derived.Deep.RegionHeld3
import Derived.Laws.Rows
import Derived.Lib.AppendStr
import Derived.ArgAppend
import Derived.Laws.IdiomCopy
import Derived.OrdersHeld
import Derived.Laws.BitsLemmas
import Derived.RowKit
import Derived.Shelf.Strings.Builder1
import Derived.Shelf.Small.Utf8
import Derived.Shelf.Strings.BuilderF
import Derived.Shelf.Strings.BuilderK
import Derived.Shelf.Utf8.AppendRunePlain
import Derived.Shelf.Utf8.RuneCount
import Derived.Shelf.Strings.Prefix
import Derived.Shelf.Unicode.Decode
import Derived.Shelf.Strings.RuneCount
import Derived.Shelf.Unicode.DecodeSlow
import Derived.Shelf.Unicode.DecodeAny
import Derived.Shelf.Strings.BuilderCap
import Derived.Lib.LaidU8
import Derived.RangeFuncNested
import Derived.RangeFuncBound
import Derived.RangeFuncCalls
import Derived.RangeFuncLeaves
import Derived.Lib.DecodeN
import Derived.Lib.MapLaws
import Derived.Laws.DeepStrings4
import Derived.Shelf.Unicode.DecodeLastEight
import Derived.Shelf.Abstract
import Derived.Shelf.RegionOpen
import Derived.OwnWalkIn
import Derived.TacticsInMore
import Derived.LoopNIn
import Derived.LoopIn
import Derived.Lib.Hide
import Derived.Sort.BigQuietIn
import Derived.Sort.CutIn
import Derived.Lib.Builder
import Derived.Lib.FrozenHead
import Derived.Test.YtfhnfhgpaoddbaaDoorRows
import Derived.ProofKit
import Derived.Deep.DeepHandedRow
import Derived.LaidMore
import Derived.Lay
import Derived.Test.YtfhnfhgpaoddbaaDoorWWords
import Derived.Test.YtfhnfhgpaoddbaaDoorWLast
import Derived.Test.YtfhnfhgpaoddbaaDoorWTab
import Derived.Test.YtfhnfhgpaoddbaaDoorWQPut
import Derived.Test.YtfhnfhgpaoddbaaDoorWApart
import Derived.Test.YtfhnfhgpaoddbaaDoorWArr
import Derived.Test.YtfhnfhgpaoddbaaDoorWZeros
import Derived.Test.YtfhnfhgpaoddbaaDoorWFoot
import Derived.Test.YtfhnfhgpaoddbaaDoorWKept
import Derived.Test.YtfhnfhgpaoddbaaDoorWShare
import Derived.Test.YtfhnfhgpaoddbaaDoorWN
import Derived.Test.YtfhnfhgpaoddbaaDoorWEqStruct
import Derived.Test.YtfhnfhgpaoddbaaDoorWRepsOne
import Derived.Test.YtfhnfhgpaoddbaaDoorWInv
import Derived.Test.YtfhnfhgpaoddbaaDoorWGuard
import Derived.Test.YtfhnfhgpaoddbaaDoorWNEv
import Derived.Test.YtfhnfhgpaoddbaaDoorWMore
import Derived.Test.YtfhnfhgpaoddbaaDoorZClusterSums0
import Derived.Test.YtfhnfhgpaoddbaaDoorZClusterSums1
import Derived.Test.YtfhnfhgpaoddbaaDoorZClusterSums3
section
namespace Go.Proofs.YtfhnfhgpaoddbaaDoor.U
open Go.RowKit Go.Proofs.YtfhnfhgpaoddbaaDoorW.PrintWords Go.Proofs.YtfhnfhgpaoddbaaDoorW.PrintLast Go.Proofs.YtfhnfhgpaoddbaaDoorW.PrintMore
attribute [local go_sem] max2_int min2_int max_two min_two max_three min_three max_four min_four   -- for this text's walks alone
set_option linter.unusedVariables false
set_option linter.unusedSimpArgs false
def bodkinlaw03_ClusterSums.j0 : Nat → ByteArray → Int → Bool → Option (Bool)
 | 0,_,_,_ => none
 | k + 1,x0,x1,x15 => if x15 = true then ((cluster_Boundary.f k x0 x1).bind fun t426 => (some (!t426))) else (if 0 ≤ x1 then (if x1 ≤ (x0.size : Int) then ((cluster_Count.f (x0.extract 0 (x1 : Int).toNat)).bind fun t427 => ((cluster_Count.f (x0.extract (x1 : Int).toNat x0.size)).bind fun t428 => ((cluster_Boundary.f k x0 x1).bind fun t429 => (if t429 = true then ((cluster_Count.f x0).bind fun t431 => (if (wrap64 (t427 + t428)) = t431 then ((cluster_Cells.f (x0.extract 0 (x1 : Int).toNat)).bind fun t432 => ((cluster_Cells.f (x0.extract (x1 : Int).toNat x0.size)).bind fun t433 => ((cluster_Cells.f x0).bind fun t434 => (if (wrap64 (t432 + t433)) = t434 then ((cluster_Drawn.f (x0.extract 0 (x1 : Int).toNat)).bind fun t435 => ((cluster_Drawn.f (x0.extract (x1 : Int).toNat x0.size)).bind fun t436 => (if t435.size + t436.size ≤ 9223372036854775807 then ((cluster_Drawn.f x0).bind fun t437 => (some ((t435 ++ t436).toList == t437.toList))) else (none)))) else (some false))))) else (some false))) else ((cluster_Count.f x0).bind fun t430 => (some (decide ((wrap64 (t427 + t428)) ≥ t430)))))))) else (none)) else (none))
def bodkinlaw03_ClusterSums.f (k : Nat) (a0 : ByteArray) (a1 : Int) : Option (Bool) := (bodkinlaw03_fixed.f k).bind fun t425 => (if t425 = true then (if a1 < 0 then (bodkinlaw03_ClusterSums.j0 k a0 a1 true) else (bodkinlaw03_ClusterSums.j0 k a0 a1 (decide (a1 > (a0.size : Int))))) else (some false))
def bodkinlaw03_ClusterSums.T5 : Bool × List (List Nat × List Nat) := (true,[([],[]),([],[]),([0,1],[0,1]),([2],[2]),([],[]),([],[]),([4,5],[4,5]),([6,3],[6]),([3,7],[3,7]),([8,7,0,1,2,3,4,5,6,7,8],[8])])
def bodkinlaw03_ClusterSums.B5 : List Nat := [0,0,3,7,0,0,48,127,255,511]
theorem bodkinlaw03_ClusterSums.tab5 : rtab .any (opsOf Tryd.f18 5) = bodkinlaw03_ClusterSums.T5 := by kernel_rfl
theorem bodkinlaw03_ClusterSums.bits5 : waitsOk bodkinlaw03_ClusterSums.T5.2 bodkinlaw03_ClusterSums.B5 = true := by kernel_rfl
def bodkinlaw03_ClusterSums.T8 : Bool × List (List Nat × List Nat) := (true,[([],[]),([],[]),([1],[1]),([0,2],[0,2]),([3,2],[3]),([4],[4]),([4],[4]),([5,6,4],[4,5,6]),([7,4,4],[4,7]),([4],[4]),([4],[4]),([9,10,4],[4,9,10]),([11,8,4],[4,11]),([8,12,4],[4,8,12]),([4],[4]),([14,12,4],[4,14]),([13,15,4],[4,13,15]),([4,16],[4,16]),([17,15],[17]),([18],[18]),([18],[18]),([19,20,18],[18,19,20]),([21,18,18],[18,21]),([18],[18]),([18],[18]),([23,24,18],[18,23,24]),([25,22,18],[18,25]),([22,26,18],[18,22,26]),([18],[18]),([28,26,18],[18,28]),([27,29,18],[18,27,29]),([18,30],[18,30]),([31,29,0,1,2,3,4,5,6,7,8,9,10,11,12,13,14,15,16,17,18,19,20,21,22,23,24,25,26,27,28,29,30,31],[31])])
def bodkinlaw03_ClusterSums.B8 : List Nat := [0,0,2,7,15,31,31,127,255,31,31,1567,4095,8191,31,24575,65535,131071,262143,524287,524287,2097151,4194303,524287,524287,25690111,67108863,134217727,524287,402653183,1073741823,2147483647,4294967295]
theorem bodkinlaw03_ClusterSums.tab8 : rtab .any (opsOf Tryd.f18 8) = bodkinlaw03_ClusterSums.T8 := by kernel_rfl
theorem bodkinlaw03_ClusterSums.bits8 : waitsOk bodkinlaw03_ClusterSums.T8.2 bodkinlaw03_ClusterSums.B8 = true := by kernel_rfl
set_option maxHeartbeats 8000000 in
set_option maxRecDepth 100000 in
theorem bodkinlaw03_ClusterSums.calls (k : Nat) (a0 : ByteArray) (a1 : Int) (r : Bool) (hr_ : r = true) (w : World) (hT : Lib.Utf8Tabs 0 1 w) (h : bodkinlaw03_ClusterSums.f k a0 a1 = some r) :
  Calls Tryd.prog 18 #[.string a0,.int .i64 a1] w fun e w' => e = .returned (.bool r) ∧ Below w.heap.size w w' := by
 have HT := Aside0.mk hT
 clear hT
 have HB := Aside0.mk (Below.refl w.heap.size w)
 have H : ((bodkinlaw03_fixed.f k).bind fun t425 => (if t425 = true then (if a1 < 0 then (bodkinlaw03_ClusterSums.j0 k a0 a1 true) else (bodkinlaw03_ClusterSums.j0 k a0 a1 (decide (a1 > (a0.size : Int))))) else (some false))) = some r := h
 clear h
 replace H := Option.bind_eq_some_iff.mp H
 obtain ⟨t425,A30,H⟩ := H
 replace H : (if t425 = true then (if a1 < 0 then (bodkinlaw03_ClusterSums.j0 k a0 a1 true) else (bodkinlaw03_ClusterSums.j0 k a0 a1 (decide (a1 > (a0.size : Int))))) else (some false)) = some r := H
 have A3 := Aside0.mk A30
 clear A30
 by_cases c4 : t425 = true
 ·subst c4
  have H1 : (if a1 < 0 then (bodkinlaw03_ClusterSums.j0 k a0 a1 true) else (bodkinlaw03_ClusterSums.j0 k a0 a1 (decide (a1 > (a0.size : Int))))) = some r := by rw [if_pos rfl] at H;exact H
  clear H
  have H := H1
  clear H1
  have HC5 := Aside0.mk H
  clear H
  go_enter Tryd.func18,Tryd.ntmps18
  go_upto_region 3 with (first | ((with_reducible refine gate_callee (f := 39) rfl ?_);refine goesL_ (some 6) rfl rfl Tryd.func39 (by kernel_rfl) rfl #[] rfl (by (try simp only [List.map_toArray,List.map_cons,List.map_nil]);first | done | rfl | (simp only [List.length_drop,List.length_take];rfl)) ?_;(with_reducible refine (bodkinlaw03_fixed.calls k true rfl _ ?side1 A3.out).mono ?_);(case side1 => exact tabs_below HT.out (by repeat (first | (with_reducible first | exact HB.out | apply below_alloc | apply pw_below_drewN | apply below_drew1) | exact HB.out)));rintro e w6 ⟨rfl,hb⟩;refine ⟨_,rfl,?_⟩;have n0_ := Aside0.mk (below_step (by repeat (first | (with_reducible first | exact HB.out | apply below_alloc | apply pw_below_drewN | apply below_drew1) | exact HB.out)) hb);clear HB;have HB := n0_;clear n0_;(try clear hb);(try clear hb2);(try clear hk);(try clear hi)))
  (try simp only [Act.put,List.setIfInBounds_toArray,List.set_cons_zero,List.set_cons_succ])
  go_cut [15] (fun v15 wc => ∃ (kq : Nat) (x15_4 : Bool),v15 = .bool x15_4 ∧ Aside0 (bodkinlaw03_ClusterSums.j0 kq a0 a1 x15_4 = some r) ∧ Aside0 (kq ≤ k) ∧ Aside0 (Below w.heap.size w wc))
  case first =>
   have H := HC5.out
   clear HC5
   by_cases c7 : a1 < 0
   ·rw [if_pos c7] at H
    have c7b0 : decide (a1 < 0) = true := decide_eq_true c7
    clear c7
    (first | rw [c7b0] | (simp only [i64_w,i32_w];rw [c7b0]) | skip)
    have H' := Aside0.mk H
    clear H
    go_wp2
    go_meet
    case rel => exact ⟨_,(true),(by first | rfl | (simp;done) | (simp [*];done)),H',⟨by first | omega | exact Nat.le_refl _⟩,⟨by repeat (first | (with_reducible first | exact HB.out | apply below_alloc | apply pw_below_drewN | apply below_drew1) | exact HB.out)⟩⟩
   ·rw [if_neg c7] at H
    have c7b0 : decide (a1 < 0) = false := decide_eq_false c7
    clear c7
    (first | rw [c7b0] | (simp only [i64_w,i32_w];rw [c7b0]) | skip)
    have H' := Aside0.mk H
    clear H
    go_wp2
    go_meet
    case rel => exact ⟨_,(decide (a1 > (a0.size : Int))),(by first | rfl | (simp;done) | (simp [*];done)),H',⟨by first | omega | exact Nat.le_refl _⟩,⟨by repeat (first | (with_reducible first | exact HB.out | apply below_alloc | apply pw_below_drewN | apply below_drew1) | exact HB.out)⟩⟩
  case rest =>
   clear HC5
   try clear c1
   try clear p2
   try clear c3
   try clear c4
   try clear c7
   try clear c7b0
   obtain ⟨kq,x15_4,rfl,HA,HJ4,HB⟩ := hcut
   cases kq with
   | zero => exact absurd HA.out (by simp [bodkinlaw03_ClusterSums.j0])
   | succ kj4 =>
    have H := HA.out
    clear HA
    simp only [bodkinlaw03_ClusterSums.j0] at H
    by_cases c8 : x15_4 = true
    ·subst c8
     have H1 : ((cluster_Boundary.f kj4 a0 a1).bind fun t426 => (some (!t426))) = some r := by rw [if_pos rfl] at H;exact H
     clear H
     have H := H1
     clear H1
     replace H := Option.bind_eq_some_iff.mp H
     obtain ⟨t426,A90,H⟩ := H
     replace H : (some (!t426)) = some r := H
     have A9 := Aside0.mk A90
     clear A90
     obtain rfl := Option.some.inj H
     go_wp2_with (first | ((with_reducible refine gate_callee (f := 42) rfl ?_);refine goesL_ (some 18) rfl rfl Tryd.func42 (by kernel_rfl) rfl #[.string a0,.int .i64 a1] rfl (by (try simp only [List.map_toArray,List.map_cons,List.map_nil]);first | done | rfl | (simp only [List.length_drop,List.length_take];rfl)) ?_;(with_reducible refine (cluster_Boundary.calls kj4 a0 a1 t426 _ ?side1 A9.out).mono ?_);(case side1 => exact tabs_below HT.out (by repeat (first | (with_reducible first | exact HB.out | apply below_alloc | apply pw_below_drewN | apply below_drew1) | exact HB.out)));rintro e w10 ⟨rfl,hb⟩;refine ⟨_,rfl,?_⟩;have n0_ := Aside0.mk (below_step (by repeat (first | (with_reducible first | exact HB.out | apply below_alloc | apply pw_below_drewN | apply below_drew1) | exact HB.out)) hb);clear HB;have HB := n0_;clear n0_;(try clear hb);(try clear hb2);(try clear hk);(try clear hi)))
     go_ret
     exact ⟨by first | rfl | (simp [errW_none,errW_some] <;> rfl) | (simp [*,errW_none,errW_some] <;> rfl),by repeat (first | (with_reducible first | exact HB.out | apply below_alloc | apply pw_below_drewN | apply below_drew1) | exact HB.out)⟩
    ·replace c8 := Bool.eq_false_iff.mpr c8
     subst c8
     have H1 : (if 0 ≤ a1 then (if a1 ≤ (a0.size : Int) then ((cluster_Count.f (a0.extract 0 (a1 : Int).toNat)).bind fun t427 => ((cluster_Count.f (a0.extract (a1 : Int).toNat a0.size)).bind fun t428 => ((cluster_Boundary.f kj4 a0 a1).bind fun t429 => (if t429 = true then ((cluster_Count.f a0).bind fun t431 => (if (wrap64 (t427 + t428)) = t431 then ((cluster_Cells.f (a0.extract 0 (a1 : Int).toNat)).bind fun t432 => ((cluster_Cells.f (a0.extract (a1 : Int).toNat a0.size)).bind fun t433 => ((cluster_Cells.f a0).bind fun t434 => (if (wrap64 (t432 + t433)) = t434 then ((cluster_Drawn.f (a0.extract 0 (a1 : Int).toNat)).bind fun t435 => ((cluster_Drawn.f (a0.extract (a1 : Int).toNat a0.size)).bind fun t436 => (if t435.size + t436.size ≤ 9223372036854775807 then ((cluster_Drawn.f a0).bind fun t437 => (some ((t435 ++ t436).toList == t437.toList))) else (none)))) else (some false))))) else (some false))) else ((cluster_Count.f a0).bind fun t430 => (some (decide ((wrap64 (t427 + t428)) ≥ t430)))))))) else (none)) else (none)) = some r := by rw [if_neg (show ¬ (false = true) by decide)] at H;exact H
     clear H
     have H := H1
     clear H1
     by_cases c11 : 0 ≤ a1
     ·rw [if_pos c11] at H
      have c11b0 := eq_true c11
      have c11b1 : decide (0 ≤ a1) = true := decide_eq_true c11
      clear c11
      by_cases c12 : a1 ≤ (a0.size : Int)
      ·rw [if_pos c12] at H
       have c12b0 := eq_true c12
       have c12b1 : decide (a1 ≤ (a0.size : Int)) = true := decide_eq_true c12
       clear c12
       replace H := Option.bind_eq_some_iff.mp H
       obtain ⟨t427,A130,H⟩ := H
       replace H : ((cluster_Count.f (a0.extract (a1 : Int).toNat a0.size)).bind fun t428 => ((cluster_Boundary.f kj4 a0 a1).bind fun t429 => (if t429 = true then ((cluster_Count.f a0).bind fun t431 => (if (wrap64 (t427 + t428)) = t431 then ((cluster_Cells.f (a0.extract 0 (a1 : Int).toNat)).bind fun t432 => ((cluster_Cells.f (a0.extract (a1 : Int).toNat a0.size)).bind fun t433 => ((cluster_Cells.f a0).bind fun t434 => (if (wrap64 (t432 + t433)) = t434 then ((cluster_Drawn.f (a0.extract 0 (a1 : Int).toNat)).bind fun t435 => ((cluster_Drawn.f (a0.extract (a1 : Int).toNat a0.size)).bind fun t436 => (if t435.size + t436.size ≤ 9223372036854775807 then ((cluster_Drawn.f a0).bind fun t437 => (some ((t435 ++ t436).toList == t437.toList))) else (none)))) else (some false))))) else (some false))) else ((cluster_Count.f a0).bind fun t430 => (some (decide ((wrap64 (t427 + t428)) ≥ t430))))))) = some r := H
       have A13 := Aside0.mk A130
       clear A130
       have c14b0 := eq_true (of_decide_eq_true (by first | (with_reducible assumption) | assumption) : 0 ≤ a1)
       have c15b0 := eq_true (of_decide_eq_true (by first | (with_reducible assumption) | assumption) : a1 ≤ (a0.size : Int))
       replace H := Option.bind_eq_some_iff.mp H
       obtain ⟨t428,A160,H⟩ := H
       replace H : ((cluster_Boundary.f kj4 a0 a1).bind fun t429 => (if t429 = true then ((cluster_Count.f a0).bind fun t431 => (if (wrap64 (t427 + t428)) = t431 then ((cluster_Cells.f (a0.extract 0 (a1 : Int).toNat)).bind fun t432 => ((cluster_Cells.f (a0.extract (a1 : Int).toNat a0.size)).bind fun t433 => ((cluster_Cells.f a0).bind fun t434 => (if (wrap64 (t432 + t433)) = t434 then ((cluster_Drawn.f (a0.extract 0 (a1 : Int).toNat)).bind fun t435 => ((cluster_Drawn.f (a0.extract (a1 : Int).toNat a0.size)).bind fun t436 => (if t435.size + t436.size ≤ 9223372036854775807 then ((cluster_Drawn.f a0).bind fun t437 => (some ((t435 ++ t436).toList == t437.toList))) else (none)))) else (some false))))) else (some false))) else ((cluster_Count.f a0).bind fun t430 => (some (decide ((wrap64 (t427 + t428)) ≥ t430)))))) = some r := H
       have A16 := Aside0.mk A160
       clear A160
       replace H := Option.bind_eq_some_iff.mp H
       obtain ⟨t429,A170,H⟩ := H
       replace H : (if t429 = true then ((cluster_Count.f a0).bind fun t431 => (if (wrap64 (t427 + t428)) = t431 then ((cluster_Cells.f (a0.extract 0 (a1 : Int).toNat)).bind fun t432 => ((cluster_Cells.f (a0.extract (a1 : Int).toNat a0.size)).bind fun t433 => ((cluster_Cells.f a0).bind fun t434 => (if (wrap64 (t432 + t433)) = t434 then ((cluster_Drawn.f (a0.extract 0 (a1 : Int).toNat)).bind fun t435 => ((cluster_Drawn.f (a0.extract (a1 : Int).toNat a0.size)).bind fun t436 => (if t435.size + t436.size ≤ 9223372036854775807 then ((cluster_Drawn.f a0).bind fun t437 => (some ((t435 ++ t436).toList == t437.toList))) else (none)))) else (some false))))) else (some false))) else ((cluster_Count.f a0).bind fun t430 => (some (decide ((wrap64 (t427 + t428)) ≥ t430))))) = some r := H
       have A17 := Aside0.mk A170
       clear A170
       by_cases c18 : t429 = true
       ·subst c18
        have H1 : ((cluster_Count.f a0).bind fun t431 => (if (wrap64 (t427 + t428)) = t431 then ((cluster_Cells.f (a0.extract 0 (a1 : Int).toNat)).bind fun t432 => ((cluster_Cells.f (a0.extract (a1 : Int).toNat a0.size)).bind fun t433 => ((cluster_Cells.f a0).bind fun t434 => (if (wrap64 (t432 + t433)) = t434 then ((cluster_Drawn.f (a0.extract 0 (a1 : Int).toNat)).bind fun t435 => ((cluster_Drawn.f (a0.extract (a1 : Int).toNat a0.size)).bind fun t436 => (if t435.size + t436.size ≤ 9223372036854775807 then ((cluster_Drawn.f a0).bind fun t437 => (some ((t435 ++ t436).toList == t437.toList))) else (none)))) else (some false))))) else (some false))) = some r := by rw [if_pos rfl] at H;exact H
        clear H
        have H := H1
        clear H1
        replace H := Option.bind_eq_some_iff.mp H
        obtain ⟨t431,A190,H⟩ := H
        replace H : (if (wrap64 (t427 + t428)) = t431 then ((cluster_Cells.f (a0.extract 0 (a1 : Int).toNat)).bind fun t432 => ((cluster_Cells.f (a0.extract (a1 : Int).toNat a0.size)).bind fun t433 => ((cluster_Cells.f a0).bind fun t434 => (if (wrap64 (t432 + t433)) = t434 then ((cluster_Drawn.f (a0.extract 0 (a1 : Int).toNat)).bind fun t435 => ((cluster_Drawn.f (a0.extract (a1 : Int).toNat a0.size)).bind fun t436 => (if t435.size + t436.size ≤ 9223372036854775807 then ((cluster_Drawn.f a0).bind fun t437 => (some ((t435 ++ t436).toList == t437.toList))) else (none)))) else (some false))))) else (some false)) = some r := H
        have A19 := Aside0.mk A190
        clear A190
        by_cases c20 : (wrap64 (t427 + t428)) = t431
        ·rw [if_pos c20] at H
         have c20b0 : ((wrap64 (t427 + t428)) == t431) = true := beq_iff_eq.mpr c20
         have c20b1 : ((wrap64 (t427 + t428)) != t431) = false := bne_eq_false_iff_eq.mpr c20
         clear c20
         have c21b0 := eq_true (of_decide_eq_true (by first | (with_reducible assumption) | assumption) : 0 ≤ a1)
         have c22b0 := eq_true (of_decide_eq_true (by first | (with_reducible assumption) | assumption) : a1 ≤ (a0.size : Int))
         replace H := Option.bind_eq_some_iff.mp H
         obtain ⟨t432,A230,H⟩ := H
         replace H : ((cluster_Cells.f (a0.extract (a1 : Int).toNat a0.size)).bind fun t433 => ((cluster_Cells.f a0).bind fun t434 => (if (wrap64 (t432 + t433)) = t434 then ((cluster_Drawn.f (a0.extract 0 (a1 : Int).toNat)).bind fun t435 => ((cluster_Drawn.f (a0.extract (a1 : Int).toNat a0.size)).bind fun t436 => (if t435.size + t436.size ≤ 9223372036854775807 then ((cluster_Drawn.f a0).bind fun t437 => (some ((t435 ++ t436).toList == t437.toList))) else (none)))) else (some false)))) = some r := H
         have A23 := Aside0.mk A230
         clear A230
         have c24b0 := eq_true (of_decide_eq_true (by first | (with_reducible assumption) | assumption) : 0 ≤ a1)
         have c25b0 := eq_true (of_decide_eq_true (by first | (with_reducible assumption) | assumption) : a1 ≤ (a0.size : Int))
         replace H := Option.bind_eq_some_iff.mp H
         obtain ⟨t433,A260,H⟩ := H
         replace H : ((cluster_Cells.f a0).bind fun t434 => (if (wrap64 (t432 + t433)) = t434 then ((cluster_Drawn.f (a0.extract 0 (a1 : Int).toNat)).bind fun t435 => ((cluster_Drawn.f (a0.extract (a1 : Int).toNat a0.size)).bind fun t436 => (if t435.size + t436.size ≤ 9223372036854775807 then ((cluster_Drawn.f a0).bind fun t437 => (some ((t435 ++ t436).toList == t437.toList))) else (none)))) else (some false))) = some r := H
         have A26 := Aside0.mk A260
         clear A260
         replace H := Option.bind_eq_some_iff.mp H
         obtain ⟨t434,A270,H⟩ := H
         replace H : (if (wrap64 (t432 + t433)) = t434 then ((cluster_Drawn.f (a0.extract 0 (a1 : Int).toNat)).bind fun t435 => ((cluster_Drawn.f (a0.extract (a1 : Int).toNat a0.size)).bind fun t436 => (if t435.size + t436.size ≤ 9223372036854775807 then ((cluster_Drawn.f a0).bind fun t437 => (some ((t435 ++ t436).toList == t437.toList))) else (none)))) else (some false)) = some r := H
         have A27 := Aside0.mk A270
         clear A270
         by_cases c28 : (wrap64 (t432 + t433)) = t434
         ·rw [if_pos c28] at H
          have c28b0 : ((wrap64 (t432 + t433)) == t434) = true := beq_iff_eq.mpr c28
          have c28b1 : ((wrap64 (t432 + t433)) != t434) = false := bne_eq_false_iff_eq.mpr c28
          clear c28
          have c29b0 := eq_true (of_decide_eq_true (by first | (with_reducible assumption) | assumption) : 0 ≤ a1)
          have c30b0 := eq_true (of_decide_eq_true (by first | (with_reducible assumption) | assumption) : a1 ≤ (a0.size : Int))
          replace H := Option.bind_eq_some_iff.mp H
          obtain ⟨t435,A310,H⟩ := H
          replace H : ((cluster_Drawn.f (a0.extract (a1 : Int).toNat a0.size)).bind fun t436 => (if t435.size + t436.size ≤ 9223372036854775807 then ((cluster_Drawn.f a0).bind fun t437 => (some ((t435 ++ t436).toList == t437.toList))) else (none))) = some r := H
          have A31 := Aside0.mk A310
          clear A310
          have c32b0 := eq_true (of_decide_eq_true (by first | (with_reducible assumption) | assumption) : 0 ≤ a1)
          have c33b0 := eq_true (of_decide_eq_true (by first | (with_reducible assumption) | assumption) : a1 ≤ (a0.size : Int))
          replace H := Option.bind_eq_some_iff.mp H
          obtain ⟨t436,A340,H⟩ := H
          replace H : (if t435.size + t436.size ≤ 9223372036854775807 then ((cluster_Drawn.f a0).bind fun t437 => (some ((t435 ++ t436).toList == t437.toList))) else (none)) = some r := H
          have A34 := Aside0.mk A340
          clear A340
          by_cases c35 : t435.size + t436.size ≤ 9223372036854775807
          ·rw [if_pos c35] at H
           have c35b0 := eq_true c35
           have c35b1 : decide (t435.size + t436.size ≤ 9223372036854775807) = true := decide_eq_true c35
           try have c35b2 : (9223372036854775807 < t435.size + t436.size) = False := eq_false (Nat.not_lt.2 c35)
           replace H := Option.bind_eq_some_iff.mp H
           obtain ⟨t437,A360,H⟩ := H
           replace H : (some ((t435 ++ t436).toList == t437.toList)) = some r := H
           have A36 := Aside0.mk A360
           clear A360
           obtain rfl := Option.some.inj H
           try go_wp2
           have n0_ := Aside0.mk (below_drew1 HB.out)
           clear HB
           have HB := n0_
           clear n0_
           refine start_ (n := 10) (S := fun w' => True) (ds := []) #[false,false,false,false,false,false,false,false,false,false] (by kernel_rfl) rfl rfl trivial (fun hHeld => ?_);refine with_tabW bodkinlaw03_ClusterSums.tab5 bodkinlaw03_ClusterSums.bits5 (fun HT_ HW_ => ?_)
           generalize wc.drew = w37 at HB hHeld ⊢
           refine pure_ (i := 0) (N := some 20) (v := ?_) (a' := ?_) #[true,false,false,false,false,false,false,false,false,false] rfl rfl (any_of HT_.out (by kernel_rfl)) (fun _ _ _ h => h) (Or.inl ⟨by rfl,?_⟩) ?_ ?_
           rotate_left
           ·intro w'
            go_simp
            with_reducible rfl
           rotate_left
           ·simp only [Act.put,List.setIfInBounds_toArray,List.set_cons_zero,List.set_cons_succ,i64_w,i32_w]
            rfl
           refine pure_ (i := 1) (N := some 21) (v := ?_) (a' := ?_) #[true,true,false,false,false,false,false,false,false,false] rfl rfl (any_of HT_.out (by kernel_rfl)) (fun _ _ _ h => h) (Or.inl ⟨by rfl,?_⟩) ?_ ?_
           rotate_left
           ·intro w'
            go_simp
            with_reducible rfl
           rotate_left
           ·simp only [Act.put,List.setIfInBounds_toArray,List.set_cons_zero,List.set_cons_succ,i64_w,i32_w]
            rfl
           refine pure_ (i := 2) (N := some 22) (v := ?_) (a' := ?_) #[true,true,true,false,false,false,false,false,false,false] rfl rfl (any_of HT_.out (by kernel_rfl)) (fun _ _ _ h => h) (Or.inl ⟨by rfl,?_⟩) ?_ ?_
           rotate_left
           ·intro w'
            go_simp
            with_reducible rfl
           rotate_left
           ·simp only [Act.put,List.setIfInBounds_toArray,List.set_cons_zero,List.set_cons_succ,i64_w,i32_w]
            rfl
           refine pure_ (i := 4) (N := some 24) (v := ?_) (a' := ?_) #[true,true,true,false,true,false,false,false,false,false] rfl rfl (any_of HT_.out (by kernel_rfl)) (fun _ _ _ h => h) (Or.inl ⟨by rfl,?_⟩) ?_ ?_
           rotate_left
           ·intro w'
            go_simp
            with_reducible rfl
           rotate_left
           ·simp only [Act.put,List.setIfInBounds_toArray,List.set_cons_zero,List.set_cons_succ,i64_w,i32_w]
            rfl
           refine pure_ (i := 5) (N := some 25) (v := ?_) (a' := ?_) #[true,true,true,false,true,true,false,false,false,false] rfl rfl (any_of HT_.out (by kernel_rfl)) (fun _ _ _ h => h) (Or.inl ⟨by rfl,?_⟩) ?_ ?_
           rotate_left
           ·intro w'
            go_simp
            with_reducible rfl
           rotate_left
           ·simp only [Act.put,List.setIfInBounds_toArray,List.set_cons_zero,List.set_cons_succ,i64_w,i32_w]
            rfl
           refine pure_ (i := 6) (N := some 26) (v := ?_) (a' := ?_) #[true,true,true,false,true,true,true,false,false,false] rfl rfl (any_of HT_.out (by kernel_rfl)) (fun _ _ _ h => h) (Or.inl ⟨by rfl,?_⟩) ?_ ?_
           rotate_left
           ·intro w'
            go_simp
            with_reducible rfl
           rotate_left
           ·simp only [Act.put,List.setIfInBounds_toArray,List.set_cons_zero,List.set_cons_succ,i64_w,i32_w]
            rfl
           refine one_ (i := 3) (N := some 23) #[true,true,true,true,true,true,true,false,false,false] rfl rfl (one_of HT_.out (by kernel_rfl)) (by decide) (fun K hK => ?_)
           refine goes_ Tryd.func52 (by kernel_rfl) rfl #[.string (a0.extract 0 (a1 : Int).toNat)] (by rfl) rfl rfl (by (try simp only [List.map_toArray,List.map_cons,List.map_nil]);first | done | rfl | (simp only [List.length_drop,List.length_take];rfl)) ?_
           with_reducible refine (cluster_Count.calls (a0.extract 0 (a1 : Int).toNat) t427 _ ?side1 A13.out).mono ?_
           (case side1 => exact tabs_below HT.out (by repeat (first | (with_reducible first | exact HB.out | apply below_alloc | apply pw_below_drewN | apply below_drew1) | exact HB.out)))
           rintro e w38 ⟨rfl,hb⟩
           refine ⟨_,rfl,?_⟩
           have n0_ := Aside0.mk (below_step (by repeat (first | (with_reducible first | exact HB.out | apply below_alloc | apply pw_below_drewN | apply below_drew1) | exact HB.out)) hb)
           clear HB
           have HB := n0_
           clear n0_
           (try clear hb)
           (try clear hb2)
           (try clear hk)
           (try clear hi)
           refine hK.out _ _ trivial (fun hHeld => ?_)
           clear hK K
           refine norm_ (a' := ?_) ?_ ?_
           rotate_left
           ·show Act.put _ (some 23) _ = _
            simp only [Act.put,List.setIfInBounds_toArray,List.set_cons_zero,List.set_cons_succ,i64_w,i32_w]
            rfl
           refine one_ (i := 7) (N := some 27) #[true,true,true,true,true,true,true,true,false,false] rfl rfl (one_of HT_.out (by kernel_rfl)) (by decide) (fun K hK => ?_)
           refine goes_ Tryd.func52 (by kernel_rfl) rfl #[.string (a0.extract (a1 : Int).toNat a0.size)] (by rfl) rfl rfl (by (try simp only [List.map_toArray,List.map_cons,List.map_nil]);first | done | rfl | (simp only [List.length_drop,List.length_take];rfl)) ?_
           with_reducible refine (cluster_Count.calls (a0.extract (a1 : Int).toNat a0.size) t428 _ ?side1 A16.out).mono ?_
           (case side1 => exact tabs_below HT.out (by repeat (first | (with_reducible first | exact HB.out | apply below_alloc | apply pw_below_drewN | apply below_drew1) | exact HB.out)))
           rintro e w39 ⟨rfl,hb⟩
           refine ⟨_,rfl,?_⟩
           have n0_ := Aside0.mk (below_step (by repeat (first | (with_reducible first | exact HB.out | apply below_alloc | apply pw_below_drewN | apply below_drew1) | exact HB.out)) hb)
           clear HB
           have HB := n0_
           clear n0_
           (try clear hb)
           (try clear hb2)
           (try clear hk)
           (try clear hi)
           refine hK.out _ _ trivial (fun hHeld => ?_)
           clear hK K
           refine norm_ (a' := ?_) ?_ ?_
           rotate_left
           ·show Act.put _ (some 27) _ = _
            simp only [Act.put,List.setIfInBounds_toArray,List.set_cons_zero,List.set_cons_succ,i64_w,i32_w]
            rfl
           refine pure_ (i := 8) (N := some 28) (v := ?_) (a' := ?_) #[true,true,true,true,true,true,true,true,true,false] rfl rfl (any_of HT_.out (by kernel_rfl)) (fun _ _ _ h => h) (Or.inl ⟨by rfl,?_⟩) ?_ ?_
           rotate_left
           ·intro w'
            go_simp
            with_reducible rfl
           rotate_left
           ·simp only [Act.put,List.setIfInBounds_toArray,List.set_cons_zero,List.set_cons_succ,i64_w,i32_w]
            rfl
           refine pure_ (i := 9) (N := some 5) (v := ?_) (a' := ?_) #[true,true,true,true,true,true,true,true,true,true] rfl rfl (any_of HT_.out (by kernel_rfl)) (fun _ _ _ h => h) (Or.inl ⟨by rfl,?_⟩) ?_ ?_
           rotate_left
           ·intro w'
            go_simp
            with_reducible rfl
           rotate_left
           ·simp only [Act.put,List.setIfInBounds_toArray,List.set_cons_zero,List.set_cons_succ,i64_w,i32_w]
            rfl
           refine done_ (done_of HT_.out (by kernel_rfl)) ?_
           try go_wp2_with (first | ((with_reducible refine gate_callee (f := 42) rfl ?_);refine goesL_ (some 31) rfl rfl Tryd.func42 (by kernel_rfl) rfl #[.string a0,.int .i64 a1] rfl (by (try simp only [List.map_toArray,List.map_cons,List.map_nil]);first | done | rfl | (simp only [List.length_drop,List.length_take];rfl)) ?_;(with_reducible refine (cluster_Boundary.calls kj4 a0 a1 true _ ?side1 A17.out).mono ?_);(case side1 => exact tabs_below HT.out (by repeat (first | (with_reducible first | exact HB.out | apply below_alloc | apply pw_below_drewN | apply below_drew1) | exact HB.out)));rintro e w40 ⟨rfl,hb⟩;refine ⟨_,rfl,?_⟩;have n0_ := Aside0.mk (below_step (by repeat (first | (with_reducible first | exact HB.out | apply below_alloc | apply pw_below_drewN | apply below_drew1) | exact HB.out)) hb);clear HB;have HB := n0_;clear n0_;(try clear hb);(try clear hb2);(try clear hk);(try clear hi)))
           have n0_ := Aside0.mk (below_drew1 HB.out)
           clear HB
           have HB := n0_
           clear n0_
           refine start_ (n := 33) (S := fun w' => True) (ds := []) #[false,false,false,false,false,false,false,false,false,false,false,false,false,false,false,false,false,false,false,false,false,false,false,false,false,false,false,false,false,false,false,false,false] (by kernel_rfl) rfl rfl trivial (fun hHeld => ?_);refine with_tabW bodkinlaw03_ClusterSums.tab8 bodkinlaw03_ClusterSums.bits8 (fun HT_ HW_ => ?_)
           generalize w40.drew = w41 at HB hHeld ⊢
           refine pure_ (i := 0) (N := some 37) (v := ?_) (a' := ?_) #[true,false,false,false,false,false,false,false,false,false,false,false,false,false,false,false,false,false,false,false,false,false,false,false,false,false,false,false,false,false,false,false,false] rfl rfl (any_of HT_.out (by kernel_rfl)) (fun _ _ _ h => h) (Or.inl ⟨by rfl,?_⟩) ?_ ?_
           rotate_left
           ·intro w'
            go_simp
            with_reducible rfl
           rotate_left
           ·simp only [Act.put,List.setIfInBounds_toArray,List.set_cons_zero,List.set_cons_succ,i64_w,i32_w]
            rfl
           refine pure_ (i := 1) (N := some 38) (v := ?_) (a' := ?_) #[true,true,false,false,false,false,false,false,false,false,false,false,false,false,false,false,false,false,false,false,false,false,false,false,false,false,false,false,false,false,false,false,false] rfl rfl (any_of HT_.out (by kernel_rfl)) (fun _ _ _ h => h) (Or.inl ⟨by rfl,?_⟩) ?_ ?_
           rotate_left
           ·intro w'
            go_simp
            with_reducible rfl
           rotate_left
           ·simp only [Act.put,List.setIfInBounds_toArray,List.set_cons_zero,List.set_cons_succ,i64_w,i32_w]
            rfl
           refine one_ (i := 2) (N := some 39) #[true,true,true,false,false,false,false,false,false,false,false,false,false,false,false,false,false,false,false,false,false,false,false,false,false,false,false,false,false,false,false,false,false] rfl rfl (one_of HT_.out (by kernel_rfl)) (by decide) (fun K hK => ?_)
           refine goes_ Tryd.func52 (by kernel_rfl) rfl #[.string a0] (by rfl) rfl rfl (by (try simp only [List.map_toArray,List.map_cons,List.map_nil]);first | done | rfl | (simp only [List.length_drop,List.length_take];rfl)) ?_
           with_reducible refine (cluster_Count.calls a0 t431 _ ?side1 A19.out).mono ?_
           (case side1 => exact tabs_below HT.out (by repeat (first | (with_reducible first | exact HB.out | apply below_alloc | apply pw_below_drewN | apply below_drew1) | exact HB.out)))
           rintro e w42 ⟨rfl,hb⟩
           refine ⟨_,rfl,?_⟩
           have n0_ := Aside0.mk (below_step (by repeat (first | (with_reducible first | exact HB.out | apply below_alloc | apply pw_below_drewN | apply below_drew1) | exact HB.out)) hb)
           clear HB
           have HB := n0_
           clear n0_
           (try clear hb)
           (try clear hb2)
           (try clear hk)
           (try clear hi)
           refine hK.out _ _ trivial (fun hHeld => ?_)
           clear hK K
           refine norm_ (a' := ?_) ?_ ?_
           rotate_left
           ·show Act.put _ (some 39) _ = _
            simp only [Act.put,List.setIfInBounds_toArray,List.set_cons_zero,List.set_cons_succ,i64_w,i32_w]
            rfl
           refine pure_ (i := 3) (N := some 40) (v := ?_) (a' := ?_) #[true,true,true,true,false,false,false,false,false,false,false,false,false,false,false,false,false,false,false,false,false,false,false,false,false,false,false,false,false,false,false,false,false] rfl rfl (any_of HT_.out (by kernel_rfl)) (fun _ _ _ h => h) (Or.inl ⟨by rfl,?_⟩) ?_ ?_
           rotate_left
           ·intro w'
            go_simp
            with_reducible rfl
           rotate_left
           ·simp only [Act.put,List.setIfInBounds_toArray,List.set_cons_zero,List.set_cons_succ,i64_w,i32_w]
            rfl
           refine pure_ (i := 4) (N := some 41) (v := ?_) (a' := ?_) #[true,true,true,true,true,false,false,false,false,false,false,false,false,false,false,false,false,false,false,false,false,false,false,false,false,false,false,false,false,false,false,false,false] rfl rfl (any_of HT_.out (by kernel_rfl)) (fun _ _ _ h => h) (Or.inl ⟨by rfl,?_⟩) ?_ ?_
           rotate_left
           ·intro w'
            go_simp
            with_reducible rfl
           rotate_left
           ·simp only [Act.put,List.setIfInBounds_toArray,List.set_cons_zero,List.set_cons_succ,i64_w,i32_w]
            rfl
           refine pure_ (i := 5) (N := some 42) (v := ?_) (a' := ?_) #[true,true,true,true,true,true,false,false,false,false,false,false,false,false,false,false,false,false,false,false,false,false,false,false,false,false,false,false,false,false,false,false,false] rfl rfl (any_of HT_.out (by kernel_rfl)) (fun _ _ _ h => h) (Or.inl ⟨by rfl,?_⟩) ?_ ?_
           rotate_left
           ·intro w'
            go_simp
            with_reducible rfl
           rotate_left
           ·simp only [Act.put,List.setIfInBounds_toArray,List.set_cons_zero,List.set_cons_succ,i64_w,i32_w]
            rfl
           refine pure_ (i := 6) (N := some 43) (v := ?_) (a' := ?_) #[true,true,true,true,true,true,true,false,false,false,false,false,false,false,false,false,false,false,false,false,false,false,false,false,false,false,false,false,false,false,false,false,false] rfl rfl (any_of HT_.out (by kernel_rfl)) (fun _ _ _ h => h) (Or.inl ⟨by rfl,?_⟩) ?_ ?_
           rotate_left
           ·intro w'
            go_simp
            with_reducible rfl
           rotate_left
           ·simp only [Act.put,List.setIfInBounds_toArray,List.set_cons_zero,List.set_cons_succ,i64_w,i32_w]
            rfl
           refine pure_ (i := 7) (N := some 44) (v := ?_) (a' := ?_) #[true,true,true,true,true,true,true,true,false,false,false,false,false,false,false,false,false,false,false,false,false,false,false,false,false,false,false,false,false,false,false,false,false] rfl rfl (any_of HT_.out (by kernel_rfl)) (fun _ _ _ h => h) (Or.inl ⟨by rfl,?_⟩) ?_ ?_
           rotate_left
           ·intro w'
            go_simp
            with_reducible rfl
           rotate_left
           ·simp only [Act.put,List.setIfInBounds_toArray,List.set_cons_zero,List.set_cons_succ,i64_w,i32_w]
            rfl
           refine pure_ (i := 9) (N := some 46) (v := ?_) (a' := ?_) #[true,true,true,true,true,true,true,true,false,true,false,false,false,false,false,false,false,false,false,false,false,false,false,false,false,false,false,false,false,false,false,false,false] rfl rfl (any_of HT_.out (by kernel_rfl)) (fun _ _ _ h => h) (Or.inl ⟨by rfl,?_⟩) ?_ ?_
           rotate_left
           ·intro w'
            go_simp
            with_reducible rfl
           rotate_left
           ·simp only [Act.put,List.setIfInBounds_toArray,List.set_cons_zero,List.set_cons_succ,i64_w,i32_w]
            rfl
           refine pure_ (i := 10) (N := some 47) (v := ?_) (a' := ?_) #[true,true,true,true,true,true,true,true,false,true,true,false,false,false,false,false,false,false,false,false,false,false,false,false,false,false,false,false,false,false,false,false,false] rfl rfl (any_of HT_.out (by kernel_rfl)) (fun _ _ _ h => h) (Or.inl ⟨by rfl,?_⟩) ?_ ?_
           rotate_left
           ·intro w'
            go_simp
            with_reducible rfl
           rotate_left
           ·simp only [Act.put,List.setIfInBounds_toArray,List.set_cons_zero,List.set_cons_succ,i64_w,i32_w]
            rfl
           refine pure_ (i := 11) (N := some 48) (v := ?_) (a' := ?_) #[true,true,true,true,true,true,true,true,false,true,true,true,false,false,false,false,false,false,false,false,false,false,false,false,false,false,false,false,false,false,false,false,false] rfl rfl (any_of HT_.out (by kernel_rfl)) (fun _ _ _ h => h) (Or.inl ⟨by rfl,?_⟩) ?_ ?_
           rotate_left
           ·intro w'
            go_simp
            with_reducible rfl
           rotate_left
           ·simp only [Act.put,List.setIfInBounds_toArray,List.set_cons_zero,List.set_cons_succ,i64_w,i32_w]
            rfl
           refine pure_ (i := 14) (N := some 51) (v := ?_) (a' := ?_) #[true,true,true,true,true,true,true,true,false,true,true,true,false,false,true,false,false,false,false,false,false,false,false,false,false,false,false,false,false,false,false,false,false] rfl rfl (any_of HT_.out (by kernel_rfl)) (fun _ _ _ h => h) (Or.inl ⟨by rfl,?_⟩) ?_ ?_
           rotate_left
           ·intro w'
            go_simp
            with_reducible rfl
           rotate_left
           ·simp only [Act.put,List.setIfInBounds_toArray,List.set_cons_zero,List.set_cons_succ,i64_w,i32_w]
            rfl
           refine one_ (i := 8) (N := some 45) #[true,true,true,true,true,true,true,true,true,true,true,true,false,false,true,false,false,false,false,false,false,false,false,false,false,false,false,false,false,false,false,false,false] rfl rfl (one_of HT_.out (by kernel_rfl)) (by decide) (fun K hK => ?_)
           refine goes_ Tryd.func54 (by kernel_rfl) rfl #[.string (a0.extract 0 (a1 : Int).toNat)] (by rfl) rfl rfl (by (try simp only [List.map_toArray,List.map_cons,List.map_nil]);first | done | rfl | (simp only [List.length_drop,List.length_take];rfl)) ?_
           with_reducible refine (cluster_Cells.calls (a0.extract 0 (a1 : Int).toNat) t432 _ ?side1 A23.out).mono ?_
           (case side1 => exact tabs_below HT.out (by repeat (first | (with_reducible first | exact HB.out | apply below_alloc | apply pw_below_drewN | apply below_drew1) | exact HB.out)))
           rintro e w43 ⟨rfl,hb⟩
           refine ⟨_,rfl,?_⟩
           have n0_ := Aside0.mk (below_step (by repeat (first | (with_reducible first | exact HB.out | apply below_alloc | apply pw_below_drewN | apply below_drew1) | exact HB.out)) hb)
           clear HB
           have HB := n0_
           clear n0_
           (try clear hb)
           (try clear hb2)
           (try clear hk)
           (try clear hi)
           refine hK.out _ _ trivial (fun hHeld => ?_)
           clear hK K
           refine norm_ (a' := ?_) ?_ ?_
           rotate_left
           ·show Act.put _ (some 45) _ = _
            simp only [Act.put,List.setIfInBounds_toArray,List.set_cons_zero,List.set_cons_succ,i64_w,i32_w]
            rfl
           refine one_ (i := 12) (N := some 49) #[true,true,true,true,true,true,true,true,true,true,true,true,true,false,true,false,false,false,false,false,false,false,false,false,false,false,false,false,false,false,false,false,false] rfl rfl (one_of HT_.out (by kernel_rfl)) (by decide) (fun K hK => ?_)
           refine goes_ Tryd.func54 (by kernel_rfl) rfl #[.string (a0.extract (a1 : Int).toNat a0.size)] (by rfl) rfl rfl (by (try simp only [List.map_toArray,List.map_cons,List.map_nil]);first | done | rfl | (simp only [List.length_drop,List.length_take];rfl)) ?_
           with_reducible refine (cluster_Cells.calls (a0.extract (a1 : Int).toNat a0.size) t433 _ ?side1 A26.out).mono ?_
           (case side1 => exact tabs_below HT.out (by repeat (first | (with_reducible first | exact HB.out | apply below_alloc | apply pw_below_drewN | apply below_drew1) | exact HB.out)))
           rintro e w44 ⟨rfl,hb⟩
           refine ⟨_,rfl,?_⟩
           have n0_ := Aside0.mk (below_step (by repeat (first | (with_reducible first | exact HB.out | apply below_alloc | apply pw_below_drewN | apply below_drew1) | exact HB.out)) hb)
           clear HB
           have HB := n0_
           clear n0_
           (try clear hb)
           (try clear hb2)
           (try clear hk)
           (try clear hi)
           refine hK.out _ _ trivial (fun hHeld => ?_)
           clear hK K
           refine norm_ (a' := ?_) ?_ ?_
           rotate_left
           ·show Act.put _ (some 49) _ = _
            simp only [Act.put,List.setIfInBounds_toArray,List.set_cons_zero,List.set_cons_succ,i64_w,i32_w]
            rfl
           refine pure_ (i := 13) (N := some 50) (v := ?_) (a' := ?_) #[true,true,true,true,true,true,true,true,true,true,true,true,true,true,true,false,false,false,false,false,false,false,false,false,false,false,false,false,false,false,false,false,false] rfl rfl (any_of HT_.out (by kernel_rfl)) (fun _ _ _ h => h) (Or.inl ⟨by rfl,?_⟩) ?_ ?_
           rotate_left
           ·intro w'
            go_simp
            with_reducible rfl
           rotate_left
           ·simp only [Act.put,List.setIfInBounds_toArray,List.set_cons_zero,List.set_cons_succ,i64_w,i32_w]
            rfl
           refine one_ (i := 15) (N := some 52) #[true,true,true,true,true,true,true,true,true,true,true,true,true,true,true,true,false,false,false,false,false,false,false,false,false,false,false,false,false,false,false,false,false] rfl rfl (one_of HT_.out (by kernel_rfl)) (by decide) (fun K hK => ?_)
           refine goes_ Tryd.func54 (by kernel_rfl) rfl #[.string a0] (by rfl) rfl rfl (by (try simp only [List.map_toArray,List.map_cons,List.map_nil]);first | done | rfl | (simp only [List.length_drop,List.length_take];rfl)) ?_
           with_reducible refine (cluster_Cells.calls a0 t434 _ ?side1 A27.out).mono ?_
           (case side1 => exact tabs_below HT.out (by repeat (first | (with_reducible first | exact HB.out | apply below_alloc | apply pw_below_drewN | apply below_drew1) | exact HB.out)))
           rintro e w45 ⟨rfl,hb⟩
           refine ⟨_,rfl,?_⟩
           have n0_ := Aside0.mk (below_step (by repeat (first | (with_reducible first | exact HB.out | apply below_alloc | apply pw_below_drewN | apply below_drew1) | exact HB.out)) hb)
           clear HB
           have HB := n0_
           clear n0_
           (try clear hb)
           (try clear hb2)
           (try clear hk)
           (try clear hi)
           refine hK.out _ _ trivial (fun hHeld => ?_)
           clear hK K
           refine norm_ (a' := ?_) ?_ ?_
           rotate_left
           ·show Act.put _ (some 52) _ = _
            simp only [Act.put,List.setIfInBounds_toArray,List.set_cons_zero,List.set_cons_succ,i64_w,i32_w]
            rfl
           refine pure_ (i := 16) (N := some 53) (v := ?_) (a' := ?_) #[true,true,true,true,true,true,true,true,true,true,true,true,true,true,true,true,true,false,false,false,false,false,false,false,false,false,false,false,false,false,false,false,false] rfl rfl (any_of HT_.out (by kernel_rfl)) (fun _ _ _ h => h) (Or.inl ⟨by rfl,?_⟩) ?_ ?_
           rotate_left
           ·intro w'
            go_simp
            with_reducible rfl
           rotate_left
           ·simp only [Act.put,List.setIfInBounds_toArray,List.set_cons_zero,List.set_cons_succ,i64_w,i32_w]
            rfl
           refine pure_ (i := 17) (N := some 54) (v := ?_) (a' := ?_) #[true,true,true,true,true,true,true,true,true,true,true,true,true,true,true,true,true,true,false,false,false,false,false,false,false,false,false,false,false,false,false,false,false] rfl rfl (any_of HT_.out (by kernel_rfl)) (fun _ _ _ h => h) (Or.inl ⟨by rfl,?_⟩) ?_ ?_
           rotate_left
           ·intro w'
            go_simp
            with_reducible rfl
           rotate_left
           ·simp only [Act.put,List.setIfInBounds_toArray,List.set_cons_zero,List.set_cons_succ,i64_w,i32_w]
            rfl
           refine pure_ (i := 18) (N := some 55) (v := ?_) (a' := ?_) #[true,true,true,true,true,true,true,true,true,true,true,true,true,true,true,true,true,true,true,false,false,false,false,false,false,false,false,false,false,false,false,false,false] rfl rfl (any_of HT_.out (by kernel_rfl)) (fun _ _ _ h => h) (Or.inl ⟨by rfl,?_⟩) ?_ ?_
           rotate_left
           ·intro w'
            go_simp
            with_reducible rfl
           rotate_left
           ·simp only [Act.put,List.setIfInBounds_toArray,List.set_cons_zero,List.set_cons_succ,i64_w,i32_w]
            rfl
           refine pure_ (i := 19) (N := some 56) (v := ?_) (a' := ?_) #[true,true,true,true,true,true,true,true,true,true,true,true,true,true,true,true,true,true,true,true,false,false,false,false,false,false,false,false,false,false,false,false,false] rfl rfl (any_of HT_.out (by kernel_rfl)) (fun _ _ _ h => h) (Or.inl ⟨by rfl,?_⟩) ?_ ?_
           rotate_left
           ·intro w'
            go_simp
            with_reducible rfl
           rotate_left
           ·simp only [Act.put,List.setIfInBounds_toArray,List.set_cons_zero,List.set_cons_succ,i64_w,i32_w]
            rfl
           refine pure_ (i := 20) (N := some 57) (v := ?_) (a' := ?_) #[true,true,true,true,true,true,true,true,true,true,true,true,true,true,true,true,true,true,true,true,true,false,false,false,false,false,false,false,false,false,false,false,false] rfl rfl (any_of HT_.out (by kernel_rfl)) (fun _ _ _ h => h) (Or.inl ⟨by rfl,?_⟩) ?_ ?_
           rotate_left
           ·intro w'
            go_simp
            with_reducible rfl
           rotate_left
           ·simp only [Act.put,List.setIfInBounds_toArray,List.set_cons_zero,List.set_cons_succ,i64_w,i32_w]
            rfl
           refine pure_ (i := 21) (N := some 58) (v := ?_) (a' := ?_) #[true,true,true,true,true,true,true,true,true,true,true,true,true,true,true,true,true,true,true,true,true,true,false,false,false,false,false,false,false,false,false,false,false] rfl rfl (any_of HT_.out (by kernel_rfl)) (fun _ _ _ h => h) (Or.inl ⟨by rfl,?_⟩) ?_ ?_
           rotate_left
           ·intro w'
            go_simp
            with_reducible rfl
           rotate_left
           ·simp only [Act.put,List.setIfInBounds_toArray,List.set_cons_zero,List.set_cons_succ,i64_w,i32_w]
            rfl
           refine pure_ (i := 23) (N := some 60) (v := ?_) (a' := ?_) #[true,true,true,true,true,true,true,true,true,true,true,true,true,true,true,true,true,true,true,true,true,true,false,true,false,false,false,false,false,false,false,false,false] rfl rfl (any_of HT_.out (by kernel_rfl)) (fun _ _ _ h => h) (Or.inl ⟨by rfl,?_⟩) ?_ ?_
           rotate_left
           ·intro w'
            go_simp
            with_reducible rfl
           rotate_left
           ·simp only [Act.put,List.setIfInBounds_toArray,List.set_cons_zero,List.set_cons_succ,i64_w,i32_w]
            rfl
           refine pure_ (i := 24) (N := some 61) (v := ?_) (a' := ?_) #[true,true,true,true,true,true,true,true,true,true,true,true,true,true,true,true,true,true,true,true,true,true,false,true,true,false,false,false,false,false,false,false,false] rfl rfl (any_of HT_.out (by kernel_rfl)) (fun _ _ _ h => h) (Or.inl ⟨by rfl,?_⟩) ?_ ?_
           rotate_left
           ·intro w'
            go_simp
            with_reducible rfl
           rotate_left
           ·simp only [Act.put,List.setIfInBounds_toArray,List.set_cons_zero,List.set_cons_succ,i64_w,i32_w]
            rfl
           refine pure_ (i := 25) (N := some 62) (v := ?_) (a' := ?_) #[true,true,true,true,true,true,true,true,true,true,true,true,true,true,true,true,true,true,true,true,true,true,false,true,true,true,false,false,false,false,false,false,false] rfl rfl (any_of HT_.out (by kernel_rfl)) (fun _ _ _ h => h) (Or.inl ⟨by rfl,?_⟩) ?_ ?_
           rotate_left
           ·intro w'
            go_simp
            with_reducible rfl
           rotate_left
           ·simp only [Act.put,List.setIfInBounds_toArray,List.set_cons_zero,List.set_cons_succ,i64_w,i32_w]
            rfl
           refine pure_ (i := 28) (N := some 65) (v := ?_) (a' := ?_) #[true,true,true,true,true,true,true,true,true,true,true,true,true,true,true,true,true,true,true,true,true,true,false,true,true,true,false,false,true,false,false,false,false] rfl rfl (any_of HT_.out (by kernel_rfl)) (fun _ _ _ h => h) (Or.inl ⟨by rfl,?_⟩) ?_ ?_
           rotate_left
           ·intro w'
            go_simp
            with_reducible rfl
           rotate_left
           ·simp only [Act.put,List.setIfInBounds_toArray,List.set_cons_zero,List.set_cons_succ,i64_w,i32_w]
            rfl
           refine one_ (i := 22) (N := some 59) #[true,true,true,true,true,true,true,true,true,true,true,true,true,true,true,true,true,true,true,true,true,true,true,true,true,true,false,false,true,false,false,false,false] rfl rfl (one_of HT_.out (by kernel_rfl)) (by decide) (fun K hK => ?_)
           refine goes_ Tryd.func56 (by kernel_rfl) rfl #[.string (a0.extract 0 (a1 : Int).toNat)] (by rfl) rfl rfl (by (try simp only [List.map_toArray,List.map_cons,List.map_nil]);first | done | rfl | (simp only [List.length_drop,List.length_take];rfl)) ?_
           with_reducible refine (cluster_Drawn.calls (a0.extract 0 (a1 : Int).toNat) t435 _ ?side1 A31.out).mono ?_
           (case side1 => exact tabs_below HT.out (by repeat (first | (with_reducible first | exact HB.out | apply below_alloc | apply pw_below_drewN | apply below_drew1) | exact HB.out)))
           rintro e w46 ⟨rfl,hb⟩
           refine ⟨_,rfl,?_⟩
           have n0_ := Aside0.mk (below_step (by repeat (first | (with_reducible first | exact HB.out | apply below_alloc | apply pw_below_drewN | apply below_drew1) | exact HB.out)) hb)
           clear HB
           have HB := n0_
           clear n0_
           (try clear hb)
           (try clear hb2)
           (try clear hk)
           (try clear hi)
           refine hK.out _ _ trivial (fun hHeld => ?_)
           clear hK K
           refine norm_ (a' := ?_) ?_ ?_
           rotate_left
           ·show Act.put _ (some 59) _ = _
            simp only [Act.put,List.setIfInBounds_toArray,List.set_cons_zero,List.set_cons_succ,i64_w,i32_w]
            rfl
           refine one_ (i := 26) (N := some 63) #[true,true,true,true,true,true,true,true,true,true,true,true,true,true,true,true,true,true,true,true,true,true,true,true,true,true,true,false,true,false,false,false,false] rfl rfl (one_of HT_.out (by kernel_rfl)) (by decide) (fun K hK => ?_)
           refine goes_ Tryd.func56 (by kernel_rfl) rfl #[.string (a0.extract (a1 : Int).toNat a0.size)] (by rfl) rfl rfl (by (try simp only [List.map_toArray,List.map_cons,List.map_nil]);first | done | rfl | (simp only [List.length_drop,List.length_take];rfl)) ?_
           with_reducible refine (cluster_Drawn.calls (a0.extract (a1 : Int).toNat a0.size) t436 _ ?side1 A34.out).mono ?_
           (case side1 => exact tabs_below HT.out (by repeat (first | (with_reducible first | exact HB.out | apply below_alloc | apply pw_below_drewN | apply below_drew1) | exact HB.out)))
           rintro e w47 ⟨rfl,hb⟩
           refine ⟨_,rfl,?_⟩
           have n0_ := Aside0.mk (below_step (by repeat (first | (with_reducible first | exact HB.out | apply below_alloc | apply pw_below_drewN | apply below_drew1) | exact HB.out)) hb)
           clear HB
           have HB := n0_
           clear n0_
           (try clear hb)
           (try clear hb2)
           (try clear hk)
           (try clear hi)
           refine hK.out _ _ trivial (fun hHeld => ?_)
           clear hK K
           refine norm_ (a' := ?_) ?_ ?_
           rotate_left
           ·show Act.put _ (some 63) _ = _
            simp only [Act.put,List.setIfInBounds_toArray,List.set_cons_zero,List.set_cons_succ,i64_w,i32_w]
            rfl
           refine pure_ (i := 27) (N := some 64) (v := ?_) (a' := ?_) #[true,true,true,true,true,true,true,true,true,true,true,true,true,true,true,true,true,true,true,true,true,true,true,true,true,true,true,true,true,false,false,false,false] rfl rfl (any_of HT_.out (by kernel_rfl)) (fun _ _ _ h => h) (Or.inl ⟨by rfl,?_⟩) ?_ ?_
           rotate_left
           ·intro w'
            go_simp
            with_reducible rfl
           rotate_left
           ·simp only [Act.put,List.setIfInBounds_toArray,List.set_cons_zero,List.set_cons_succ,i64_w,i32_w]
            rfl
           refine one_ (i := 29) (N := some 66) #[true,true,true,true,true,true,true,true,true,true,true,true,true,true,true,true,true,true,true,true,true,true,true,true,true,true,true,true,true,true,false,false,false] rfl rfl (one_of HT_.out (by kernel_rfl)) (by decide) (fun K hK => ?_)
           refine goes_ Tryd.func56 (by kernel_rfl) rfl #[.string a0] (by rfl) rfl rfl (by (try simp only [List.map_toArray,List.map_cons,List.map_nil]);first | done | rfl | (simp only [List.length_drop,List.length_take];rfl)) ?_
           with_reducible refine (cluster_Drawn.calls a0 t437 _ ?side1 A36.out).mono ?_
           (case side1 => exact tabs_below HT.out (by repeat (first | (with_reducible first | exact HB.out | apply below_alloc | apply pw_below_drewN | apply below_drew1) | exact HB.out)))
           rintro e w48 ⟨rfl,hb⟩
           refine ⟨_,rfl,?_⟩
           have n0_ := Aside0.mk (below_step (by repeat (first | (with_reducible first | exact HB.out | apply below_alloc | apply pw_below_drewN | apply below_drew1) | exact HB.out)) hb)
           clear HB
           have HB := n0_
           clear n0_
           (try clear hb)
           (try clear hb2)
           (try clear hk)
           (try clear hi)
           refine hK.out _ _ trivial (fun hHeld => ?_)
           clear hK K
           refine norm_ (a' := ?_) ?_ ?_
           rotate_left
           ·show Act.put _ (some 66) _ = _
            simp only [Act.put,List.setIfInBounds_toArray,List.set_cons_zero,List.set_cons_succ,i64_w,i32_w]
            rfl
           refine pure_ (i := 30) (N := some 67) (v := ?_) (a' := ?_) #[true,true,true,true,true,true,true,true,true,true,true,true,true,true,true,true,true,true,true,true,true,true,true,true,true,true,true,true,true,true,true,false,false] rfl rfl (any_of HT_.out (by kernel_rfl)) (fun _ _ _ h => h) (Or.inl ⟨by rfl,?_⟩) ?_ ?_
           rotate_left
           ·intro w'
            go_simp
            with_reducible rfl
           rotate_left
           ·simp only [Act.put,List.setIfInBounds_toArray,List.set_cons_zero,List.set_cons_succ,i64_w,i32_w]
            rfl
           refine pure_ (i := 31) (N := some 68) (v := ?_) (a' := ?_) #[true,true,true,true,true,true,true,true,true,true,true,true,true,true,true,true,true,true,true,true,true,true,true,true,true,true,true,true,true,true,true,true,false] rfl rfl (any_of HT_.out (by kernel_rfl)) (fun _ _ _ h => h) (Or.inl ⟨by rfl,?_⟩) ?_ ?_
           rotate_left
           ·intro w'
            go_simp
            with_reducible rfl
           rotate_left
           ·simp only [Act.put,List.setIfInBounds_toArray,List.set_cons_zero,List.set_cons_succ,i64_w,i32_w]
            rfl
           refine pure_ (i := 32) (N := some 4) (v := ?_) (a' := ?_) #[true,true,true,true,true,true,true,true,true,true,true,true,true,true,true,true,true,true,true,true,true,true,true,true,true,true,true,true,true,true,true,true,true] rfl rfl (any_of HT_.out (by kernel_rfl)) (fun _ _ _ h => h) (Or.inl ⟨by rfl,?_⟩) ?_ ?_
           rotate_left
           ·intro w'
            go_simp
            with_reducible rfl
           rotate_left
           ·simp only [Act.put,List.setIfInBounds_toArray,List.set_cons_zero,List.set_cons_succ,i64_w,i32_w]
            rfl
           refine done_ (done_of HT_.out (by kernel_rfl)) ?_
           try go_wp2
           go_ret
           exact ⟨by first | rfl | (simp [errW_none,errW_some] <;> rfl) | (simp [*,errW_none,errW_some] <;> rfl),by repeat (first | (with_reducible first | exact HB.out | apply below_alloc | apply pw_below_drewN | apply below_drew1) | exact HB.out)⟩
          ·rw [if_neg c35] at H
           exact absurd H (by simp)
         ·rw [if_neg c28] at H
          have c28b0 : ((wrap64 (t432 + t433)) == t434) = false := beq_eq_false_iff_ne.mpr c28
          have c28b1 : ((wrap64 (t432 + t433)) != t434) = true := bne_iff_ne.mpr c28
          obtain rfl := Option.some.inj H
          cases hr_
        ·rw [if_neg c20] at H
         have c20b0 : ((wrap64 (t427 + t428)) == t431) = false := beq_eq_false_iff_ne.mpr c20
         have c20b1 : ((wrap64 (t427 + t428)) != t431) = true := bne_iff_ne.mpr c20
         obtain rfl := Option.some.inj H
         cases hr_
       ·replace c18 := Bool.eq_false_iff.mpr c18
        subst c18
        have H1 : ((cluster_Count.f a0).bind fun t430 => (some (decide ((wrap64 (t427 + t428)) ≥ t430)))) = some r := by rw [if_neg (show ¬ (false = true) by decide)] at H;exact H
        clear H
        have H := H1
        clear H1
        replace H := Option.bind_eq_some_iff.mp H
        obtain ⟨t430,A640,H⟩ := H
        replace H : (some (decide ((wrap64 (t427 + t428)) ≥ t430))) = some r := H
        have A64 := Aside0.mk A640
        clear A640
        obtain rfl := Option.some.inj H
        try go_wp2
        have n0_ := Aside0.mk (below_drew1 HB.out)
        clear HB
        have HB := n0_
        clear n0_
        refine start_ (n := 10) (S := fun w' => True) (ds := []) #[false,false,false,false,false,false,false,false,false,false] (by kernel_rfl) rfl rfl trivial (fun hHeld => ?_);refine with_tabW bodkinlaw03_ClusterSums.tab5 bodkinlaw03_ClusterSums.bits5 (fun HT_ HW_ => ?_)
        generalize wc.drew = w65 at HB hHeld ⊢
        refine pure_ (i := 0) (N := some 20) (v := ?_) (a' := ?_) #[true,false,false,false,false,false,false,false,false,false] rfl rfl (any_of HT_.out (by kernel_rfl)) (fun _ _ _ h => h) (Or.inl ⟨by rfl,?_⟩) ?_ ?_
        rotate_left
        ·intro w'
         go_simp
         with_reducible rfl
        rotate_left
        ·simp only [Act.put,List.setIfInBounds_toArray,List.set_cons_zero,List.set_cons_succ,i64_w,i32_w]
         rfl
        refine pure_ (i := 1) (N := some 21) (v := ?_) (a' := ?_) #[true,true,false,false,false,false,false,false,false,false] rfl rfl (any_of HT_.out (by kernel_rfl)) (fun _ _ _ h => h) (Or.inl ⟨by rfl,?_⟩) ?_ ?_
        rotate_left
        ·intro w'
         go_simp
         with_reducible rfl
        rotate_left
        ·simp only [Act.put,List.setIfInBounds_toArray,List.set_cons_zero,List.set_cons_succ,i64_w,i32_w]
         rfl
        refine pure_ (i := 2) (N := some 22) (v := ?_) (a' := ?_) #[true,true,true,false,false,false,false,false,false,false] rfl rfl (any_of HT_.out (by kernel_rfl)) (fun _ _ _ h => h) (Or.inl ⟨by rfl,?_⟩) ?_ ?_
        rotate_left
        ·intro w'
         go_simp
         with_reducible rfl
        rotate_left
        ·simp only [Act.put,List.setIfInBounds_toArray,List.set_cons_zero,List.set_cons_succ,i64_w,i32_w]
         rfl
        refine pure_ (i := 4) (N := some 24) (v := ?_) (a' := ?_) #[true,true,true,false,true,false,false,false,false,false] rfl rfl (any_of HT_.out (by kernel_rfl)) (fun _ _ _ h => h) (Or.inl ⟨by rfl,?_⟩) ?_ ?_
        rotate_left
        ·intro w'
         go_simp
         with_reducible rfl
        rotate_left
        ·simp only [Act.put,List.setIfInBounds_toArray,List.set_cons_zero,List.set_cons_succ,i64_w,i32_w]
         rfl
        refine pure_ (i := 5) (N := some 25) (v := ?_) (a' := ?_) #[true,true,true,false,true,true,false,false,false,false] rfl rfl (any_of HT_.out (by kernel_rfl)) (fun _ _ _ h => h) (Or.inl ⟨by rfl,?_⟩) ?_ ?_
        rotate_left
        ·intro w'
         go_simp
         with_reducible rfl
        rotate_left
        ·simp only [Act.put,List.setIfInBounds_toArray,List.set_cons_zero,List.set_cons_succ,i64_w,i32_w]
         rfl
        refine pure_ (i := 6) (N := some 26) (v := ?_) (a' := ?_) #[true,true,true,false,true,true,true,false,false,false] rfl rfl (any_of HT_.out (by kernel_rfl)) (fun _ _ _ h => h) (Or.inl ⟨by rfl,?_⟩) ?_ ?_
        rotate_left
        ·intro w'
         go_simp
         with_reducible rfl
        rotate_left
        ·simp only [Act.put,List.setIfInBounds_toArray,List.set_cons_zero,List.set_cons_succ,i64_w,i32_w]
         rfl
        refine one_ (i := 3) (N := some 23) #[true,true,true,true,true,true,true,false,false,false] rfl rfl (one_of HT_.out (by kernel_rfl)) (by decide) (fun K hK => ?_)
        refine goes_ Tryd.func52 (by kernel_rfl) rfl #[.string (a0.extract 0 (a1 : Int).toNat)] (by rfl) rfl rfl (by (try simp only [List.map_toArray,List.map_cons,List.map_nil]);first | done | rfl | (simp only [List.length_drop,List.length_take];rfl)) ?_
        with_reducible refine (cluster_Count.calls (a0.extract 0 (a1 : Int).toNat) t427 _ ?side1 A13.out).mono ?_
        (case side1 => exact tabs_below HT.out (by repeat (first | (with_reducible first | exact HB.out | apply below_alloc | apply pw_below_drewN | apply below_drew1) | exact HB.out)))
        rintro e w66 ⟨rfl,hb⟩
        refine ⟨_,rfl,?_⟩
        have n0_ := Aside0.mk (below_step (by repeat (first | (with_reducible first | exact HB.out | apply below_alloc | apply pw_below_drewN | apply below_drew1) | exact HB.out)) hb)
        clear HB
        have HB := n0_
        clear n0_
        (try clear hb)
        (try clear hb2)
        (try clear hk)
        (try clear hi)
        refine hK.out _ _ trivial (fun hHeld => ?_)
        clear hK K
        refine norm_ (a' := ?_) ?_ ?_
        rotate_left
        ·show Act.put _ (some 23) _ = _
         simp only [Act.put,List.setIfInBounds_toArray,List.set_cons_zero,List.set_cons_succ,i64_w,i32_w]
         rfl
        refine one_ (i := 7) (N := some 27) #[true,true,true,true,true,true,true,true,false,false] rfl rfl (one_of HT_.out (by kernel_rfl)) (by decide) (fun K hK => ?_)
        refine goes_ Tryd.func52 (by kernel_rfl) rfl #[.string (a0.extract (a1 : Int).toNat a0.size)] (by rfl) rfl rfl (by (try simp only [List.map_toArray,List.map_cons,List.map_nil]);first | done | rfl | (simp only [List.length_drop,List.length_take];rfl)) ?_
        with_reducible refine (cluster_Count.calls (a0.extract (a1 : Int).toNat a0.size) t428 _ ?side1 A16.out).mono ?_
        (case side1 => exact tabs_below HT.out (by repeat (first | (with_reducible first | exact HB.out | apply below_alloc | apply pw_below_drewN | apply below_drew1) | exact HB.out)))
        rintro e w67 ⟨rfl,hb⟩
        refine ⟨_,rfl,?_⟩
        have n0_ := Aside0.mk (below_step (by repeat (first | (with_reducible first | exact HB.out | apply below_alloc | apply pw_below_drewN | apply below_drew1) | exact HB.out)) hb)
        clear HB
        have HB := n0_
        clear n0_
        (try clear hb)
        (try clear hb2)
        (try clear hk)
        (try clear hi)
        refine hK.out _ _ trivial (fun hHeld => ?_)
        clear hK K
        refine norm_ (a' := ?_) ?_ ?_
        rotate_left
        ·show Act.put _ (some 27) _ = _
         simp only [Act.put,List.setIfInBounds_toArray,List.set_cons_zero,List.set_cons_succ,i64_w,i32_w]
         rfl
        refine pure_ (i := 8) (N := some 28) (v := ?_) (a' := ?_) #[true,true,true,true,true,true,true,true,true,false] rfl rfl (any_of HT_.out (by kernel_rfl)) (fun _ _ _ h => h) (Or.inl ⟨by rfl,?_⟩) ?_ ?_
        rotate_left
        ·intro w'
         go_simp
         with_reducible rfl
        rotate_left
        ·simp only [Act.put,List.setIfInBounds_toArray,List.set_cons_zero,List.set_cons_succ,i64_w,i32_w]
         rfl
        refine pure_ (i := 9) (N := some 5) (v := ?_) (a' := ?_) #[true,true,true,true,true,true,true,true,true,true] rfl rfl (any_of HT_.out (by kernel_rfl)) (fun _ _ _ h => h) (Or.inl ⟨by rfl,?_⟩) ?_ ?_
        rotate_left
        ·intro w'
         go_simp
         with_reducible rfl
        rotate_left
        ·simp only [Act.put,List.setIfInBounds_toArray,List.set_cons_zero,List.set_cons_succ,i64_w,i32_w]
         rfl
        refine done_ (done_of HT_.out (by kernel_rfl)) ?_
        try go_wp2_with (first | ((with_reducible refine gate_callee (f := 42) rfl ?_);refine goesL_ (some 31) rfl rfl Tryd.func42 (by kernel_rfl) rfl #[.string a0,.int .i64 a1] rfl (by (try simp only [List.map_toArray,List.map_cons,List.map_nil]);first | done | rfl | (simp only [List.length_drop,List.length_take];rfl)) ?_;(with_reducible refine (cluster_Boundary.calls kj4 a0 a1 false _ ?side1 A17.out).mono ?_);(case side1 => exact tabs_below HT.out (by repeat (first | (with_reducible first | exact HB.out | apply below_alloc | apply pw_below_drewN | apply below_drew1) | exact HB.out)));rintro e w68 ⟨rfl,hb⟩;refine ⟨_,rfl,?_⟩;have n0_ := Aside0.mk (below_step (by repeat (first | (with_reducible first | exact HB.out | apply below_alloc | apply pw_below_drewN | apply below_drew1) | exact HB.out)) hb);clear HB;have HB := n0_;clear n0_;(try clear hb);(try clear hb2);(try clear hk);(try clear hi)) | ((with_reducible refine gate_callee (f := 52) rfl ?_);refine goesL_ (some 35) rfl rfl Tryd.func52 (by kernel_rfl) rfl #[.string a0] rfl (by (try simp only [List.map_toArray,List.map_cons,List.map_nil]);first | done | rfl | (simp only [List.length_drop,List.length_take];rfl)) ?_;(with_reducible refine (cluster_Count.calls a0 t430 _ ?side1 A64.out).mono ?_);(case side1 => exact tabs_below HT.out (by repeat (first | (with_reducible first | exact HB.out | apply below_alloc | apply pw_below_drewN | apply below_drew1) | exact HB.out)));rintro e w69 ⟨rfl,hb⟩;refine ⟨_,rfl,?_⟩;have n0_ := Aside0.mk (below_step (by repeat (first | (with_reducible first | exact HB.out | apply below_alloc | apply pw_below_drewN | apply below_drew1) | exact HB.out)) hb);clear HB;have HB := n0_;clear n0_;(try clear hb);(try clear hb2);(try clear hk);(try clear hi)))
        go_ret
        exact ⟨by first | rfl | (simp [errW_none,errW_some] <;> rfl) | (simp [*,errW_none,errW_some] <;> rfl),by repeat (first | (with_reducible first | exact HB.out | apply below_alloc | apply pw_below_drewN | apply below_drew1) | exact HB.out)⟩
      ·rw [if_neg c12] at H
       exact absurd H (by simp)
     ·rw [if_neg c11] at H
      exact absurd H (by simp)
 ·replace c4 := Bool.eq_false_iff.mpr c4
  subst c4
  have H1 : (some false) = some r := by rw [if_neg (show ¬ (false = true) by decide)] at H;exact H
  clear H
  have H := H1
  clear H1
  obtain rfl := Option.some.inj H
  cases hr_
end Go.Proofs.YtfhnfhgpaoddbaaDoor.U
end
section
namespace Go.Proofs.YtfhnfhgpaoddbaaDoor.Pu
open Go Go.RowKit Go.Proofs.YtfhnfhgpaoddbaaDoor.Mu Go.Proofs.YtfhnfhgpaoddbaaDoor.U Go.Proofs.YtfhnfhgpaoddbaaDoorW.PrintWords Go.Proofs.YtfhnfhgpaoddbaaDoorW.PrintLast Go.Proofs.YtfhnfhgpaoddbaaDoorW.PrintMore
theorem fixed_ans : Ev (fun k => bodkinlaw03_fixed.f k) true := Ev.of (fun k => bodkinlaw03_fixed.mono k) (k := 200) (by kernel_rfl)
end Go.Proofs.YtfhnfhgpaoddbaaDoor.Pu
end
section
namespace Go.Proofs.YtfhnfhgpaoddbaaDoor.Pu
open Go Go.RowKit Go.Proofs.YtfhnfhgpaoddbaaDoor.Mu Go.Proofs.YtfhnfhgpaoddbaaDoor.U Go.Proofs.YtfhnfhgpaoddbaaDoorW.PrintWords Go.Proofs.YtfhnfhgpaoddbaaDoorW.PrintLast Go.Proofs.YtfhnfhgpaoddbaaDoorW.PrintMore
set_option linter.unusedVariables false
theorem cls_bad : cls (-1) = 5 := by unfold cls;rw [if_pos (.inl (by omega))]
theorem glue_bad (u : Int) : glueB u (-1) = false := by
 rw [← Bool.not_eq_true,glue_iff,cls_bad];omega
theorem right_uC (a b : ByteArray) (y : Nat) : uC (a ++ b) (a.size + y) = uC b y := by unfold uC;rw [right_dec]
theorem right_bd (a b : ByteArray) (z : Nat) (h : Bd (a ++ b) (a.size + z)) : Bd b z := by
 have hs := size_two a b
 refine ⟨by have := h.1;omega,fun j hj => ?_⟩
 have := h.2 (a.size + j) (by omega)
 rw [right_uN] at this
 omega
theorem bd_left (a b : ByteArray) (i : Nat) (h : Bd (a ++ b) i) (hi : i ≤ a.size) : Bd a i := by
 have hs := size_two a b
 refine ⟨hi,fun j hj => ?_⟩
 by_cases h2 : 2 ≤ uN a j
 ·have hle := uN_le a j (by omega)
  have e := dec_prefix a (a ++ b) j j h2 (fun k hk => byt_append_left a b (j + k) (by omega)) (by omega)
  have : uN (a ++ b) j = uN a j := by unfold uN;rw [e]
  have := h.2 j hj
  omega
 ·have := uN_pos a j;omega
theorem right_nxt (a b : ByteArray) : ∀ n y : Nat,b.size - y ≤ n → y < b.size → nxt (a ++ b) (a.size + y) = a.size + nxt b y := by
 have hs := size_two a b
 intro n
 induction n with
 | zero => intro y hn hy;omega
 | succ n ih =>
  intro y hn hy
  have hp := uN_pos b y
  rw [nxt_eq (a ++ b) (a.size + y) (by omega),nxt_eq b y hy,right_uN,Nat.add_assoc,right_uC,right_uC]
  by_cases h : y + uN b y < b.size ∧ glueB (uC b y) (uC b (y + uN b y)) = true
  ·rw [if_pos ⟨by omega,h.2⟩,if_pos h];exact ih _ (by omega) h.1
  ·rw [if_neg (fun h' => h ⟨by omega,h'.2⟩),if_neg h]
def shiftC (d : Int) (c : S53) : S53 := ⟨d + c.f0,d + c.f1,c.f2,c.f3⟩
theorem right_clAt (a b : ByteArray) (y : Nat) (hy : y < b.size) : clAt (a ++ b) (a.size + y) = shiftC a.size (clAt b y) := by
 have hs := size_two a b
 have hq : crlf (a ++ b) (a.size + y) ↔ crlf b y := by
  unfold crlf;rw [right_uN,right_uC,Nat.add_assoc,right_uC]
  constructor
  ·rintro ⟨h1,h2,h3⟩;exact ⟨h1,by omega,h3⟩
  ·rintro ⟨h1,h2,h3⟩;exact ⟨h1,by omega,h3⟩
 unfold clAt shiftC clsAt celAt
 rw [right_nxt a b _ y (Nat.le_refl _) hy,right_uC]
 simp only [hq,Int.natCast_add]
theorem right_ctl (a b : ByteArray) : ∀ n y : Nat,b.size - y ≤ n → ctl (a ++ b) (a.size + y) = (ctl b y).map (shiftC a.size) := by
 have hs := size_two a b
 intro n
 induction n with
 | zero => intro y hn;rw [ctl_end _ _ (by omega),ctl_end _ _ (by omega)];rfl
 | succ n ih =>
  intro y hn
  by_cases hy : y < b.size
  ·have := nxt_pos b y hy
   rw [ctl_go _ _ (by omega),ctl_go b y hy,right_nxt a b _ y (Nat.le_refl _) hy,ih _ (by omega),List.map_cons,right_clAt a b y hy]
  ·rw [ctl_end _ _ (by omega),ctl_end _ _ (by omega)];rfl
section
variable (a b : ByteArray) (hC : CB (a ++ b) a.size)
theorem left_nxt (hC : CB (a ++ b) a.size) : ∀ n i : Nat,a.size - i ≤ n → i < a.size → Bd (a ++ b) i → nxt a i = nxt (a ++ b) i := by
 have hs := size_two a b
 intro n
 induction n with
 | zero => intro i hn hi _;omega
 | succ n ih =>
  intro i hn hi hb
  have hu := hC.1.2 i hi
  obtain ⟨h1,h2⟩ := left_unit a b i hi hu
  have hp := uN_pos a i
  rw [← h2] at hu
  have hbn := bd_next (a ++ b) i hb (by omega)
  rw [← h2] at hbn
  rw [nxt_eq a i hi,nxt_eq (a ++ b) i (by omega),← h2,← h1]
  by_cases hy : i + uN a i < a.size
  ·have h3 := left_unit a b (i + uN a i) hy (hC.1.2 _ hy)
   rw [← h3.1]
   by_cases hg : glueB (uC a i) (uC a (i + uN a i)) = true
   ·rw [if_pos ⟨hy,hg⟩,if_pos ⟨by omega,hg⟩];exact ih _ (by omega) hy hbn
   ·rw [if_neg (fun h => hg h.2),if_neg (fun h => hg h.2)]
  ·have hya : i + uN a i = a.size := by omega
   rw [if_neg (fun h => hy h.1),if_neg]
   rintro ⟨h4,h5⟩
   rw [hya] at h4 h5
   rw [h1,(cb_iff (a ++ b) a.size i hb (by omega) h4).1 hC] at h5
   cases h5
theorem left_clAt (hC : CB (a ++ b) a.size) (i : Nat) (hi : i < a.size) (hb : Bd (a ++ b) i) : clAt (a ++ b) i = clAt a i := by
 have hs := size_two a b
 have hu := hC.1.2 i hi
 obtain ⟨h1,h2⟩ := left_unit a b i hi hu
 have hq : crlf (a ++ b) i ↔ crlf a i := by
  unfold crlf
  rw [← h1,← h2]
  rw [← h2] at hu
  constructor
  ·rintro ⟨h3,h4,h5⟩
   by_cases hy : i + uN a i < a.size
   ·exact ⟨h3,hy,by rw [(left_unit a b _ hy (hC.1.2 _ hy)).1];exact h5⟩
   ·exfalso
    have hya : i + uN a i = a.size := by omega
    rw [hya] at h4 h5
    have := (cb_iff (a ++ b) a.size i hb (by omega) h4).1 hC
    rw [← h1,h3,h5] at this
    have h6 := (glue_nl 13).2 rfl
    rw [h6] at this;cases this
  ·rintro ⟨h3,h4,h5⟩
   exact ⟨h3,by omega,by rw [← (left_unit a b _ h4 (hC.1.2 _ h4)).1];exact h5⟩
 unfold clAt clsAt celAt
 rw [left_nxt a b hC _ i (Nat.le_refl _) hi hb,h1]
 simp only [hq]
theorem left_ctl (hC : CB (a ++ b) a.size) : ∀ n i : Nat,a.size - i ≤ n → i ≤ a.size → CB (a ++ b) i → ctl (a ++ b) i = ctl a i ++ ctl (a ++ b) a.size := by
 have hs := size_two a b
 intro n
 induction n with
 | zero =>
  intro i hn hi hc
  obtain rfl : i = a.size := by omega
  rw [ctl_end a _ (Nat.le_refl _)];rfl
 | succ n ih =>
  intro i hn hi hc
  by_cases hlt : i < a.size
  ·have hba := bd_left a b i hc.1 hi
   have e := left_nxt a b hC _ i (Nat.le_refl _) hlt hc.1
   have h1 := nxt_pos a i hlt
   have h2 := nxt_le a i hba hlt
   have hcn := nxt_cb (a ++ b) i hc.1 (by omega)
   rw [ctl_go (a ++ b) i (by omega),ctl_go a i hlt,left_clAt a b hC i hlt hc.1,← e,List.cons_append,ih (nxt a i) (by omega) h2 (by rw [e];exact hcn)]
  ·obtain rfl : i = a.size := by omega
   rw [ctl_end a _ (Nat.le_refl _)];rfl
theorem clus_two (hC : CB (a ++ b) a.size) : clusL (a ++ b) = clusL a ++ (clusL b).map (shiftC a.size) := by
 have h1 := left_ctl a b hC _ 0 (Nat.le_refl _) (Nat.zero_le _) (cb_zero _)
 have h2 := right_ctl a b _ 0 (Nat.le_refl _)
 rw [Nat.add_zero] at h2
 rw [clusL_ctl,h1,h2];rfl
end
theorem sumC_shift (d : Int) (cs : List S53) : sumC (cs.map (shiftC d)) = sumC cs := by
 induction cs with
 | nil => rfl
 | cons c cs ih => simp only [List.map_cons,sumC,ih];rfl
theorem data_app (a b : ByteArray) : (a ++ b).data.toList = a.data.toList ++ b.data.toList := by simp
theorem left_extract (a b : ByteArray) (i t : Nat) (h : t ≤ a.size) : (a ++ b).extract i t = a.extract i t := by
 apply ByteArray.ext
 apply Array.toList_inj.1
 rw [Lib.extract_data,Lib.extract_data,data_app]
 have hl : a.data.toList.length = a.size := by rw [← Lib.size_eq]
 by_cases hi : i ≤ a.size
 ·rw [List.drop_append_of_le_length (by omega),List.take_append_of_le_length (by rw [List.length_drop];omega)]
 ·rw [show t - i = 0 by omega,List.take_zero,List.take_zero]
theorem right_extract (a b : ByteArray) (i t : Nat) : (a ++ b).extract (a.size + i) (a.size + t) = b.extract i t := by
 apply ByteArray.ext
 apply Array.toList_inj.1
 rw [Lib.extract_data,Lib.extract_data,data_app]
 have hl : a.data.toList.length = a.size := by rw [← Lib.size_eq]
 rw [List.drop_append,List.drop_eq_nil_of_le (by omega),List.nil_append,hl,show a.size + i - a.size = i by omega,show a.size + t - (a.size + i) = t - i by omega]
theorem draw_left (a b : ByteArray) (i : Nat) (hb : Bd a i) (hi : i < a.size) : drawB (a ++ b) (clAt a i) = drawB a (clAt a i) := by
 have e0 : (clAt a i).f0.toNat = i := Int.toNat_natCast i
 have e1 : (clAt a i).f1.toNat = nxt a i := Int.toNat_natCast _
 unfold drawB
 rw [e0,e1,left_extract a b i _ (nxt_le a i hb hi),byt_append_left a b i hi]
theorem draw_right (a b : ByteArray) (i : Nat) : drawB (a ++ b) (shiftC a.size (clAt b i)) = drawB b (clAt b i) := by
 have e0 : (clAt b i).f0.toNat = i := Int.toNat_natCast i
 have e1 : (clAt b i).f1.toNat = nxt b i := Int.toNat_natCast _
 have f0 : (shiftC a.size (clAt b i)).f0.toNat = a.size + i := by show ((a.size : Int) + (i : Int)).toNat = _;omega
 have f1 : (shiftC a.size (clAt b i)).f1.toNat = a.size + nxt b i := by show ((a.size : Int) + (nxt b i : Int)).toNat = _;omega
 unfold drawB
 rw [e0,e1,f0,f1,right_extract,byt_append_right]
 rfl
theorem drawU_cons (s : ByteArray) (c : S53) (cs : List S53) : drawU s (c :: cs) = (drawB s c).data.toList ++ drawU s cs := by unfold drawU;rw [List.flatMap_cons]
theorem drawU_nil (s : ByteArray) : drawU s [] = [] := by unfold drawU;rw [List.flatMap_nil]
theorem drawU_congr (s t : ByteArray) (f : S53 → S53) (cs : List S53) (h : ∀ c ∈ cs,drawB s (f c) = drawB t c) : drawU s (cs.map f) = drawU t cs := by
 induction cs with
 | nil => rw [List.map_nil,drawU_nil,drawU_nil]
 | cons c cs ih =>
  rw [List.map_cons,drawU_cons,drawU_cons,h c (by simp),ih (fun c hc => h c (List.mem_cons_of_mem _ hc))]
theorem drawn_two (a b : ByteArray) (hC : CB (a ++ b) a.size) : drawU (a ++ b) (clusL (a ++ b)) = drawU a (clusL a) ++ drawU b (clusL b) := by
 rw [clus_two a b hC]
 have h1 : drawU (a ++ b) (clusL a ++ (clusL b).map (shiftC a.size)) = drawU (a ++ b) (clusL a) ++ drawU (a ++ b) ((clusL b).map (shiftC a.size)) := by unfold drawU;rw [List.flatMap_append]
 have h2 : drawU (a ++ b) (clusL a) = drawU a (clusL a) := by
  have := drawU_congr (a ++ b) a id (clusL a) (fun c hc => by
   obtain ⟨i,hi,hlt,rfl⟩ := clus_mem a a.size 0 (cb_zero a) c hc
   exact draw_left a b i hi.1 hlt)
  rw [List.map_id] at this;exact this
 have h3 := drawU_congr (a ++ b) b (shiftC a.size) (clusL b) (fun c hc => by
   obtain ⟨i,hi,hlt,rfl⟩ := clus_mem b b.size 0 (cb_zero b) c hc
   exact draw_right a b i)
 rw [h1,h2,h3]
theorem cb_left (a b : ByteArray) (e : Nat) (h : CB (a ++ b) e) (he : e < a.size) (h0 : 0 < e) : CB a e := by
 have hs := size_two a b
 obtain ⟨p,hp,hpe⟩ := bd_prev (a ++ b) e h.1 h0
 have hpp := uN_pos (a ++ b) p
 obtain ⟨h1,h2⟩ := left_unit a b p (by omega) (by omega)
 have hpa := bd_left a b p hp (by omega)
 have hg := (cb_iff (a ++ b) e p hp hpe (by omega)).1 h
 rw [cb_iff a e p hpa (by rw [h2];exact hpe) he,h1]
 by_cases hx : e + uN (a ++ b) e ≤ a.size
 ·rw [(left_unit a b e he hx).1];exact hg
 ·have h3 := left_over a b e he (by omega)
  have h4 := bad_or a e
  have h5 := bad_or (a ++ b) e
  rw [byt_append_left a b e he] at h5
  have : uC a e = -1 := by omega
  rw [this];exact glue_bad _
theorem cb_right (a b : ByteArray) (z : Nat) (h : CB (a ++ b) (a.size + z)) (hz : 0 < z) (hno : ∀ p,p < a.size → p + uN (a ++ b) p ≠ a.size + z) : CB b z := by
 have hs := size_two a b
 have hb := right_bd a b z h.1
 by_cases he : z < b.size
 ·obtain ⟨p,hp,hpe⟩ := bd_prev (a ++ b) (a.size + z) h.1 (by omega)
  have hge : a.size ≤ p := by
   rcases Nat.lt_or_ge p a.size with h1 | h1
   ·exact absurd hpe (hno p h1)
   ·exact h1
  obtain ⟨q,rfl⟩ : ∃ q,p = a.size + q := ⟨p - a.size,by omega⟩
  have hq := right_bd a b q hp
  have hg := (cb_iff (a ++ b) (a.size + z) (a.size + q) hp hpe (by omega)).1 h
  rw [right_uN] at hpe
  rw [cb_iff b z q hq (by omega) he]
  rw [right_uC,right_uC] at hg
  exact hg
 ·have := hb.1
  obtain rfl : z = b.size := by omega
  exact cb_size b
theorem sub_len : ∀ (L M : List Int),List.Pairwise (fun a b => a < b) L → (∀ e ∈ L,e ∈ M) → L.length ≤ M.length
 | [],_,_,_ => Nat.zero_le _
 | x :: l,M,hp,h => by
  rw [List.pairwise_cons] at hp
  have hx := h x (by simp)
  have := sub_len l (M.erase x) hp.2 (fun e he => (List.mem_erase_of_ne (by have := hp.1 e he;omega)).2 (h e (List.mem_cons_of_mem _ he)))
  rw [List.length_erase_of_mem hx] at this
  have hpos := List.length_pos_of_mem hx
  rw [List.length_cons];omega
theorem drop_one (e0 : Int) : ∀ (L : List Int),List.Pairwise (fun a b => a < b) L → L.length ≤ (L.filter (fun e => decide (e ≠ e0))).length + 1
 | [],_ => Nat.zero_le _
 | x :: l,hp => by
  rw [List.pairwise_cons] at hp
  by_cases hx : x = e0
  ·have : (x :: l).filter (fun e => decide (e ≠ e0)) = l := by
    rw [List.filter_cons_of_neg (by simpa using hx),List.filter_eq_self]
    intro y hy;have := hp.1 y hy;simp;omega
   rw [this];simp
  ·have := drop_one e0 l hp.2
   rw [List.filter_cons_of_pos (by simpa using hx),List.length_cons,List.length_cons];omega
theorem count_two (a b : ByteArray) (hC : ¬ CB (a ++ b) a.size) : (clusL (a ++ b)).length ≤ (clusL a).length + (clusL b).length := by
 have hs := size_two a b
 have ha : 0 < a.size := by
  rcases Nat.eq_zero_or_pos a.size with h | h
  ·rw [h] at hC;exact absurd (cb_zero _) hC
  ·exact h
 have hL := cends_sorted (a ++ b) _ 0 (Nat.le_refl _) (cb_zero _)
 rw [List.pairwise_cons] at hL
 have hLm := cends_mem (a ++ b) _ 0 (Nat.le_refl _) (cb_zero _)
 have hAm := cends_mem a _ 0 (Nat.le_refl _) (cb_zero _)
 have hBm := cends_mem b _ 0 (Nat.le_refl _) (cb_zero _)
 have l1 : (cendsL (a ++ b) 0).length = (clusL (a ++ b)).length := by unfold cendsL;rw [List.length_map];rfl
 have l2 : (cendsL a 0).length = (clusL a).length := by unfold cendsL;rw [List.length_map];rfl
 have l3 : (cendsL b 0).length = (clusL b).length := by unfold cendsL;rw [List.length_map];rfl
 have hM : (a.size : Int) ∈ cendsL a 0 ++ (cendsL b 0).map (fun e => (a.size : Int) + e) := by
  rw [List.mem_append,hAm];exact .inl ⟨cbI_size a,by omega⟩
 obtain ⟨e0,he0⟩ : ∃ e0 : Int,∀ e ∈ cendsL (a ++ b) 0,e ≠ e0 → ∀ p,p < a.size → (a.size : Int) < e → (p : Int) + uN (a ++ b) p ≠ e := by
  by_cases hb : Bd (a ++ b) a.size
  ·refine ⟨-1,fun e he _ p hp hlt h => ?_⟩
   have := hb.2 p hp;omega
  ·obtain ⟨j,hj,hj2,_,_⟩ := within (a ++ b) a.size (by omega) hb
   refine ⟨((j + uN (a ++ b) j : Nat) : Int),fun e he hne p hp hlt h => ?_⟩
   have := within_unique (a ++ b) a.size p j hp (by omega) hj hj2
   subst this;omega
 have hd := drop_one e0 (cendsL (a ++ b) 0) hL.2
 have hsub := sub_len ((cendsL (a ++ b) 0).filter (fun e => decide (e ≠ e0))) ((cendsL a 0 ++ (cendsL b 0).map (fun e => (a.size : Int) + e)).erase (a.size : Int)) (hL.2.filter _) (fun e he => by
  rw [List.mem_filter] at he
  obtain ⟨he,hne⟩ := he
  have hne : e ≠ e0 := by simpa using hne
  have hI := (hLm e).1 he
  have hle := cbI_le hI.1
  have hnx : e ≠ (a.size : Int) := fun h => by
   have h1 := hI.1.2
   rw [h,Int.toNat_natCast] at h1
   exact hC h1
  refine (List.mem_erase_of_ne hnx).2 ?_
  rw [List.mem_append]
  rcases Int.lt_or_le e a.size with h1 | h1
  ·refine .inl ((hAm e).2 ⟨⟨hle.1,cb_left a b e.toNat hI.1.2 (by omega) (by omega)⟩,hI.2⟩)
  ·refine .inr (List.mem_map.2 ⟨e - a.size,(hBm _).2 ⟨⟨by omega,?_⟩,by omega⟩,by omega⟩)
   refine cb_right a b (e - a.size).toNat ?_ (by omega) (fun p hp h => he0 e he hne p hp (by omega) (by omega))
   have := hI.1.2
   rwa [show a.size + (e - a.size).toNat = e.toNat by omega])
 have hpos := List.length_pos_of_mem hM
 rw [List.length_append,List.length_map] at hpos
 rw [List.length_erase_of_mem hM,List.length_append,List.length_map] at hsub
 omega
theorem split_at (s : ByteArray) (x : Nat) (hx : x ≤ s.size) : s.extract 0 x ++ s.extract x s.size = s := by
 apply ByteArray.ext
 apply Array.toList_inj.1
 rw [data_app,Lib.extract_data,Lib.extract_data,List.drop_zero,Nat.sub_zero,List.take_of_length_le (l := s.data.toList.drop x) (by rw [List.length_drop,← Lib.size_eq];omega),List.take_append_drop]
end Go.Proofs.YtfhnfhgpaoddbaaDoor.Pu
end
section
namespace Go.Proofs.YtfhnfhgpaoddbaaDoor.Pure
open Go Go.RowKit Go.Proofs.YtfhnfhgpaoddbaaDoor.Mu Go.Proofs.YtfhnfhgpaoddbaaDoor.Pu Go.Proofs.YtfhnfhgpaoddbaaDoor.U Go.Proofs.YtfhnfhgpaoddbaaDoorW.PrintWords Go.Proofs.YtfhnfhgpaoddbaaDoorW.PrintLast Go.Proofs.YtfhnfhgpaoddbaaDoorW.PrintMore
set_option linter.unusedVariables false
theorem f_count (s : ByteArray) (h : s.size ≤ 1099511627776) : cluster_Count.f s = some ((clusL s).length : Int) := by unfold cluster_Count.f;rw [if_pos h]
theorem f_cells (s : ByteArray) (h : s.size ≤ 1099511627776) : cluster_Cells.f s = some (sumC (clusL s)) := by unfold cluster_Cells.f;rw [if_pos h]
theorem f_drawn (s : ByteArray) (h : s.size ≤ 1099511627776) : cluster_Drawn.f s = some (drawnS s) := by unfold cluster_Drawn.f;rw [if_pos h]
theorem drawnS_size (s : ByteArray) : (drawnS s).size ≤ 3 * s.size := by
 have := draw_size s (clusL s) 0 (cb_zero s) (Nat.zero_le _) (List.prefix_refl _)
 have e : (drawnS s).size = (drawU s (clusL s)).length := by unfold drawnS;rw [Lib.size_eq]
 omega
theorem sums_in (s : ByteArray) (hs : s.size ≤ 1048576) (x : Nat) (hx : x ≤ s.size) : Ev (fun k => bodkinlaw03_ClusterSums.j0 k s x false) true := by
 have hsp := split_at s x hx
 have hza : (s.extract 0 x).size = x := by rw [size_extract _ _ _ hx];omega
 have hzb : (s.extract x s.size).size = s.size - x := size_extract _ _ _ (Nat.le_refl _)
 obtain ⟨a,ha⟩ : ∃ a,s.extract 0 x = a := ⟨_,rfl⟩
 obtain ⟨b,hb⟩ : ∃ b,s.extract x s.size = b := ⟨_,rfl⟩
 rw [ha,hb] at hsp
 rw [ha] at hza
 rw [hb] at hzb
 have la := clusL_length a
 have lb := clusL_length b
 have ra := sumC_pre a (clusL a) (List.prefix_refl _)
 have rb := sumC_pre b (clusL b) (List.prefix_refl _)
 have da := drawnS_size a
 have db := drawnS_size b
 refine Ev.step (fun k => bodkinlaw03_ClusterSums.j0.eq_2 ..) (ev_neg (by simp) (ev_pos (by omega) (ev_pos (by omega) ?_)))
 rw [Int.toNat_natCast,ha,hb]
 have hxs : a.size = x := hza
 have hsz : a.size ≤ 1099511627776 := by omega
 have hszb : b.size ≤ 1099511627776 := by omega
 have hszs : s.size ≤ 1099511627776 := by omega
 refine ev_some (f_count a hsz) (ev_some (f_count b hszb) ?_)
 by_cases hc : CB s x
 ·have hC : CB (a ++ b) a.size := by rw [hsp,hxs];exact hc
  have e1 := clus_two a b hC
  have e2 := drawn_two a b hC
  rw [hsp] at e1 e2
  have l1 : (clusL s).length = (clusL a).length + (clusL b).length := by rw [e1,List.length_append,List.length_map]
  have l2 : sumC (clusL s) = sumC (clusL a) + sumC (clusL b) := by rw [e1,sumC_app,sumC_shift]
  refine Ev.bind (cboundary_yes hszs ((cbI_nat s x).2 hc)) (ev_pos rfl (ev_some (f_count s hszs) (ev_pos ?_ (ev_some (f_cells a hsz) (ev_some (f_cells b hszb) (ev_some (f_cells s hszs) (ev_pos ?_ (ev_some (f_drawn a hsz) (ev_some (f_drawn b hszb) (ev_pos ?_ (ev_some (f_drawn s hszs) (ev_now ?_))))))))))))
  ·rw [l1,w64 (by omega) (by omega)];omega
  ·rw [l2,w64 (by omega) (by omega)]
  ·omega
  ·rw [beq_iff_eq,toList_bytes,toList_bytes,data_app]
   unfold drawnS
   rw [e2]
 ·have hC : ¬ CB (a ++ b) a.size := by rw [hsp,hxs];exact hc
  have l1 := count_two a b hC
  rw [hsp] at l1
  refine Ev.bind (cboundary_no hszs (fun h => hc ((cbI_nat s x).1 h))) (ev_neg (by simp) (ev_some (f_count s hszs) (ev_now ?_)))
  rw [decide_eq_true_eq,w64 (by omega) (by omega)];omega
theorem ClusterSums (a0 : ByteArray) (a1 : Int) (u0 : a0.size ≤ 1048576) (_w1 : (Lit.int .i64 a1).wf = true) : ∃ k,bodkinlaw03_ClusterSums.f k a0 a1 = some true := by
 apply Ev.rounds
 unfold bodkinlaw03_ClusterSums.f
 have hout : ∀ b : Bool,b = true → ¬ CBI a0 a1 → Ev (fun k => bodkinlaw03_ClusterSums.j0 k a0 a1 b) true := fun b hb h =>
  Ev.step (fun k => bodkinlaw03_ClusterSums.j0.eq_2 ..) (ev_pos hb (Ev.bind (cboundary_no (by omega) h) (ev_now rfl)))
 refine Ev.bind fixed_ans (ev_pos rfl ?_)
 by_cases h : a1 < 0
 ·exact ev_pos h (hout _ rfl (fun hc => by have := cbI_le hc;omega))
 ·refine ev_neg h ?_
  by_cases h2 : a1 > (a0.size : Int)
  ·exact hout _ (by simpa using h2) (fun hc => by have := cbI_le hc;omega)
  ·obtain ⟨x,rfl⟩ : ∃ x : Nat,a1 = x := ⟨a1.toNat,by omega⟩
   rw [show decide ((x : Int) > (a0.size : Int)) = false from decide_eq_false h2]
   exact sums_in a0 u0 x (by omega)
end Go.Proofs.YtfhnfhgpaoddbaaDoor.Pure
end
section
namespace Go.Proofs.YtfhnfhgpaoddbaaDoor.Lf
open Go.Lib Go.Proofs
theorem own : ownKnob Tryd.prog.godebug = none := by kernel_rfl
theorem extra : U8Extra Tryd.prog Tryd.lays260_ren := {
 n3 := by kernel_rfl
 n4 := by kernel_rfl
 y3 := by kernel_rfl
 y4 := by kernel_rfl
 c5 := by kernel_rfl
 c119 := by kernel_rfl
 c138 := by kernel_rfl }
theorem first_eq : Rows.laid_unicode_utf8_first = Lib.firstData := by kernel_rfl
theorem accept_eq : (Rows.laid_unicode_utf8_acceptRanges : DataW Unit) = Lib.acceptData := by kernel_rfl
abbrev laid : List (String × DataW Unit) := [("unicode/utf8.acceptRanges", Rows.laid_unicode_utf8_acceptRanges), ("unicode/utf8.first", Rows.laid_unicode_utf8_first)]
/-- The two tables lie as the contracts ask. -/
theorem tabs {W : World} (h : laidMetH Tryd.prog laid W) : Lib.Utf8Tabs 0 1 W := by
  rw [MakeChecks.laidMetH_plain _ _ _ (by kernel_rfl)] at h
  have h3 := laidMet.reads h (n := "unicode/utf8.first") (d := Rows.laid_unicode_utf8_first) (List.mem_cons_of_mem _ List.mem_cons_self)
  have h4 := laidMet.reads h (n := "unicode/utf8.acceptRanges") (d := Rows.laid_unicode_utf8_acceptRanges) List.mem_cons_self
  rw [first_eq] at h3
  rw [accept_eq] at h4
  exact utf8Tabs_of_reads Tryd.lays260 extra h3 h4
/-- The world of the witness: the settled one,the tables laid. -/
noncomputable abbrev wit (os : Os) : World := World.laidAll Tryd.prog os laid
theorem wit_laid (os : Os) (args : Array Value) : laidMetH Tryd.prog laid ((wit os).forCall (fun _ _ => 0) ⟨#[],args,[]⟩).memory := by
 rw [MakeChecks.laidMetH_plain _ _ _ (by kernel_rfl)]
 exact laidMet_laidAll _ (by kernel_rfl) (by kernel_rfl)
theorem wit_shaped (os : Os) (args : Array Value) : ((wit os).forCall (fun _ _ => 0) ⟨#[],args,[]⟩).Shaped Tryd.prog :=
 World.shaped_of_ZipB (by kernel_rfl) (by kernel_rfl)
end Go.Proofs.YtfhnfhgpaoddbaaDoor.Lf
end
