/- What the law ClusterLists reaches of this seat's own texts, merged; what nothing uses is left out. -/
import Derived.Test.YtfhnfhgpaoddbaaDoorProg
import Derived.Below
import Derived.Deep.Draws
import Derived.Deep.AppendLies
import Derived.Maps.AppendAt
import Derived.OwnWalk
import Derived.Laws.BytesArg
import Derived.Laws.MakeOwn
import Derived.Laws.OwnMore
import Derived.Deep.OwnRows
import Derived.Tactics
import Derived.Lib.ConvBytes
import Derived.Laws.Slices
import Derived.WalkKit
import Derived.KernelRfl
import Derived.RowKit3
import Derived.Deep.LoopGhost
import Derived.Deep.QuietTactic
import Derived.BigQuiet
import Derived.WideLaws
import Derived.Deep.DeepCutAuto
import Derived.Deep.CutBlock
import Derived.Deep.RegionHeld3
import Derived.Laws.Rows
import Derived.Lib.AppendStr
import Derived.ArgAppend
import Derived.Laws.IdiomCopy
import Derived.OrdersHeld
import Derived.Laws.BitsLemmas
import Derived.RowKit
import Derived.Shelf.Strings.Builder1
import Derived.Shelf.Small.Utf8
import Derived.Shelf.Strings.BuilderF
import Derived.Shelf.Strings.BuilderK
import Derived.Shelf.Utf8.AppendRunePlain
import Derived.Shelf.Utf8.RuneCount
import Derived.Shelf.Strings.Prefix
import Derived.Shelf.Unicode.Decode
import Derived.Shelf.Strings.RuneCount
import Derived.Shelf.Unicode.DecodeSlow
import Derived.Shelf.Unicode.DecodeAny
import Derived.Shelf.Strings.BuilderCap
import Derived.Lib.LaidU8
import Derived.RangeFuncNested
import Derived.RangeFuncBound
import Derived.RangeFuncCalls
import Derived.RangeFuncLeaves
import Derived.Lib.DecodeN
import Derived.Lib.MapLaws
import Derived.Laws.DeepStrings4
import Derived.Shelf.Unicode.DecodeLastEight
import Derived.Shelf.Abstract
import Derived.Shelf.RegionOpen
import Derived.OwnWalkIn
import Derived.TacticsInMore
import Derived.LoopNIn
import Derived.LoopIn
import Derived.Lib.Hide
import Derived.Sort.BigQuietIn
import Derived.Sort.CutIn
import Derived.Lib.Builder
import Derived.Lib.FrozenHead
import Derived.Test.YtfhnfhgpaoddbaaDoorRows
import Derived.ProofKit
import Derived.Deep.DeepHandedRow
import Derived.LaidMore
import Derived.Lay
import Derived.SliceStrings
import Derived.Test.YtfhnfhgpaoddbaaDoorWWords
import Derived.Test.YtfhnfhgpaoddbaaDoorWLast
import Derived.Test.YtfhnfhgpaoddbaaDoorWTab
import Derived.Test.YtfhnfhgpaoddbaaDoorWQPut
import Derived.Test.YtfhnfhgpaoddbaaDoorWApart
import Derived.Test.YtfhnfhgpaoddbaaDoorWArr
import Derived.Test.YtfhnfhgpaoddbaaDoorWZeros
import Derived.Test.YtfhnfhgpaoddbaaDoorWFoot
import Derived.Test.YtfhnfhgpaoddbaaDoorWKept
import Derived.Test.YtfhnfhgpaoddbaaDoorWShare
import Derived.Test.YtfhnfhgpaoddbaaDoorWN
import Derived.Test.YtfhnfhgpaoddbaaDoorWEqStruct
import Derived.Test.YtfhnfhgpaoddbaaDoorWRepsOne
import Derived.Test.YtfhnfhgpaoddbaaDoorWInv
import Derived.Test.YtfhnfhgpaoddbaaDoorWGuard
import Derived.Test.YtfhnfhgpaoddbaaDoorWNEv
import Derived.Test.YtfhnfhgpaoddbaaDoorWMore
import Derived.Test.YtfhnfhgpaoddbaaDoorWx
import Derived.Test.YtfhnfhgpaoddbaaDoorZClusterLists0
import Derived.Test.YtfhnfhgpaoddbaaDoorZClusterLists2
import Derived.Test.YtfhnfhgpaoddbaaDoorZClusterLists4
import Derived.Test.YtfhnfhgpaoddbaaDoorZClusterLists5
import Derived.Test.YtfhnfhgpaoddbaaDoorZClusterLists6
import Derived.Test.YtfhnfhgpaoddbaaDoorZClusterLists8
section
namespace Go.Proofs.YtfhnfhgpaoddbaaDoor.U
open Go.RowKit Go.Proofs.YtfhnfhgpaoddbaaDoorW.PrintWords Go.Proofs.YtfhnfhgpaoddbaaDoorW.PrintLast Go.Proofs.YtfhnfhgpaoddbaaDoorW.PrintMore
attribute [local go_sem] max2_int min2_int max_two min_two max_three min_three max_four min_four   -- for this text's walks alone
set_option linter.unusedVariables false
set_option linter.unusedSimpArgs false
attribute [local go_sem high] eqA53
def bodkinlaw03_fixed.f (k : Nat)  : Option (Bool) := (bodkinlaw03_steps.f).bind fun t258 => (if t258 = true then ((cluster_List.f (⟨#[97,204,129,13,10,228,184,128,255]⟩ : ByteArray)).bind fun t259 => (if (t259.length : Int) = 4 then (if 0 < (t259.length : Int) then (if (((rd_T53 t259 0).f0) == 0 && (((rd_T53 t259 0).f1) == 3 && (((rd_T53 t259 0).f2) == 0 && (((rd_T53 t259 0).f3) == 1)))) = true then (if 1 < (t259.length : Int) then (if (((rd_T53 t259 1).f0) == 3 && (((rd_T53 t259 1).f1) == 5 && (((rd_T53 t259 1).f2) == 1 && (((rd_T53 t259 1).f3) == 0)))) = true then (if 2 < (t259.length : Int) then (if (((rd_T53 t259 2).f0) == 5 && (((rd_T53 t259 2).f1) == 8 && (((rd_T53 t259 2).f2) == 4 && (((rd_T53 t259 2).f3) == 2)))) = true then (if 3 < (t259.length : Int) then (if (((rd_T53 t259 3).f0) == 8 && (((rd_T53 t259 3).f1) == 9 && (((rd_T53 t259 3).f2) == 5 && (((rd_T53 t259 3).f3) == 1)))) = true then ((cluster_Next.f k (⟨#[97,204,129,98]⟩ : ByteArray) 0).bind fun t266 => (if t266 = 3 then ((cluster_Boundary.f k (⟨#[97,204,129,98]⟩ : ByteArray) 1).bind fun t267 => (if t267 = true then (some false) else ((cluster_Boundary.f k (⟨#[]⟩ : ByteArray) 0).bind fun t268 => (if t268 = true then ((cluster_Drawn.f (⟨#[1]⟩ : ByteArray)).bind fun t269 => (some (t269.toList == ([94,65] : List UInt8)))) else (some false))))) else (some false))) else (some false)) else (none)) else (some false)) else (none)) else (some false)) else (none)) else (some false)) else (none)) else (some false))) else (some false))
theorem bodkinlaw03_fixed.mono : ∀ k,LeO (bodkinlaw03_fixed.f k ) (bodkinlaw03_fixed.f (k + 1) ) := by
 intro  k
 unfold bodkinlaw03_fixed.f
 repeat' first
   | (with_reducible exact cluster_Boundary.mono _ _ _)
   | (with_reducible exact cluster_Next.mono _ _ _)
   | (with_reducible exact LeO.refl _)
   | (with_reducible exact LeO.none _)
   | (with_reducible refine LeO.ite ?_ ?_)
   | (with_reducible refine LeO.bind ?_ (fun _ => ?_))
   | exact cluster_Boundary.mono _ _ _
   | exact cluster_Next.mono _ _ _
   | exact LeO.none _
   | refine LeO.ite ?_ ?_
   | refine LeO.bind ?_ (fun _ => ?_)
set_option maxHeartbeats 8000000 in
set_option maxRecDepth 100000 in
theorem bodkinlaw03_fixed.calls (k : Nat)  (r : Bool) (hr_ : r = true) (w : World) (hT : Lib.Utf8Tabs 0 1 w) (h : bodkinlaw03_fixed.f k  = some r) :
  Calls Tryd.prog 39 #[] w fun e w' => e = .returned (.bool r) ∧ Below w.heap.size w w' := by
 have hu53 := Tryd.underlying53
 have HT := Aside0.mk hT
 clear hT
 have HB := Aside0.mk (Below.refl w.heap.size w)
 have H : ((bodkinlaw03_steps.f).bind fun t258 => (if t258 = true then ((cluster_List.f (⟨#[97,204,129,13,10,228,184,128,255]⟩ : ByteArray)).bind fun t259 => (if (t259.length : Int) = 4 then (if 0 < (t259.length : Int) then (if (((rd_T53 t259 0).f0) == 0 && (((rd_T53 t259 0).f1) == 3 && (((rd_T53 t259 0).f2) == 0 && (((rd_T53 t259 0).f3) == 1)))) = true then (if 1 < (t259.length : Int) then (if (((rd_T53 t259 1).f0) == 3 && (((rd_T53 t259 1).f1) == 5 && (((rd_T53 t259 1).f2) == 1 && (((rd_T53 t259 1).f3) == 0)))) = true then (if 2 < (t259.length : Int) then (if (((rd_T53 t259 2).f0) == 5 && (((rd_T53 t259 2).f1) == 8 && (((rd_T53 t259 2).f2) == 4 && (((rd_T53 t259 2).f3) == 2)))) = true then (if 3 < (t259.length : Int) then (if (((rd_T53 t259 3).f0) == 8 && (((rd_T53 t259 3).f1) == 9 && (((rd_T53 t259 3).f2) == 5 && (((rd_T53 t259 3).f3) == 1)))) = true then ((cluster_Next.f k (⟨#[97,204,129,98]⟩ : ByteArray) 0).bind fun t266 => (if t266 = 3 then ((cluster_Boundary.f k (⟨#[97,204,129,98]⟩ : ByteArray) 1).bind fun t267 => (if t267 = true then (some false) else ((cluster_Boundary.f k (⟨#[]⟩ : ByteArray) 0).bind fun t268 => (if t268 = true then ((cluster_Drawn.f (⟨#[1]⟩ : ByteArray)).bind fun t269 => (some (t269.toList == ([94,65] : List UInt8)))) else (some false))))) else (some false))) else (some false)) else (none)) else (some false)) else (none)) else (some false)) else (none)) else (some false)) else (none)) else (some false))) else (some false))) = some r := h
 clear h
 replace H := Option.bind_eq_some_iff.mp H
 obtain ⟨t258,A10,H⟩ := H
 replace H : (if t258 = true then ((cluster_List.f (⟨#[97,204,129,13,10,228,184,128,255]⟩ : ByteArray)).bind fun t259 => (if (t259.length : Int) = 4 then (if 0 < (t259.length : Int) then (if (((rd_T53 t259 0).f0) == 0 && (((rd_T53 t259 0).f1) == 3 && (((rd_T53 t259 0).f2) == 0 && (((rd_T53 t259 0).f3) == 1)))) = true then (if 1 < (t259.length : Int) then (if (((rd_T53 t259 1).f0) == 3 && (((rd_T53 t259 1).f1) == 5 && (((rd_T53 t259 1).f2) == 1 && (((rd_T53 t259 1).f3) == 0)))) = true then (if 2 < (t259.length : Int) then (if (((rd_T53 t259 2).f0) == 5 && (((rd_T53 t259 2).f1) == 8 && (((rd_T53 t259 2).f2) == 4 && (((rd_T53 t259 2).f3) == 2)))) = true then (if 3 < (t259.length : Int) then (if (((rd_T53 t259 3).f0) == 8 && (((rd_T53 t259 3).f1) == 9 && (((rd_T53 t259 3).f2) == 5 && (((rd_T53 t259 3).f3) == 1)))) = true then ((cluster_Next.f k (⟨#[97,204,129,98]⟩ : ByteArray) 0).bind fun t266 => (if t266 = 3 then ((cluster_Boundary.f k (⟨#[97,204,129,98]⟩ : ByteArray) 1).bind fun t267 => (if t267 = true then (some false) else ((cluster_Boundary.f k (⟨#[]⟩ : ByteArray) 0).bind fun t268 => (if t268 = true then ((cluster_Drawn.f (⟨#[1]⟩ : ByteArray)).bind fun t269 => (some (t269.toList == ([94,65] : List UInt8)))) else (some false))))) else (some false))) else (some false)) else (none)) else (some false)) else (none)) else (some false)) else (none)) else (some false)) else (none)) else (some false))) else (some false)) = some r := H
 have A1 := Aside0.mk A10
 clear A10
 by_cases c2 : t258 = true
 ·subst c2
  have H1 : ((cluster_List.f (⟨#[97,204,129,13,10,228,184,128,255]⟩ : ByteArray)).bind fun t259 => (if (t259.length : Int) = 4 then (if 0 < (t259.length : Int) then (if (((rd_T53 t259 0).f0) == 0 && (((rd_T53 t259 0).f1) == 3 && (((rd_T53 t259 0).f2) == 0 && (((rd_T53 t259 0).f3) == 1)))) = true then (if 1 < (t259.length : Int) then (if (((rd_T53 t259 1).f0) == 3 && (((rd_T53 t259 1).f1) == 5 && (((rd_T53 t259 1).f2) == 1 && (((rd_T53 t259 1).f3) == 0)))) = true then (if 2 < (t259.length : Int) then (if (((rd_T53 t259 2).f0) == 5 && (((rd_T53 t259 2).f1) == 8 && (((rd_T53 t259 2).f2) == 4 && (((rd_T53 t259 2).f3) == 2)))) = true then (if 3 < (t259.length : Int) then (if (((rd_T53 t259 3).f0) == 8 && (((rd_T53 t259 3).f1) == 9 && (((rd_T53 t259 3).f2) == 5 && (((rd_T53 t259 3).f3) == 1)))) = true then ((cluster_Next.f k (⟨#[97,204,129,98]⟩ : ByteArray) 0).bind fun t266 => (if t266 = 3 then ((cluster_Boundary.f k (⟨#[97,204,129,98]⟩ : ByteArray) 1).bind fun t267 => (if t267 = true then (some false) else ((cluster_Boundary.f k (⟨#[]⟩ : ByteArray) 0).bind fun t268 => (if t268 = true then ((cluster_Drawn.f (⟨#[1]⟩ : ByteArray)).bind fun t269 => (some (t269.toList == ([94,65] : List UInt8)))) else (some false))))) else (some false))) else (some false)) else (none)) else (some false)) else (none)) else (some false)) else (none)) else (some false)) else (none)) else (some false))) = some r := by rw [if_pos rfl] at H;exact H
  clear H
  have H := H1
  clear H1
  replace H := Option.bind_eq_some_iff.mp H
  obtain ⟨t259,A30,H⟩ := H
  replace H : (if (t259.length : Int) = 4 then (if 0 < (t259.length : Int) then (if (((rd_T53 t259 0).f0) == 0 && (((rd_T53 t259 0).f1) == 3 && (((rd_T53 t259 0).f2) == 0 && (((rd_T53 t259 0).f3) == 1)))) = true then (if 1 < (t259.length : Int) then (if (((rd_T53 t259 1).f0) == 3 && (((rd_T53 t259 1).f1) == 5 && (((rd_T53 t259 1).f2) == 1 && (((rd_T53 t259 1).f3) == 0)))) = true then (if 2 < (t259.length : Int) then (if (((rd_T53 t259 2).f0) == 5 && (((rd_T53 t259 2).f1) == 8 && (((rd_T53 t259 2).f2) == 4 && (((rd_T53 t259 2).f3) == 2)))) = true then (if 3 < (t259.length : Int) then (if (((rd_T53 t259 3).f0) == 8 && (((rd_T53 t259 3).f1) == 9 && (((rd_T53 t259 3).f2) == 5 && (((rd_T53 t259 3).f3) == 1)))) = true then ((cluster_Next.f k (⟨#[97,204,129,98]⟩ : ByteArray) 0).bind fun t266 => (if t266 = 3 then ((cluster_Boundary.f k (⟨#[97,204,129,98]⟩ : ByteArray) 1).bind fun t267 => (if t267 = true then (some false) else ((cluster_Boundary.f k (⟨#[]⟩ : ByteArray) 0).bind fun t268 => (if t268 = true then ((cluster_Drawn.f (⟨#[1]⟩ : ByteArray)).bind fun t269 => (some (t269.toList == ([94,65] : List UInt8)))) else (some false))))) else (some false))) else (some false)) else (none)) else (some false)) else (none)) else (some false)) else (none)) else (some false)) else (none)) else (some false)) = some r := H
  have A3 := Aside0.mk A30
  clear A30
  by_cases c4 : (t259.length : Int) = 4
  ·rw [if_pos c4] at H
   have c4b0 : ((t259.length : Int) == 4) = true := beq_iff_eq.mpr c4
   have c4b1 : ((t259.length : Int) != 4) = false := bne_eq_false_iff_eq.mpr c4
   clear c4
   by_cases c5 : 0 < (t259.length : Int)
   ·rw [if_pos c5] at H
    have c5b0 : decide (0 < (t259.length : Int)) = true := decide_eq_true c5
    have c5b1 : decide (0 < t259.length) = true := decide_eq_true (by omega)
    clear c5
    by_cases c6 : (((rd_T53 t259 0).f0) == 0 && (((rd_T53 t259 0).f1) == 3 && (((rd_T53 t259 0).f2) == 0 && (((rd_T53 t259 0).f3) == 1)))) = true
    ·rw [if_pos c6] at H
     have c6b0 : (((rd_T53 t259 0).f0) == 0 && (((rd_T53 t259 0).f1) == 3 && (((rd_T53 t259 0).f2) == 0 && (((rd_T53 t259 0).f3) == 1)))) = true := c6
     (try (have c6b1 : decide (((rd_T53 t259 0).f0) = 0 && (((rd_T53 t259 0).f1) == 3 && (((rd_T53 t259 0).f2) == 0 && (((rd_T53 t259 0).f3) == 1)))) = true := by simpa using c6))
     (try (have c6b2 : (((rd_T53 t259 0).f0) == 0 && (((rd_T53 t259 0).f1) == 3 && (((rd_T53 t259 0).f2) == 0 && (((rd_T53 t259 0).f3) == 1)))) = true := by simpa using c6))
     clear c6
     by_cases c7 : 1 < (t259.length : Int)
     ·rw [if_pos c7] at H
      have c7b0 : decide (1 < (t259.length : Int)) = true := decide_eq_true c7
      have c7b1 : decide (1 < t259.length) = true := decide_eq_true (by omega)
      clear c7
      by_cases c8 : (((rd_T53 t259 1).f0) == 3 && (((rd_T53 t259 1).f1) == 5 && (((rd_T53 t259 1).f2) == 1 && (((rd_T53 t259 1).f3) == 0)))) = true
      ·rw [if_pos c8] at H
       have c8b0 : (((rd_T53 t259 1).f0) == 3 && (((rd_T53 t259 1).f1) == 5 && (((rd_T53 t259 1).f2) == 1 && (((rd_T53 t259 1).f3) == 0)))) = true := c8
       (try (have c8b1 : decide (((rd_T53 t259 1).f0) = 3 && (((rd_T53 t259 1).f1) == 5 && (((rd_T53 t259 1).f2) == 1 && (((rd_T53 t259 1).f3) == 0)))) = true := by simpa using c8))
       (try (have c8b2 : (((rd_T53 t259 1).f0) == 3 && (((rd_T53 t259 1).f1) == 5 && (((rd_T53 t259 1).f2) == 1 && (((rd_T53 t259 1).f3) == 0)))) = true := by simpa using c8))
       clear c8
       by_cases c9 : 2 < (t259.length : Int)
       ·rw [if_pos c9] at H
        have c9b0 : decide (2 < (t259.length : Int)) = true := decide_eq_true c9
        have c9b1 : decide (2 < t259.length) = true := decide_eq_true (by omega)
        clear c9
        by_cases c10 : (((rd_T53 t259 2).f0) == 5 && (((rd_T53 t259 2).f1) == 8 && (((rd_T53 t259 2).f2) == 4 && (((rd_T53 t259 2).f3) == 2)))) = true
        ·rw [if_pos c10] at H
         have c10b0 : (((rd_T53 t259 2).f0) == 5 && (((rd_T53 t259 2).f1) == 8 && (((rd_T53 t259 2).f2) == 4 && (((rd_T53 t259 2).f3) == 2)))) = true := c10
         (try (have c10b1 : decide (((rd_T53 t259 2).f0) = 5 && (((rd_T53 t259 2).f1) == 8 && (((rd_T53 t259 2).f2) == 4 && (((rd_T53 t259 2).f3) == 2)))) = true := by simpa using c10))
         (try (have c10b2 : (((rd_T53 t259 2).f0) == 5 && (((rd_T53 t259 2).f1) == 8 && (((rd_T53 t259 2).f2) == 4 && (((rd_T53 t259 2).f3) == 2)))) = true := by simpa using c10))
         clear c10
         by_cases c11 : 3 < (t259.length : Int)
         ·rw [if_pos c11] at H
          have c11b0 : decide (3 < (t259.length : Int)) = true := decide_eq_true c11
          have c11b1 : decide (3 < t259.length) = true := decide_eq_true (by omega)
          clear c11
          by_cases c12 : (((rd_T53 t259 3).f0) == 8 && (((rd_T53 t259 3).f1) == 9 && (((rd_T53 t259 3).f2) == 5 && (((rd_T53 t259 3).f3) == 1)))) = true
          ·rw [if_pos c12] at H
           have c12b0 : (((rd_T53 t259 3).f0) == 8 && (((rd_T53 t259 3).f1) == 9 && (((rd_T53 t259 3).f2) == 5 && (((rd_T53 t259 3).f3) == 1)))) = true := c12
           (try (have c12b1 : decide (((rd_T53 t259 3).f0) = 8 && (((rd_T53 t259 3).f1) == 9 && (((rd_T53 t259 3).f2) == 5 && (((rd_T53 t259 3).f3) == 1)))) = true := by simpa using c12))
           (try (have c12b2 : (((rd_T53 t259 3).f0) == 8 && (((rd_T53 t259 3).f1) == 9 && (((rd_T53 t259 3).f2) == 5 && (((rd_T53 t259 3).f3) == 1)))) = true := by simpa using c12))
           clear c12
           replace H := Option.bind_eq_some_iff.mp H
           obtain ⟨t266,A130,H⟩ := H
           replace H : (if t266 = 3 then ((cluster_Boundary.f k (⟨#[97,204,129,98]⟩ : ByteArray) 1).bind fun t267 => (if t267 = true then (some false) else ((cluster_Boundary.f k (⟨#[]⟩ : ByteArray) 0).bind fun t268 => (if t268 = true then ((cluster_Drawn.f (⟨#[1]⟩ : ByteArray)).bind fun t269 => (some (t269.toList == ([94,65] : List UInt8)))) else (some false))))) else (some false)) = some r := H
           have A13 := Aside0.mk A130
           clear A130
           by_cases c14 : t266 = 3
           ·rw [if_pos c14] at H
            have c14b0 : (t266 == 3) = true := beq_iff_eq.mpr c14
            have c14b1 : (t266 != 3) = false := bne_eq_false_iff_eq.mpr c14
            clear c14
            replace H := Option.bind_eq_some_iff.mp H
            obtain ⟨t267,A150,H⟩ := H
            replace H : (if t267 = true then (some false) else ((cluster_Boundary.f k (⟨#[]⟩ : ByteArray) 0).bind fun t268 => (if t268 = true then ((cluster_Drawn.f (⟨#[1]⟩ : ByteArray)).bind fun t269 => (some (t269.toList == ([94,65] : List UInt8)))) else (some false)))) = some r := H
            have A15 := Aside0.mk A150
            clear A150
            by_cases c16 : t267 = true
            ·subst c16
             have H1 : (some false) = some r := by rw [if_pos rfl] at H;exact H
             clear H
             have H := H1
             clear H1
             obtain rfl := Option.some.inj H
             cases hr_
            ·replace c16 := Bool.eq_false_iff.mpr c16
             subst c16
             have H1 : ((cluster_Boundary.f k (⟨#[]⟩ : ByteArray) 0).bind fun t268 => (if t268 = true then ((cluster_Drawn.f (⟨#[1]⟩ : ByteArray)).bind fun t269 => (some (t269.toList == ([94,65] : List UInt8)))) else (some false))) = some r := by rw [if_neg (show ¬ (false = true) by decide)] at H;exact H
             clear H
             have H := H1
             clear H1
             replace H := Option.bind_eq_some_iff.mp H
             obtain ⟨t268,A220,H⟩ := H
             replace H : (if t268 = true then ((cluster_Drawn.f (⟨#[1]⟩ : ByteArray)).bind fun t269 => (some (t269.toList == ([94,65] : List UInt8)))) else (some false)) = some r := H
             have A22 := Aside0.mk A220
             clear A220
             by_cases c23 : t268 = true
             ·subst c23
              have H1 : ((cluster_Drawn.f (⟨#[1]⟩ : ByteArray)).bind fun t269 => (some (t269.toList == ([94,65] : List UInt8)))) = some r := by rw [if_pos rfl] at H;exact H
              clear H
              have H := H1
              clear H1
              replace H := Option.bind_eq_some_iff.mp H
              obtain ⟨t269,A240,H⟩ := H
              replace H : (some (t269.toList == ([94,65] : List UInt8))) = some r := H
              have A24 := Aside0.mk A240
              clear A240
              obtain rfl := Option.some.inj H
              go_enter Tryd.func39,Tryd.ntmps39
              go_wp2_with (first | ((with_reducible refine gate_callee (f := 79) rfl ?_);refine goesL_ (some 2) rfl rfl Tryd.func79 (by kernel_rfl) rfl #[] rfl (by (try simp only [List.map_toArray,List.map_cons,List.map_nil]);first | done | rfl | (simp only [List.length_drop,List.length_take];rfl)) ?_;(with_reducible refine (bodkinlaw03_steps.calls  true _ ?side1 A1.out).mono ?_);(case side1 => exact tabs_below HT.out (by repeat (first | (with_reducible first | exact HB.out | apply below_alloc | apply pw_below_drewN | apply below_drew1) | exact HB.out)));rintro e w25 ⟨rfl,hb⟩;refine ⟨_,rfl,?_⟩;have n0_ := Aside0.mk (below_step (by repeat (first | (with_reducible first | exact HB.out | apply below_alloc | apply pw_below_drewN | apply below_drew1) | exact HB.out)) hb);clear HB;have HB := n0_;clear n0_;(try clear hb);(try clear hb2);(try clear hk);(try clear hi)) | ((with_reducible refine gate_callee (f := 43) rfl ?_);refine goesL_ (some 4) rfl rfl Tryd.func43 (by kernel_rfl) rfl #[.string (⟨#[97,204,129,13,10,228,184,128,255]⟩ : ByteArray)] rfl (by (try simp only [List.map_toArray,List.map_cons,List.map_nil]);first | done | rfl | (simp only [List.length_drop,List.length_take];rfl)) ?_;(with_reducible refine (cluster_List.calls (⟨#[97,204,129,13,10,228,184,128,255]⟩ : ByteArray) t259 _ ?side1 A3.out).mono ?_);(case side1 => exact tabs_below HT.out (by repeat (first | (with_reducible first | exact HB.out | apply below_alloc | apply pw_below_drewN | apply below_drew1) | exact HB.out)));rintro e w26 ⟨v260,rfl,ho0,hb⟩;refine ⟨_,rfl,?_⟩;have n0_ := Aside0.mk (Kd.R_lower ho0 (below_size (by repeat (first | (with_reducible first | exact HB.out | apply below_alloc | apply pw_below_drewN | apply below_drew1) | exact HB.out))));have n1_ := Aside0.mk (below_step (by repeat (first | (with_reducible first | exact HB.out | apply below_alloc | apply pw_below_drewN | apply below_drew1) | exact HB.out)) hb);clear HB;have HO261 := n0_;have HB := n1_;clear n0_ n1_;(try clear hb);(try clear hb2);(try clear hk);(try clear hi);(try clear ho0);obtain ⟨Ao27,co27,eo27⟩ := Kd.R_slice HO261.out;subst eo27;have p262 : 0 ≤ (0 : Int) := (by omega);have q262 : 0 < (t259.length : Int) := of_decide_eq_true (by first | (with_reducible assumption) | assumption);obtain ⟨ad262,e262,hx262_0,hx262_1,hx262_2,hx262_3⟩ := at_T53 (Kd.R_reads' HO261.out).2.2 0 p262 q262;cases e262;have qi262 : (0 < t259.length) = True := eq_true (by omega);(try rw [show ((0 : Int)).toNat = 0 from rfl] at hx262_0);(try rw [show 0 * 4 = 0 from rfl] at hx262_0);(try rw [Addr.add_zero'] at hx262_0);(try rw [show ((0 : Int)).toNat = 0 from rfl] at hx262_1);(try rw [show 0 * 4 = 0 from rfl] at hx262_1);(try rw [Addr.add_zero'] at hx262_1);(try rw [show ((0 : Int)).toNat = 0 from rfl] at hx262_2);(try rw [show 0 * 4 = 0 from rfl] at hx262_2);(try rw [Addr.add_zero'] at hx262_2);(try rw [show ((0 : Int)).toNat = 0 from rfl] at hx262_3);(try rw [show 0 * 4 = 0 from rfl] at hx262_3);(try rw [Addr.add_zero'] at hx262_3);replace p262 := eq_true p262;replace q262 := eq_true q262;have p263 : 0 ≤ (1 : Int) := (by omega);have q263 : 1 < (t259.length : Int) := of_decide_eq_true (by first | (with_reducible assumption) | assumption);obtain ⟨ad263,e263,hx263_0,hx263_1,hx263_2,hx263_3⟩ := at_T53 (Kd.R_reads' HO261.out).2.2 1 p263 q263;obtain rfl : ad262 = ad263 := (by injection e263);(try simp only [show (1 : Int).toNat = 1 from rfl,Nat.reduceMul,Nat.reduceEqDiff,Go.Addr.add,↓reduceIte] at hx263_0);(try simp only [show (1 : Int).toNat = 1 from rfl,Nat.reduceMul,Nat.reduceEqDiff,Go.Addr.add,↓reduceIte] at hx263_1);(try simp only [show (1 : Int).toNat = 1 from rfl,Nat.reduceMul,Nat.reduceEqDiff,Go.Addr.add,↓reduceIte] at hx263_2);(try simp only [show (1 : Int).toNat = 1 from rfl,Nat.reduceMul,Nat.reduceEqDiff,Go.Addr.add,↓reduceIte] at hx263_3);have qi263 : (1 < t259.length) = True := eq_true (by omega);(try rw [show ((1 : Int)).toNat = 1 from rfl] at hx263_0);(try rw [show 1 * 4 = 4 from rfl] at hx263_0);(try rw [show ((1 : Int)).toNat = 1 from rfl] at hx263_1);(try rw [show 1 * 4 = 4 from rfl] at hx263_1);(try rw [show ((1 : Int)).toNat = 1 from rfl] at hx263_2);(try rw [show 1 * 4 = 4 from rfl] at hx263_2);(try rw [show ((1 : Int)).toNat = 1 from rfl] at hx263_3);(try rw [show 1 * 4 = 4 from rfl] at hx263_3);replace p263 := eq_true p263;replace q263 := eq_true q263;have p264 : 0 ≤ (2 : Int) := (by omega);have q264 : 2 < (t259.length : Int) := of_decide_eq_true (by first | (with_reducible assumption) | assumption);obtain ⟨ad264,e264,hx264_0,hx264_1,hx264_2,hx264_3⟩ := at_T53 (Kd.R_reads' HO261.out).2.2 2 p264 q264;obtain rfl : ad262 = ad264 := (by injection e264);(try simp only [show (2 : Int).toNat = 2 from rfl,Nat.reduceMul,Nat.reduceEqDiff,Go.Addr.add,↓reduceIte] at hx264_0);(try simp only [show (2 : Int).toNat = 2 from rfl,Nat.reduceMul,Nat.reduceEqDiff,Go.Addr.add,↓reduceIte] at hx264_1);(try simp only [show (2 : Int).toNat = 2 from rfl,Nat.reduceMul,Nat.reduceEqDiff,Go.Addr.add,↓reduceIte] at hx264_2);(try simp only [show (2 : Int).toNat = 2 from rfl,Nat.reduceMul,Nat.reduceEqDiff,Go.Addr.add,↓reduceIte] at hx264_3);have qi264 : (2 < t259.length) = True := eq_true (by omega);(try rw [show ((2 : Int)).toNat = 2 from rfl] at hx264_0);(try rw [show 2 * 4 = 8 from rfl] at hx264_0);(try rw [show ((2 : Int)).toNat = 2 from rfl] at hx264_1);(try rw [show 2 * 4 = 8 from rfl] at hx264_1);(try rw [show ((2 : Int)).toNat = 2 from rfl] at hx264_2);(try rw [show 2 * 4 = 8 from rfl] at hx264_2);(try rw [show ((2 : Int)).toNat = 2 from rfl] at hx264_3);(try rw [show 2 * 4 = 8 from rfl] at hx264_3);replace p264 := eq_true p264;replace q264 := eq_true q264;have p265 : 0 ≤ (3 : Int) := (by omega);have q265 : 3 < (t259.length : Int) := of_decide_eq_true (by first | (with_reducible assumption) | assumption);obtain ⟨ad265,e265,hx265_0,hx265_1,hx265_2,hx265_3⟩ := at_T53 (Kd.R_reads' HO261.out).2.2 3 p265 q265;obtain rfl : ad262 = ad265 := (by injection e265);(try simp only [show (3 : Int).toNat = 3 from rfl,Nat.reduceMul,Nat.reduceEqDiff,Go.Addr.add,↓reduceIte] at hx265_0);(try simp only [show (3 : Int).toNat = 3 from rfl,Nat.reduceMul,Nat.reduceEqDiff,Go.Addr.add,↓reduceIte] at hx265_1);(try simp only [show (3 : Int).toNat = 3 from rfl,Nat.reduceMul,Nat.reduceEqDiff,Go.Addr.add,↓reduceIte] at hx265_2);(try simp only [show (3 : Int).toNat = 3 from rfl,Nat.reduceMul,Nat.reduceEqDiff,Go.Addr.add,↓reduceIte] at hx265_3);have qi265 : (3 < t259.length) = True := eq_true (by omega);(try rw [show ((3 : Int)).toNat = 3 from rfl] at hx265_0);(try rw [show 3 * 4 = 12 from rfl] at hx265_0);(try rw [show ((3 : Int)).toNat = 3 from rfl] at hx265_1);(try rw [show 3 * 4 = 12 from rfl] at hx265_1);(try rw [show ((3 : Int)).toNat = 3 from rfl] at hx265_2);(try rw [show 3 * 4 = 12 from rfl] at hx265_2);(try rw [show ((3 : Int)).toNat = 3 from rfl] at hx265_3);(try rw [show 3 * 4 = 12 from rfl] at hx265_3);replace p265 := eq_true p265;replace q265 := eq_true q265) | (go_at_call 46;(with_reducible refine (cluster_Next.calls k (⟨#[97,204,129,98]⟩ : ByteArray) 0 t266 _ ?side1 A13.out).mono ?_);(case side1 => exact tabs_below HT.out (by repeat (first | (with_reducible first | exact HB.out | apply below_alloc | apply pw_below_drewN | apply below_drew1) | exact HB.out)));rintro e w28 ⟨rfl,hb⟩;have n0_ := Aside0.mk (Kd.R_below (by (with_reducible repeat (first | apply Kd.R_alloc | apply Kd.R_drewN | apply Kd.R_drew));exact HO261.out) hb);have n1_ := Aside0.mk (below_step (by repeat (first | (with_reducible first | exact HB.out | apply below_alloc | apply pw_below_drewN | apply below_drew1) | exact HB.out)) hb);clear HO261;clear HB;have HO261 := n0_;have HB := n1_;clear n0_ n1_;(try clear hb);(try clear hb2);(try clear hk);(try clear hi)) | (go_at_call 42;(with_reducible refine (cluster_Boundary.calls k (⟨#[97,204,129,98]⟩ : ByteArray) 1 false _ ?side1 A15.out).mono ?_);(case side1 => exact tabs_below HT.out (by repeat (first | (with_reducible first | exact HB.out | apply below_alloc | apply pw_below_drewN | apply below_drew1) | exact HB.out)));rintro e w29 ⟨rfl,hb⟩;have n0_ := Aside0.mk (Kd.R_below (by (with_reducible repeat (first | apply Kd.R_alloc | apply Kd.R_drewN | apply Kd.R_drew));exact HO261.out) hb);have n1_ := Aside0.mk (below_step (by repeat (first | (with_reducible first | exact HB.out | apply below_alloc | apply pw_below_drewN | apply below_drew1) | exact HB.out)) hb);clear HO261;clear HB;have HO261 := n0_;have HB := n1_;clear n0_ n1_;(try clear hb);(try clear hb2);(try clear hk);(try clear hi)) | (go_at_call 42;(with_reducible refine (cluster_Boundary.calls k (⟨#[]⟩ : ByteArray) 0 true _ ?side1 A22.out).mono ?_);(case side1 => exact tabs_below HT.out (by repeat (first | (with_reducible first | exact HB.out | apply below_alloc | apply pw_below_drewN | apply below_drew1) | exact HB.out)));rintro e w30 ⟨rfl,hb⟩;have n0_ := Aside0.mk (Kd.R_below (by (with_reducible repeat (first | apply Kd.R_alloc | apply Kd.R_drewN | apply Kd.R_drew));exact HO261.out) hb);have n1_ := Aside0.mk (below_step (by repeat (first | (with_reducible first | exact HB.out | apply below_alloc | apply pw_below_drewN | apply below_drew1) | exact HB.out)) hb);clear HO261;clear HB;have HO261 := n0_;have HB := n1_;clear n0_ n1_;(try clear hb);(try clear hb2);(try clear hk);(try clear hi)) | (go_at_call 56;(with_reducible refine (cluster_Drawn.calls (⟨#[1]⟩ : ByteArray) t269 _ ?side1 A24.out).mono ?_);(case side1 => exact tabs_below HT.out (by repeat (first | (with_reducible first | exact HB.out | apply below_alloc | apply pw_below_drewN | apply below_drew1) | exact HB.out)));rintro e w31 ⟨rfl,hb⟩;have n0_ := Aside0.mk (Kd.R_below (by (with_reducible repeat (first | apply Kd.R_alloc | apply Kd.R_drewN | apply Kd.R_drew));exact HO261.out) hb);have n1_ := Aside0.mk (below_step (by repeat (first | (with_reducible first | exact HB.out | apply below_alloc | apply pw_below_drewN | apply below_drew1) | exact HB.out)) hb);clear HO261;clear HB;have HO261 := n0_;have HB := n1_;clear n0_ n1_;(try clear hb);(try clear hb2);(try clear hk);(try clear hi)))
              go_ret
              exact ⟨by first | rfl | (simp [errW_none,errW_some] <;> rfl) | (simp [*,errW_none,errW_some] <;> rfl),by repeat (first | (with_reducible first | exact HB.out | apply below_alloc | apply pw_below_drewN | apply below_drew1) | exact HB.out)⟩
             ·replace c23 := Bool.eq_false_iff.mpr c23
              subst c23
              have H1 : (some false) = some r := by rw [if_neg (show ¬ (false = true) by decide)] at H;exact H
              clear H
              have H := H1
              clear H1
              obtain rfl := Option.some.inj H
              cases hr_
           ·rw [if_neg c14] at H
            have c14b0 : (t266 == 3) = false := beq_eq_false_iff_ne.mpr c14
            have c14b1 : (t266 != 3) = true := bne_iff_ne.mpr c14
            obtain rfl := Option.some.inj H
            cases hr_
          ·rw [if_neg c12] at H
           have c12b0 : (((rd_T53 t259 3).f0) == 8 && (((rd_T53 t259 3).f1) == 9 && (((rd_T53 t259 3).f2) == 5 && (((rd_T53 t259 3).f3) == 1)))) = false := by simpa using c12
           (try (have c12b1 : decide (((rd_T53 t259 3).f0) = 8 && (((rd_T53 t259 3).f1) == 9 && (((rd_T53 t259 3).f2) == 5 && (((rd_T53 t259 3).f3) == 1)))) = false := by simpa using c12))
           (try (have c12b2 : (((rd_T53 t259 3).f0) == 8 && (((rd_T53 t259 3).f1) == 9 && (((rd_T53 t259 3).f2) == 5 && (((rd_T53 t259 3).f3) == 1)))) = false := by simpa using c12))
           (try (have c12b3 : ¬ (((rd_T53 t259 3).f0) = 8 && (((rd_T53 t259 3).f1) == 9 && (((rd_T53 t259 3).f2) == 5 && (((rd_T53 t259 3).f3) == 1)))) := by simpa using c12))
           clear c12
           obtain rfl := Option.some.inj H
           cases hr_
         ·rw [if_neg c11] at H
          exact absurd H (by simp)
        ·rw [if_neg c10] at H
         have c10b0 : (((rd_T53 t259 2).f0) == 5 && (((rd_T53 t259 2).f1) == 8 && (((rd_T53 t259 2).f2) == 4 && (((rd_T53 t259 2).f3) == 2)))) = false := by simpa using c10
         (try (have c10b1 : decide (((rd_T53 t259 2).f0) = 5 && (((rd_T53 t259 2).f1) == 8 && (((rd_T53 t259 2).f2) == 4 && (((rd_T53 t259 2).f3) == 2)))) = false := by simpa using c10))
         (try (have c10b2 : (((rd_T53 t259 2).f0) == 5 && (((rd_T53 t259 2).f1) == 8 && (((rd_T53 t259 2).f2) == 4 && (((rd_T53 t259 2).f3) == 2)))) = false := by simpa using c10))
         (try (have c10b3 : ¬ (((rd_T53 t259 2).f0) = 5 && (((rd_T53 t259 2).f1) == 8 && (((rd_T53 t259 2).f2) == 4 && (((rd_T53 t259 2).f3) == 2)))) := by simpa using c10))
         clear c10
         obtain rfl := Option.some.inj H
         cases hr_
       ·rw [if_neg c9] at H
        exact absurd H (by simp)
      ·rw [if_neg c8] at H
       have c8b0 : (((rd_T53 t259 1).f0) == 3 && (((rd_T53 t259 1).f1) == 5 && (((rd_T53 t259 1).f2) == 1 && (((rd_T53 t259 1).f3) == 0)))) = false := by simpa using c8
       (try (have c8b1 : decide (((rd_T53 t259 1).f0) = 3 && (((rd_T53 t259 1).f1) == 5 && (((rd_T53 t259 1).f2) == 1 && (((rd_T53 t259 1).f3) == 0)))) = false := by simpa using c8))
       (try (have c8b2 : (((rd_T53 t259 1).f0) == 3 && (((rd_T53 t259 1).f1) == 5 && (((rd_T53 t259 1).f2) == 1 && (((rd_T53 t259 1).f3) == 0)))) = false := by simpa using c8))
       (try (have c8b3 : ¬ (((rd_T53 t259 1).f0) = 3 && (((rd_T53 t259 1).f1) == 5 && (((rd_T53 t259 1).f2) == 1 && (((rd_T53 t259 1).f3) == 0)))) := by simpa using c8))
       clear c8
       obtain rfl := Option.some.inj H
       cases hr_
     ·rw [if_neg c7] at H
      exact absurd H (by simp)
    ·rw [if_neg c6] at H
     have c6b0 : (((rd_T53 t259 0).f0) == 0 && (((rd_T53 t259 0).f1) == 3 && (((rd_T53 t259 0).f2) == 0 && (((rd_T53 t259 0).f3) == 1)))) = false := by simpa using c6
     (try (have c6b1 : decide (((rd_T53 t259 0).f0) = 0 && (((rd_T53 t259 0).f1) == 3 && (((rd_T53 t259 0).f2) == 0 && (((rd_T53 t259 0).f3) == 1)))) = false := by simpa using c6))
     (try (have c6b2 : (((rd_T53 t259 0).f0) == 0 && (((rd_T53 t259 0).f1) == 3 && (((rd_T53 t259 0).f2) == 0 && (((rd_T53 t259 0).f3) == 1)))) = false := by simpa using c6))
     (try (have c6b3 : ¬ (((rd_T53 t259 0).f0) = 0 && (((rd_T53 t259 0).f1) == 3 && (((rd_T53 t259 0).f2) == 0 && (((rd_T53 t259 0).f3) == 1)))) := by simpa using c6))
     clear c6
     obtain rfl := Option.some.inj H
     cases hr_
   ·rw [if_neg c5] at H
    exact absurd H (by simp)
  ·rw [if_neg c4] at H
   have c4b0 : ((t259.length : Int) == 4) = false := beq_eq_false_iff_ne.mpr c4
   have c4b1 : ((t259.length : Int) != 4) = true := bne_iff_ne.mpr c4
   obtain rfl := Option.some.inj H
   cases hr_
 ·replace c2 := Bool.eq_false_iff.mpr c2
  subst c2
  have H1 : (some false) = some r := by rw [if_neg (show ¬ (false = true) by decide)] at H;exact H
  clear H
  have H := H1
  clear H1
  obtain rfl := Option.some.inj H
  cases hr_
end Go.Proofs.YtfhnfhgpaoddbaaDoor.U
end
section
namespace Go.Proofs.YtfhnfhgpaoddbaaDoor.U
open Go.RowKit Go.Proofs.YtfhnfhgpaoddbaaDoorW.PrintWords Go.Proofs.YtfhnfhgpaoddbaaDoorW.PrintLast Go.Proofs.YtfhnfhgpaoddbaaDoorW.PrintMore
attribute [local go_sem] max2_int min2_int max_two min_two max_three min_three max_four min_four   -- for this text's walks alone
set_option linter.unusedVariables false
set_option linter.unusedSimpArgs false
def bodkinlaw03_ClusterLists.l0 : Nat → List ByteArray → Int → Option (Bool)
 | 0,_,_ => none
 | k + 1,x0,x3 => if x3 < (x0.length : Int) then (if 0 ≤ x3 then ((cluster_List.f (rdOf ByteArray.empty x0 x3)).bind fun t412 => ((bodkinref03_List.f k (rdOf ByteArray.empty x0 x3)).bind fun t415 => ((bodkinlaw03_same.f k t412 t415).bind fun t418 => (if t418 = true then ((cluster_Count.f (rdOf ByteArray.empty x0 x3)).bind fun t419 => ((bodkinref03_Count.f k (rdOf ByteArray.empty x0 x3)).bind fun t420 => (if t419 = t420 then ((cluster_Cells.f (rdOf ByteArray.empty x0 x3)).bind fun t421 => ((bodkinref03_Cells.f k (rdOf ByteArray.empty x0 x3)).bind fun t422 => (if t421 = t422 then ((cluster_Drawn.f (rdOf ByteArray.empty x0 x3)).bind fun t423 => ((bodkinref03_Drawn.f k (rdOf ByteArray.empty x0 x3)).bind fun t424 => (if t423.toList = t424.toList then (bodkinlaw03_ClusterLists.l0 k x0 (wrap64 (x3 + 1))) else (some false)))) else (some false)))) else (some false)))) else (some false))))) else (none)) else (some true)
def bodkinlaw03_ClusterLists.f (k : Nat) (l0 : List ByteArray) : Option (Bool) := (bodkinlaw03_fixed.f k).bind fun t410 => (if t410 = true then (bodkinlaw03_ClusterLists.l0 k l0 0) else (some false))
set_option maxHeartbeats 8000000 in
set_option maxRecDepth 100000 in
theorem bodkinlaw03_ClusterLists.calls (k : Nat) (A0 : Option Addr) (c0 : Nat) (l0 : List ByteArray) (r : Bool) (hr_ : r = true) (w : World) (hr0 : Kd.C Kd.string w A0 l0.length l0) (hc0 : l0.length ≤ c0) (hT : Lib.Utf8Tabs 0 1 w) (h : bodkinlaw03_ClusterLists.f k l0 = some r) :
  Calls Tryd.prog 17 #[.slice A0 l0.length c0] w fun e w' => e = .returned (.bool r) ∧ Below w.heap.size w w' := by
 have HT := Aside0.mk hT
 clear hT
 have HR0 := Aside0.mk hr0
 have HC0 := Aside0.mk hc0
 clear hr0 hc0
 have HB := Aside0.mk (Below.refl w.heap.size w)
 have H : ((bodkinlaw03_fixed.f k).bind fun t410 => (if t410 = true then (bodkinlaw03_ClusterLists.l0 k l0 0) else (some false))) = some r := h
 clear h
 replace H := Option.bind_eq_some_iff.mp H
 obtain ⟨t410,A20,H⟩ := H
 replace H : (if t410 = true then (bodkinlaw03_ClusterLists.l0 k l0 0) else (some false)) = some r := H
 have A2 := Aside0.mk A20
 clear A20
 by_cases c3 : t410 = true
 ·subst c3
  have H1 : (bodkinlaw03_ClusterLists.l0 k l0 0) = some r := by rw [if_pos rfl] at H;exact H
  clear H
  have H := H1
  clear H1
  have H' := Aside0.mk H
  clear H
  go_enter Tryd.func17,Tryd.ntmps17
  go_wp2_with (first | ((with_reducible refine gate_callee (f := 39) rfl ?_);refine goesL_ (some 5) rfl rfl Tryd.func39 (by kernel_rfl) rfl #[] rfl (by (try simp only [List.map_toArray,List.map_cons,List.map_nil]);first | done | rfl | (simp only [List.length_drop,List.length_take];rfl)) ?_;(with_reducible refine (bodkinlaw03_fixed.calls k true rfl _ ?side1 A2.out).mono ?_);(case side1 => exact tabs_below HT.out (by repeat (first | (with_reducible first | exact HB.out | apply below_alloc | apply pw_below_drewN | apply below_drew1) | exact HB.out)));rintro e w4 ⟨rfl,hb⟩;refine ⟨_,rfl,?_⟩;have n0_ := Aside0.mk (below_step (by repeat (first | (with_reducible first | exact HB.out | apply below_alloc | apply pw_below_drewN | apply below_drew1) | exact HB.out)) hb);clear HB;have HB := n0_;clear n0_;(try clear hb);(try clear hb2);(try clear hk);(try clear hi)))
  go_loopg [3] k (fun kq v3 w' => ∃ (x3_1 : Int),v3 = .int .i64 x3_1 ∧ Aside0 (bodkinlaw03_ClusterLists.l0 kq l0 x3_1 = some r) ∧ Aside0 (kq ≤ k) ∧ Aside0 (Below w.heap.size w w'))
  case atStart => exact ⟨(0),(by first | rfl | (simp;done) | (simp [*];done)),H',⟨Nat.le_refl _⟩,⟨by repeat (first | (with_reducible first | exact HB.out | apply below_alloc | apply pw_below_drewN | apply below_drew1) | exact HB.out)⟩⟩
  case round =>
   clear H'
   try clear c1
   try clear p2
   try clear c3
   obtain ⟨x3_1,rfl,HA,HK1,HB⟩ := hrel
   cases gk with
   | zero => exact absurd HA.out (by simp [bodkinlaw03_ClusterLists.l0])
   | succ k1 =>
    have H := HA.out
    clear HA
    simp only [bodkinlaw03_ClusterLists.l0] at H
    by_cases c5 : x3_1 < (l0.length : Int)
    ·rw [if_pos c5] at H
     have c5b0 : decide (x3_1 < (l0.length : Int)) = true := decide_eq_true c5
     clear c5
     by_cases c6 : 0 ≤ x3_1
     ·rw [if_pos c6] at H
      have c6b0 : decide (0 ≤ x3_1) = true := decide_eq_true c6
      clear c6
      replace H := Option.bind_eq_some_iff.mp H
      obtain ⟨t412,A70,H⟩ := H
      replace H : ((bodkinref03_List.f k1 (rdOf ByteArray.empty l0 x3_1)).bind fun t415 => ((bodkinlaw03_same.f k1 t412 t415).bind fun t418 => (if t418 = true then ((cluster_Count.f (rdOf ByteArray.empty l0 x3_1)).bind fun t419 => ((bodkinref03_Count.f k1 (rdOf ByteArray.empty l0 x3_1)).bind fun t420 => (if t419 = t420 then ((cluster_Cells.f (rdOf ByteArray.empty l0 x3_1)).bind fun t421 => ((bodkinref03_Cells.f k1 (rdOf ByteArray.empty l0 x3_1)).bind fun t422 => (if t421 = t422 then ((cluster_Drawn.f (rdOf ByteArray.empty l0 x3_1)).bind fun t423 => ((bodkinref03_Drawn.f k1 (rdOf ByteArray.empty l0 x3_1)).bind fun t424 => (if t423.toList = t424.toList then (bodkinlaw03_ClusterLists.l0 k1 l0 (wrap64 (x3_1 + 1))) else (some false)))) else (some false)))) else (some false)))) else (some false)))) = some r := H
      have A7 := Aside0.mk A70
      clear A70
      replace H := Option.bind_eq_some_iff.mp H
      obtain ⟨t415,A80,H⟩ := H
      replace H : ((bodkinlaw03_same.f k1 t412 t415).bind fun t418 => (if t418 = true then ((cluster_Count.f (rdOf ByteArray.empty l0 x3_1)).bind fun t419 => ((bodkinref03_Count.f k1 (rdOf ByteArray.empty l0 x3_1)).bind fun t420 => (if t419 = t420 then ((cluster_Cells.f (rdOf ByteArray.empty l0 x3_1)).bind fun t421 => ((bodkinref03_Cells.f k1 (rdOf ByteArray.empty l0 x3_1)).bind fun t422 => (if t421 = t422 then ((cluster_Drawn.f (rdOf ByteArray.empty l0 x3_1)).bind fun t423 => ((bodkinref03_Drawn.f k1 (rdOf ByteArray.empty l0 x3_1)).bind fun t424 => (if t423.toList = t424.toList then (bodkinlaw03_ClusterLists.l0 k1 l0 (wrap64 (x3_1 + 1))) else (some false)))) else (some false)))) else (some false)))) else (some false))) = some r := H
      have A8 := Aside0.mk A80
      clear A80
      replace H := Option.bind_eq_some_iff.mp H
      obtain ⟨t418,A90,H⟩ := H
      replace H : (if t418 = true then ((cluster_Count.f (rdOf ByteArray.empty l0 x3_1)).bind fun t419 => ((bodkinref03_Count.f k1 (rdOf ByteArray.empty l0 x3_1)).bind fun t420 => (if t419 = t420 then ((cluster_Cells.f (rdOf ByteArray.empty l0 x3_1)).bind fun t421 => ((bodkinref03_Cells.f k1 (rdOf ByteArray.empty l0 x3_1)).bind fun t422 => (if t421 = t422 then ((cluster_Drawn.f (rdOf ByteArray.empty l0 x3_1)).bind fun t423 => ((bodkinref03_Drawn.f k1 (rdOf ByteArray.empty l0 x3_1)).bind fun t424 => (if t423.toList = t424.toList then (bodkinlaw03_ClusterLists.l0 k1 l0 (wrap64 (x3_1 + 1))) else (some false)))) else (some false)))) else (some false)))) else (some false)) = some r := H
      have A9 := Aside0.mk A90
      clear A90
      by_cases c10 : t418 = true
      ·subst c10
       have H1 : ((cluster_Count.f (rdOf ByteArray.empty l0 x3_1)).bind fun t419 => ((bodkinref03_Count.f k1 (rdOf ByteArray.empty l0 x3_1)).bind fun t420 => (if t419 = t420 then ((cluster_Cells.f (rdOf ByteArray.empty l0 x3_1)).bind fun t421 => ((bodkinref03_Cells.f k1 (rdOf ByteArray.empty l0 x3_1)).bind fun t422 => (if t421 = t422 then ((cluster_Drawn.f (rdOf ByteArray.empty l0 x3_1)).bind fun t423 => ((bodkinref03_Drawn.f k1 (rdOf ByteArray.empty l0 x3_1)).bind fun t424 => (if t423.toList = t424.toList then (bodkinlaw03_ClusterLists.l0 k1 l0 (wrap64 (x3_1 + 1))) else (some false)))) else (some false)))) else (some false)))) = some r := by rw [if_pos rfl] at H;exact H
       clear H
       have H := H1
       clear H1
       replace H := Option.bind_eq_some_iff.mp H
       obtain ⟨t419,A110,H⟩ := H
       replace H : ((bodkinref03_Count.f k1 (rdOf ByteArray.empty l0 x3_1)).bind fun t420 => (if t419 = t420 then ((cluster_Cells.f (rdOf ByteArray.empty l0 x3_1)).bind fun t421 => ((bodkinref03_Cells.f k1 (rdOf ByteArray.empty l0 x3_1)).bind fun t422 => (if t421 = t422 then ((cluster_Drawn.f (rdOf ByteArray.empty l0 x3_1)).bind fun t423 => ((bodkinref03_Drawn.f k1 (rdOf ByteArray.empty l0 x3_1)).bind fun t424 => (if t423.toList = t424.toList then (bodkinlaw03_ClusterLists.l0 k1 l0 (wrap64 (x3_1 + 1))) else (some false)))) else (some false)))) else (some false))) = some r := H
       have A11 := Aside0.mk A110
       clear A110
       replace H := Option.bind_eq_some_iff.mp H
       obtain ⟨t420,A120,H⟩ := H
       replace H : (if t419 = t420 then ((cluster_Cells.f (rdOf ByteArray.empty l0 x3_1)).bind fun t421 => ((bodkinref03_Cells.f k1 (rdOf ByteArray.empty l0 x3_1)).bind fun t422 => (if t421 = t422 then ((cluster_Drawn.f (rdOf ByteArray.empty l0 x3_1)).bind fun t423 => ((bodkinref03_Drawn.f k1 (rdOf ByteArray.empty l0 x3_1)).bind fun t424 => (if t423.toList = t424.toList then (bodkinlaw03_ClusterLists.l0 k1 l0 (wrap64 (x3_1 + 1))) else (some false)))) else (some false)))) else (some false)) = some r := H
       have A12 := Aside0.mk A120
       clear A120
       by_cases c13 : t419 = t420
       ·rw [if_pos c13] at H
        have c13b0 : (t419 == t420) = true := beq_iff_eq.mpr c13
        have c13b1 : (t419 != t420) = false := bne_eq_false_iff_eq.mpr c13
        clear c13
        replace H := Option.bind_eq_some_iff.mp H
        obtain ⟨t421,A140,H⟩ := H
        replace H : ((bodkinref03_Cells.f k1 (rdOf ByteArray.empty l0 x3_1)).bind fun t422 => (if t421 = t422 then ((cluster_Drawn.f (rdOf ByteArray.empty l0 x3_1)).bind fun t423 => ((bodkinref03_Drawn.f k1 (rdOf ByteArray.empty l0 x3_1)).bind fun t424 => (if t423.toList = t424.toList then (bodkinlaw03_ClusterLists.l0 k1 l0 (wrap64 (x3_1 + 1))) else (some false)))) else (some false))) = some r := H
        have A14 := Aside0.mk A140
        clear A140
        replace H := Option.bind_eq_some_iff.mp H
        obtain ⟨t422,A150,H⟩ := H
        replace H : (if t421 = t422 then ((cluster_Drawn.f (rdOf ByteArray.empty l0 x3_1)).bind fun t423 => ((bodkinref03_Drawn.f k1 (rdOf ByteArray.empty l0 x3_1)).bind fun t424 => (if t423.toList = t424.toList then (bodkinlaw03_ClusterLists.l0 k1 l0 (wrap64 (x3_1 + 1))) else (some false)))) else (some false)) = some r := H
        have A15 := Aside0.mk A150
        clear A150
        by_cases c16 : t421 = t422
        ·rw [if_pos c16] at H
         have c16b0 : (t421 == t422) = true := beq_iff_eq.mpr c16
         have c16b1 : (t421 != t422) = false := bne_eq_false_iff_eq.mpr c16
         clear c16
         replace H := Option.bind_eq_some_iff.mp H
         obtain ⟨t423,A170,H⟩ := H
         replace H : ((bodkinref03_Drawn.f k1 (rdOf ByteArray.empty l0 x3_1)).bind fun t424 => (if t423.toList = t424.toList then (bodkinlaw03_ClusterLists.l0 k1 l0 (wrap64 (x3_1 + 1))) else (some false))) = some r := H
         have A17 := Aside0.mk A170
         clear A170
         replace H := Option.bind_eq_some_iff.mp H
         obtain ⟨t424,A180,H⟩ := H
         replace H : (if t423.toList = t424.toList then (bodkinlaw03_ClusterLists.l0 k1 l0 (wrap64 (x3_1 + 1))) else (some false)) = some r := H
         have A18 := Aside0.mk A180
         clear A180
         by_cases c19 : t423.toList = t424.toList
         ·rw [if_pos c19] at H
          have c19b0 : (t423.toList == t424.toList) = true := beq_iff_eq.mpr c19
          have c19b1 : (t423.toList != t424.toList) = false := bne_eq_false_iff_eq.mpr c19
          clear c19
          have H' := Aside0.mk H
          clear H
          have p411 : 0 ≤ (x3_1 : Int) := of_decide_eq_true (by first | (with_reducible assumption) | assumption)
          have q411 : x3_1 < (l0.length : Int) := of_decide_eq_true (by first | (with_reducible assumption) | assumption)
          obtain ⟨ad411,e411,hx411_0⟩ := Kd.at_string HR0.out x3_1 p411 q411
          cases e411
          replace hx411_0 := (HB.out.cell (World.block_lt_of_cell? w _ hx411_0)).trans hx411_0
          replace p411 := eq_true p411
          replace q411 := eq_true q411
          go_wp2_with (first | ((with_reducible refine gate_callee (f := 43) rfl ?_);refine goesL_ (some 18) rfl rfl Tryd.func43 (by kernel_rfl) rfl #[.string (rdOf ByteArray.empty l0 x3_1)] rfl (by (try simp only [List.map_toArray,List.map_cons,List.map_nil]);first | done | rfl | (simp only [List.length_drop,List.length_take];rfl)) ?_;(with_reducible refine (cluster_List.calls (rdOf ByteArray.empty l0 x3_1) t412 _ ?side1 A7.out).mono ?_);(case side1 => exact tabs_below HT.out (by repeat (first | (with_reducible first | exact HB.out | apply below_alloc | apply pw_below_drewN | apply below_drew1) | exact HB.out)));rintro e w20 ⟨v413,rfl,ho0,hb⟩;refine ⟨_,rfl,?_⟩;have n0_ := Aside0.mk (Kd.R_lower ho0 (below_size (by repeat (first | (with_reducible first | exact HB.out | apply below_alloc | apply pw_below_drewN | apply below_drew1) | exact HB.out))));have n1_ := Aside0.mk (below_step (by repeat (first | (with_reducible first | exact HB.out | apply below_alloc | apply pw_below_drewN | apply below_drew1) | exact HB.out)) hb);clear HB;have HO414 := n0_;have HB := n1_;clear n0_ n1_;(try clear hb);(try clear hb2);(try clear hk);(try clear hi);(try clear ho0)) | ((with_reducible refine gate_callee (f := 40) rfl ?_);refine goesL_ (some 20) rfl rfl Tryd.func40 (by kernel_rfl) rfl #[.string (rdOf ByteArray.empty l0 x3_1)] rfl (by (try simp only [List.map_toArray,List.map_cons,List.map_nil]);first | done | rfl | (simp only [List.length_drop,List.length_take];rfl)) ?_;(with_reducible refine (bodkinref03_List.calls k1 (rdOf ByteArray.empty l0 x3_1) t415 _ A8.out).mono ?_);rintro e w21 ⟨v416,rfl,ho0,hb⟩;refine ⟨_,rfl,?_⟩;have n0_ := Aside0.mk (Kd.R_elder' (by (with_reducible repeat (first | apply Kd.R_alloc | apply Kd.R_drewN | apply Kd.R_drew));exact HO414.out) (Kd.R_base ho0) hb);have n1_ := Aside0.mk (Kd.R_lower (Kd.R_new' ho0 (Kd.R_lt (by (with_reducible repeat (first | apply Kd.R_alloc | apply Kd.R_drewN | apply Kd.R_drew));exact HO414.out))) (below_size (by repeat (first | (with_reducible first | exact HB.out | apply below_alloc | apply pw_below_drewN | apply below_drew1) | exact HB.out))));have n2_ := Aside0.mk (below_step (by repeat (first | (with_reducible first | exact HB.out | apply below_alloc | apply pw_below_drewN | apply below_drew1) | exact HB.out)) hb);clear HO414;clear HB;have HO414 := n0_;have HO417 := n1_;have HB := n2_;clear n0_ n1_ n2_;(try clear hb);(try clear hb2);(try clear hk);(try clear hi);(try clear ho0);obtain ⟨Ao22,co22,eo22⟩ := Kd.R_slice HO414.out;subst eo22;obtain ⟨Ao23,co23,eo23⟩ := Kd.R_slice HO417.out;subst eo23) | ((with_reducible refine gate_callee (f := 44) rfl ?_);refine goesL_ (some 21) rfl rfl Tryd.func44 (by kernel_rfl) rfl #[.slice Ao22 t412.length co22,.slice Ao23 t415.length co23] rfl (by (try simp only [List.map_toArray,List.map_cons,List.map_nil]);first | done | rfl | (simp only [List.length_drop,List.length_take];rfl)) ?_;(with_reducible refine (bodkinlaw03_same.calls k1 _ _ t412 _ _ t415 true _ ?side1 ?side2 ?side3 ?side4 A9.out).mono ?_);(case side1 => repeat (first | exact (Kd.R_reads' HO414.out).2.2 | (with_reducible refine Kd.C_alloc ?_ _) | (with_reducible refine Kd.C_drewN ?_ _) | (with_reducible refine Kd.C_drew ?_)));(case side2 => exact (Kd.R_reads' HO414.out).2.1);(case side3 => repeat (first | exact (Kd.R_reads' HO417.out).2.2 | (with_reducible refine Kd.C_alloc ?_ _) | (with_reducible refine Kd.C_drewN ?_ _) | (with_reducible refine Kd.C_drew ?_)));(case side4 => exact (Kd.R_reads' HO417.out).2.1);rintro e w' ⟨rfl,⟨nd,rfl⟩⟩;refine ⟨_,rfl,?_⟩) | (go_at_call 52;(with_reducible refine (cluster_Count.calls (rdOf ByteArray.empty l0 x3_1) t419 _ ?side1 A11.out).mono ?_);(case side1 => exact tabs_below HT.out (by repeat (first | (with_reducible first | exact HB.out | apply below_alloc | apply pw_below_drewN | apply below_drew1) | exact HB.out)));rintro e w24 ⟨rfl,hb⟩;have n0_ := Aside0.mk (Kd.R_below (by (with_reducible repeat (first | apply Kd.R_alloc | apply Kd.R_drewN | apply Kd.R_drew));exact HO414.out) hb);have n1_ := Aside0.mk (Kd.R_below (by (with_reducible repeat (first | apply Kd.R_alloc | apply Kd.R_drewN | apply Kd.R_drew));exact HO417.out) hb);have n2_ := Aside0.mk (below_step (by repeat (first | (with_reducible first | exact HB.out | apply below_alloc | apply pw_below_drewN | apply below_drew1) | exact HB.out)) hb);clear HO414;clear HO417;clear HB;have HO414 := n0_;have HO417 := n1_;have HB := n2_;clear n0_ n1_ n2_;(try clear hb);(try clear hb2);(try clear hk);(try clear hi)) | (go_at_call 53;(with_reducible refine (bodkinref03_Count.calls k1 (rdOf ByteArray.empty l0 x3_1) t420 _ A12.out).mono ?_);rintro e w25 ⟨rfl,hb⟩;have n0_ := Aside0.mk (Kd.R_below (by (with_reducible repeat (first | apply Kd.R_alloc | apply Kd.R_drewN | apply Kd.R_drew));exact HO414.out) hb);have n1_ := Aside0.mk (Kd.R_below (by (with_reducible repeat (first | apply Kd.R_alloc | apply Kd.R_drewN | apply Kd.R_drew));exact HO417.out) hb);have n2_ := Aside0.mk (below_step (by repeat (first | (with_reducible first | exact HB.out | apply below_alloc | apply pw_below_drewN | apply below_drew1) | exact HB.out)) hb);clear HO414;clear HO417;clear HB;have HO414 := n0_;have HO417 := n1_;have HB := n2_;clear n0_ n1_ n2_;(try clear hb);(try clear hb2);(try clear hk);(try clear hi)) | (go_at_call 54;(with_reducible refine (cluster_Cells.calls (rdOf ByteArray.empty l0 x3_1) t421 _ ?side1 A14.out).mono ?_);(case side1 => exact tabs_below HT.out (by repeat (first | (with_reducible first | exact HB.out | apply below_alloc | apply pw_below_drewN | apply below_drew1) | exact HB.out)));rintro e w26 ⟨rfl,hb⟩;have n0_ := Aside0.mk (Kd.R_below (by (with_reducible repeat (first | apply Kd.R_alloc | apply Kd.R_drewN | apply Kd.R_drew));exact HO414.out) hb);have n1_ := Aside0.mk (Kd.R_below (by (with_reducible repeat (first | apply Kd.R_alloc | apply Kd.R_drewN | apply Kd.R_drew));exact HO417.out) hb);have n2_ := Aside0.mk (below_step (by repeat (first | (with_reducible first | exact HB.out | apply below_alloc | apply pw_below_drewN | apply below_drew1) | exact HB.out)) hb);clear HO414;clear HO417;clear HB;have HO414 := n0_;have HO417 := n1_;have HB := n2_;clear n0_ n1_ n2_;(try clear hb);(try clear hb2);(try clear hk);(try clear hi)) | (go_at_call 55;(with_reducible refine (bodkinref03_Cells.calls k1 (rdOf ByteArray.empty l0 x3_1) t422 _ A15.out).mono ?_);rintro e w27 ⟨rfl,hb⟩;have n0_ := Aside0.mk (Kd.R_below (by (with_reducible repeat (first | apply Kd.R_alloc | apply Kd.R_drewN | apply Kd.R_drew));exact HO414.out) hb);have n1_ := Aside0.mk (Kd.R_below (by (with_reducible repeat (first | apply Kd.R_alloc | apply Kd.R_drewN | apply Kd.R_drew));exact HO417.out) hb);have n2_ := Aside0.mk (below_step (by repeat (first | (with_reducible first | exact HB.out | apply below_alloc | apply pw_below_drewN | apply below_drew1) | exact HB.out)) hb);clear HO414;clear HO417;clear HB;have HO414 := n0_;have HO417 := n1_;have HB := n2_;clear n0_ n1_ n2_;(try clear hb);(try clear hb2);(try clear hk);(try clear hi)) | (go_at_call 56;(with_reducible refine (cluster_Drawn.calls (rdOf ByteArray.empty l0 x3_1) t423 _ ?side1 A17.out).mono ?_);(case side1 => exact tabs_below HT.out (by repeat (first | (with_reducible first | exact HB.out | apply below_alloc | apply pw_below_drewN | apply below_drew1) | exact HB.out)));rintro e w28 ⟨rfl,hb⟩;have n0_ := Aside0.mk (Kd.R_below (by (with_reducible repeat (first | apply Kd.R_alloc | apply Kd.R_drewN | apply Kd.R_drew));exact HO414.out) hb);have n1_ := Aside0.mk (Kd.R_below (by (with_reducible repeat (first | apply Kd.R_alloc | apply Kd.R_drewN | apply Kd.R_drew));exact HO417.out) hb);have n2_ := Aside0.mk (below_step (by repeat (first | (with_reducible first | exact HB.out | apply below_alloc | apply pw_below_drewN | apply below_drew1) | exact HB.out)) hb);clear HO414;clear HO417;clear HB;have HO414 := n0_;have HO417 := n1_;have HB := n2_;clear n0_ n1_ n2_;(try clear hb);(try clear hb2);(try clear hk);(try clear hi)) | (go_at_call 57;(with_reducible refine (bodkinref03_Drawn.calls k1 (rdOf ByteArray.empty l0 x3_1) t424 _ A18.out).mono ?_);rintro e w29 ⟨rfl,hb⟩;have n0_ := Aside0.mk (Kd.R_below (by (with_reducible repeat (first | apply Kd.R_alloc | apply Kd.R_drewN | apply Kd.R_drew));exact HO414.out) hb);have n1_ := Aside0.mk (Kd.R_below (by (with_reducible repeat (first | apply Kd.R_alloc | apply Kd.R_drewN | apply Kd.R_drew));exact HO417.out) hb);have n2_ := Aside0.mk (below_step (by repeat (first | (with_reducible first | exact HB.out | apply below_alloc | apply pw_below_drewN | apply below_drew1) | exact HB.out)) hb);clear HO414;clear HO417;clear HB;have HO414 := n0_;have HO417 := n1_;have HB := n2_;clear n0_ n1_ n2_;(try clear hb);(try clear hb2);(try clear hk);(try clear hi)))
          go_roundg k1
          case measure => have := HK1.out;omega
          case rel => exact ⟨(wrap64 (x3_1 + 1)),(by first | rfl | (simp;done) | (simp [*];done)),H',⟨by have := HK1.out;omega⟩,⟨by repeat (first | (with_reducible first | exact HB.out | apply below_alloc | apply pw_below_drewN | apply below_drew1) | exact HB.out)⟩⟩
         ·rw [if_neg c19] at H
          have c19b0 : (t423.toList == t424.toList) = false := beq_eq_false_iff_ne.mpr c19
          have c19b1 : (t423.toList != t424.toList) = true := bne_iff_ne.mpr c19
          obtain rfl := Option.some.inj H
          cases hr_
        ·rw [if_neg c16] at H
         have c16b0 : (t421 == t422) = false := beq_eq_false_iff_ne.mpr c16
         have c16b1 : (t421 != t422) = true := bne_iff_ne.mpr c16
         obtain rfl := Option.some.inj H
         cases hr_
       ·rw [if_neg c13] at H
        have c13b0 : (t419 == t420) = false := beq_eq_false_iff_ne.mpr c13
        have c13b1 : (t419 != t420) = true := bne_iff_ne.mpr c13
        obtain rfl := Option.some.inj H
        cases hr_
      ·replace c10 := Bool.eq_false_iff.mpr c10
       subst c10
       have H1 : (some false) = some r := by rw [if_neg (show ¬ (false = true) by decide)] at H;exact H
       clear H
       have H := H1
       clear H1
       obtain rfl := Option.some.inj H
       cases hr_
     ·rw [if_neg c6] at H
      exact absurd H (by simp)
    ·rw [if_neg c5] at H
     have c5b0 : decide (x3_1 < (l0.length : Int)) = false := decide_eq_false c5
     clear c5
     obtain rfl := Option.some.inj H
     go_wp2
     go_ret
     exact ⟨by first | rfl | (simp [errW_none,errW_some] <;> rfl) | (simp [*,errW_none,errW_some] <;> rfl),by repeat (first | (with_reducible first | exact HB.out | apply below_alloc | apply pw_below_drewN | apply below_drew1) | exact HB.out)⟩
 ·replace c3 := Bool.eq_false_iff.mpr c3
  subst c3
  have H1 : (some false) = some r := by rw [if_neg (show ¬ (false = true) by decide)] at H;exact H
  clear H
  have H := H1
  clear H1
  obtain rfl := Option.some.inj H
  cases hr_
end Go.Proofs.YtfhnfhgpaoddbaaDoor.U
end
section
namespace Go.Proofs.YtfhnfhgpaoddbaaDoor.Pu
open Go Go.RowKit Go.Proofs.YtfhnfhgpaoddbaaDoor.Mu Go.Proofs.YtfhnfhgpaoddbaaDoor.U Go.Proofs.YtfhnfhgpaoddbaaDoorW.PrintWords Go.Proofs.YtfhnfhgpaoddbaaDoorW.PrintLast Go.Proofs.YtfhnfhgpaoddbaaDoorW.PrintMore
theorem fixed_ans : Ev (fun k => bodkinlaw03_fixed.f k) true := Ev.of (fun k => bodkinlaw03_fixed.mono k) (k := 200) (by kernel_rfl)
end Go.Proofs.YtfhnfhgpaoddbaaDoor.Pu
end
section
namespace Go.Proofs.YtfhnfhgpaoddbaaDoor.Pu
open Go Go.RowKit Go.Proofs.YtfhnfhgpaoddbaaDoor.Mu Go.Proofs.YtfhnfhgpaoddbaaDoor.U Go.Proofs.YtfhnfhgpaoddbaaDoorW.PrintWords Go.Proofs.YtfhnfhgpaoddbaaDoorW.PrintLast Go.Proofs.YtfhnfhgpaoddbaaDoorW.PrintMore
set_option linter.unusedVariables false
theorem joined_j0 (u v x y : Int) (b : Bool) : Ev (fun k => bodkinref03_joined.j0 k b u x v y) (if b = true then true else (decide (cls v = 3) && (!decide (cls u = 1) && !decide (cls u = 2)))) := by
 refine Ev.step (fun k => bodkinref03_joined.j0.eq_2 ..) (ev_val (fun hb => ev_pos hb (Ev.now _)) (fun hb => ev_neg hb ?_))
 refine Ev.bind (ref_class_ans u) (Ev.bind (ref_class_ans v) ?_)
 by_cases h3 : cls v = 3
 ·refine ev_pos h3 ?_
  by_cases h1 : cls u = 1
  ·exact ev_pos h1 (ev_now (by simp [h1]))
  ·exact ev_neg h1 (ev_now (by by_cases h2 : cls u = 2 <;> simp [h1,h2,h3]))
 ·exact ev_neg h3 (ev_now (by simp [h3]))
theorem joined_ans (u v x y : Int) : Ev (fun k => bodkinref03_joined.f k u x v y) (glueB u v) := by
 unfold bodkinref03_joined.f
 by_cases h : u = 13
 ·refine ev_pos h ?_
  have e : glueB u v = (if (v == 10) = true then true else (decide (cls v = 3) && (!decide (cls u = 1) && !decide (cls u = 2)))) := by
   unfold glueB
   by_cases hv : v = 10 <;> simp [h,hv]
  rw [e];exact joined_j0 u v x y (v == 10)
 ·refine ev_neg h ?_
  have e : glueB u v = (if false = true then true else (decide (cls v = 3) && (!decide (cls u = 1) && !decide (cls u = 2)))) := by
   unfold glueB
   simp [h]
  rw [e];exact joined_j0 u v x y false
theorem ref_cells_ans (c : Int) : Ev (fun k => bodkinref02_Cells.f k c) (celB c) := by
 have hC : celB c = if cls c = 1 then 0 else if cls c = 4 ∨ (cls c = 2 ∧ c ≤ 127) then 2 else 1 := rfl
 unfold bodkinref02_Cells.f
 refine Ev.bind (ref_class_ans c) ?_
 by_cases h1 : cls c = 1
 ·exact ev_pos h1 (ev_now (by rw [hC,if_pos h1]))
 ·refine ev_neg h1 ?_
  by_cases h4 : cls c = 4
  ·exact ev_pos h4 (ev_now (by rw [hC,if_neg h1,if_pos (.inl h4)]))
  ·refine ev_neg h4 ?_
   by_cases h2 : cls c = 2
   ·refine ev_pos h2 ?_
    by_cases h5 : c ≤ 127
    ·exact ev_pos h5 (ev_now (by rw [hC,if_neg h1,if_pos (.inr ⟨h2,h5⟩)]))
    ·exact ev_neg h5 (ev_now (by rw [hC,if_neg h1,if_neg (by omega)]))
   ·exact ev_neg h2 (ev_now (by rw [hC,if_neg h1,if_neg (by omega)]))
theorem rd_last (L : List S53) (c : S53) : rd_T53 (L ++ [c]) (L.length : Int) = c := by
 unfold rd_T53;rw [Int.toNat_natCast,List.getD_eq_getElem?_getD];simp
theorem set_last (L : List S53) (c c' : S53) : (L ++ [c]).set L.length c' = L ++ [c'] := by simp
theorem clusL_cells (s : ByteArray) (c : S53) (hc : c ∈ clusL s) : 0 ≤ c.f3 ∧ c.f3 ≤ 2 := cluL_cells s s.size 0 c hc
attribute [local irreducible] uC uN unitsL clusL tl ctl nxt cls celB
theorem el_len (L : List S53) (c : S53) (h : L.length ≤ 1099511627776) : wrap64 ((((L ++ [c]).length : Nat) : Int) - 1) = (L.length : Int) := by
 have hl : (((L ++ [c]).length : Nat) : Int) = (L.length : Int) + 1 := by simp
 rw [hl,w64 (by omega) (by omega)];omega
theorem ref_list_loop (s : ByteArray) (hs : s.size ≤ 1099511627776) : ∀ (n x i p : Nat) (L : List S53) (cur : S53),s.size - x ≤ n → Bd s x → (unitsL s).drop i = tl s x → 0 < i → (rd_T30 (unitsL s) ((i - 1 : Nat) : Int)).f0 = uC s p → L.length + 1 ≤ i →
  Ev (fun k => bodkinref03_List.l0 k (L ++ [cur]) (unitsL s) x i) (L ++ passL s n (uC s p) cur x) := by
 have hul := unitsL_length s
 intro n
 induction n with
 | zero =>
  intro x i p L cur hn hb hd hi hp hL
  have hx : s.size ≤ x := by omega
  rw [tl_end s x hx] at hd
  have := drop_nil_le hd
  exact Ev.step (fun k => bodkinref03_List.l0.eq_2 ..) (ev_neg (by omega) (ev_now rfl))
 | succ n ih =>
  intro x i p L cur hn hb hd hi hp hL
  by_cases hx : x < s.size
  ·have h1 := uN_pos s x
   have h4 := uN_le4 s x
   have hnb := bd_next s x hb hx
   rw [tl_go s x hx] at hd
   obtain ⟨hil,hg,hd'⟩ := drop_cons (d := z30) hd
   have eg : rd_T30 (unitsL s) (i : Int) = uAt s x := by unfold rd_T30;rw [Int.toNat_natCast];exact hg
   have ei : Hid (wrap64 ((i : Int) - 1) = ((i - 1 : Nat) : Int)) := Lib.hid (by rw [w64 (by omega) (by omega)];omega)
   have ei2 : Hid (wrap64 ((i : Int) + 1) = ((i + 1 : Nat) : Int)) := Lib.hid (by rw [w64 (by omega) (by omega)];omega)
   have ex : Hid (wrap64 ((x : Int) + (uN s x : Int)) = ((x + uN s x : Nat) : Int)) := Lib.hid (by rw [w64 (by omega) (by omega)];omega)
   have hL2 : L.length ≤ 1099511627776 := by omega
   have el := Lib.hid (el_len L cur hL2)
   have hl : Hid ((((L ++ [cur]).length : Nat) : Int) = (L.length : Int) + 1) := Lib.hid (by simp)
   have hp' : (rd_T30 (unitsL s) (((i + 1) - 1 : Nat) : Int)).f0 = uC s x := by rw [show i + 1 - 1 = i by omega,eg];rfl
   refine Ev.step (fun k => bodkinref03_List.l0.eq_2 ..) (ev_pos (by omega) (ev_pos (by omega) ?_))
   rw [ei.out]
   refine ev_pos (by omega) (ev_pos (by omega) (ev_pos (by omega) ?_))
   rw [hp,eg]
   refine Ev.bind (joined_ans (uC s p) (uC s x) _ _) ?_
   rw [passL,if_pos hx]
   by_cases hgl : glueB (uC s p) (uC s x) = true
   ·rw [if_pos hgl]
    refine Ev.step (fun k => bodkinref03_List.j1.eq_2 ..) (ev_pos hgl ?_)
    rw [el.out,eg]
    refine ev_pos (by omega) (ev_pos (by rw [hl.out];omega) (ev_pos (by omega) (ev_pos (by omega) ?_)))
    rw [Int.toNat_natCast,rd_last,set_last,set_last,ei2.out]
    show Ev (fun k => if uC s x = 10 then bodkinref03_List.l0 k (L ++ [⟨cur.f0,wrap64 ((x : Int) + (uN s x : Int)),1,0⟩]) (unitsL s) (wrap64 ((x : Int) + (uN s x : Int))) ((i + 1 : Nat) : Int) else bodkinref03_List.l0 k (L ++ [⟨cur.f0,wrap64 ((x : Int) + (uN s x : Int)),cur.f2,cur.f3⟩]) (unitsL s) (wrap64 ((x : Int) + (uN s x : Int))) ((i + 1 : Nat) : Int)) _
    rw [ex.out]
    by_cases h10 : uC s x = 10
    ·rw [if_pos h10,if_pos h10]
     exact ev_pos h10 (ih (x + uN s x) (i + 1) x L _ (by omega) hnb hd' (by omega) hp' (by omega))
    ·rw [if_neg h10,if_neg h10]
     exact ev_neg h10 (ih (x + uN s x) (i + 1) x L _ (by omega) hnb hd' (by omega) hp' (by omega))
   ·rw [if_neg hgl]
    refine Ev.step (fun k => bodkinref03_List.j1.eq_2 ..) (ev_neg hgl (ev_pos (by omega) (ev_pos (by omega) ?_)))
    rw [eg]
    refine Ev.bind (ref_class_ans (uC s x)) (Ev.bind (ref_cells_ans (uC s x)) (ev_pos (by simp;omega) ?_))
    rw [ei2.out]
    show Ev (fun k => bodkinref03_List.l0 k ((L ++ [cur]) ++ [⟨(x : Int),wrap64 ((x : Int) + (uN s x : Int)),cls (uC s x),celB (uC s x)⟩]) (unitsL s) (wrap64 ((x : Int) + (uN s x : Int))) ((i + 1 : Nat) : Int)) _
    rw [ex.out]
    have := ih (x + uN s x) (i + 1) x (L ++ [cur]) ⟨(x : Int),((x + uN s x : Nat) : Int),cls (uC s x),celB (uC s x)⟩ (by omega) hnb hd' (by omega) hp' (by simp;omega)
    have e9 : L ++ cur :: passL s n (uC s x) ⟨(x : Int),((x + uN s x : Nat) : Int),cls (uC s x),celB (uC s x)⟩ (x + uN s x) = (L ++ [cur]) ++ passL s n (uC s x) ⟨(x : Int),((x + uN s x : Nat) : Int),cls (uC s x),celB (uC s x)⟩ (x + uN s x) := by simp
    rw [e9]
    exact this
  ·rw [tl_end s x (by omega)] at hd
   have := drop_nil_le hd
   rw [passL,if_neg hx]
   exact Ev.step (fun k => bodkinref03_List.l0.eq_2 ..) (ev_neg (by omega) (Ev.now _))
theorem ref_list_ans (s : ByteArray) (hs : s.size ≤ 1099511627776) : Ev (fun k => bodkinref03_List.f k s) (clusL s) := by
 have hul := unitsL_length s
 refine Ev.bind (ref_units_ans s hs) ?_
 by_cases h0 : 0 < s.size
 ·have h1 := uN_pos s 0
  have h4 := uN_le4 s 0
  have hle := uN_le s 0 h0
  have hd : (unitsL s).drop 0 = uAt s 0 :: tl s (uN s 0) := by rw [List.drop_zero,unitsL_tl,tl_go s 0 h0,Nat.zero_add]
  obtain ⟨hil,hg,hd'⟩ := drop_cons (d := z30) hd
  have eg : rd_T30 (unitsL s) (0 : Int) = uAt s 0 := by unfold rd_T30;exact hg
  have e1 : Hid (wrap64 ((0 : Int) + 1) = ((1 : Nat) : Int)) := Lib.hid (by rw [w64 (by omega) (by omega)];rfl)
  have ex : Hid (wrap64 ((0 : Int) + (uN s 0 : Int)) = ((uN s 0 : Nat) : Int)) := Lib.hid (by rw [w64 (by omega) (by omega)];omega)
  refine Ev.step (fun k => bodkinref03_List.l0.eq_2 ..) (ev_pos (by omega) (ev_neg (by omega) ?_))
  refine Ev.step (fun k => bodkinref03_List.j1.eq_2 ..) (ev_neg (by simp) (ev_pos (by omega) (ev_pos (by omega) ?_)))
  rw [eg]
  refine Ev.bind (ref_class_ans (uC s 0)) (Ev.bind (ref_cells_ans (uC s 0)) (ev_pos (by simp) ?_))
  rw [e1.out]
  show Ev (fun k => bodkinref03_List.l0 k ([] ++ [⟨0,wrap64 ((0 : Int) + (uN s 0 : Int)),cls (uC s 0),celB (uC s 0)⟩]) (unitsL s) (wrap64 ((0 : Int) + (uN s 0 : Int))) ((1 : Nat) : Int)) _
  rw [ex.out]
  have := ref_list_loop s hs s.size (uN s 0) 1 0 [] ⟨0,((uN s 0 : Nat) : Int),cls (uC s 0),celB (uC s 0)⟩ (by omega) (by have := bd_next s 0 (bd_zero s) h0;rwa [Nat.zero_add] at this) hd' (by omega) (by show (rd_T30 (unitsL s) (0 : Int)).f0 = _;rw [eg];rfl) (by simp)
  rw [List.nil_append,pass_all s h0 s.size (by omega)] at this
  exact this
 ·have : unitsL s = [] := by rw [unitsL_tl,tl_end s 0 (by omega)]
  rw [this,clusL_ctl,ctl_end s 0 (by omega)]
  exact Ev.step (fun k => bodkinref03_List.l0.eq_2 ..) (ev_neg (by simp) (Ev.now _))
theorem rd_clu (cs : List S53) (i : Nat) : rd_T53 cs (i : Int) = cs.getD i z53 := by unfold rd_T53;rw [Int.toNat_natCast]
theorem ref_ccount_ans (s : ByteArray) (hs : s.size ≤ 1099511627776) : Ev (fun k => bodkinref03_Count.f k s) ((clusL s).length : Int) := Ev.bind (ref_list_ans s hs) (Ev.now _)
theorem ref_ccells_loop (cs : List S53) (hc : cs.length ≤ 1099511627776) (hr : ∀ c ∈ cs,0 ≤ c.f3 ∧ c.f3 ≤ 2) : ∀ (l : List S53) (i : Nat) (n : Int),cs.drop i = l → 0 ≤ n → n ≤ 2 * i → Ev (fun k => bodkinref03_Cells.l0 k n cs i) (n + sumC l) := by
 intro l
 induction l with
 | nil => intro i n h _ _;have := drop_nil_le h;exact Ev.step (fun k => bodkinref03_Cells.l0.eq_2 ..) (ev_neg (by omega) (ev_now (by simp [sumC])))
 | cons c l ih =>
  intro i n h h0 h1
  obtain ⟨hi,hg,hd⟩ := drop_cons (d := z53) h
  have hm : c ∈ cs := List.mem_of_mem_drop (i := i) (by rw [h];simp)
  have h2 := hr c hm
  refine Ev.step (fun k => bodkinref03_Cells.l0.eq_2 ..) (ev_pos (by omega) (ev_pos (by omega) ?_))
  rw [rd_clu,hg,w64 (x := n + c.f3) (by omega) (by omega),w64 (by omega) (by omega),sumC,← Int.add_assoc]
  exact ih (i + 1) (n + c.f3) hd (by omega) (by omega)
theorem ref_ccells_ans (s : ByteArray) (hs : s.size ≤ 1099511627776) : Ev (fun k => bodkinref03_Cells.f k s) (sumC (clusL s)) := by
 have hl := clusL_length s
 have := Ev.bind (f := fun k t => bodkinref03_Cells.l0 k 0 t 0) (ref_list_ans s hs) (ref_ccells_loop (clusL s) (by omega) (fun c hc => clusL_cells s c hc) (clusL s) 0 0 rfl (by omega) (by omega))
 rw [Int.zero_add] at this
 exact this
theorem same_loop (l : List S53) (hl : l.length ≤ 1099511627776) : ∀ n i : Nat,i + n = l.length → Ev (fun k => bodkinlaw03_same.l0 k l l i) true := by
 intro n
 induction n with
 | zero => intro i hi;exact Ev.step (fun k => bodkinlaw03_same.l0.eq_2 ..) (ev_neg (by omega) (Ev.now _))
 | succ n ih =>
  intro i hi
  refine Ev.step (fun k => bodkinlaw03_same.l0.eq_2 ..) (ev_pos (by omega) (ev_pos (by omega) (ev_pos (by omega) (ev_neg ?_ ?_))))
  ·simp
  ·rw [w64 (by omega) (by omega)]
   exact ih (i + 1) (by omega)
theorem same_same (l : List S53) (hl : l.length ≤ 1099511627776) : Ev (fun k => bodkinlaw03_same.f k l l) true := by
 unfold bodkinlaw03_same.f
 exact ev_pos rfl (same_loop l hl l.length 0 (by omega))
end Go.Proofs.YtfhnfhgpaoddbaaDoor.Pu
end
section
namespace Go.Proofs.YtfhnfhgpaoddbaaDoor.Pure
open Go Go.RowKit Go.Proofs.YtfhnfhgpaoddbaaDoor.Mu Go.Proofs.YtfhnfhgpaoddbaaDoor.Pu Go.Proofs.YtfhnfhgpaoddbaaDoor.U Go.Proofs.YtfhnfhgpaoddbaaDoorW.PrintWords Go.Proofs.YtfhnfhgpaoddbaaDoorW.PrintLast Go.Proofs.YtfhnfhgpaoddbaaDoorW.PrintMore
set_option linter.unusedVariables false
theorem bytes_ext (a b : ByteArray) (h : a.data.toList = b.data.toList) : a = b := by
 apply ByteArray.ext
 exact Array.toList_inj.1 h
theorem caret_all : ((List.range 32).all fun k => (strOfNums [((k : Int) + 64) % 256]).data.toList == (Utf8.encode ((k : Int) + 64)).data.toList) = true := by kernel_rfl
theorem caret (k : Nat) (h : k < 32) : strOfNums [((k : Int) + 64) % 256] = Utf8.encode ((k : Int) + 64) := by
 have := List.all_eq_true.1 caret_all k (List.mem_range.2 h)
 exact bytes_ext _ _ (beq_iff_eq.1 this)
theorem drawn_ans (s : ByteArray) (hs : s.size ≤ 1099511627776) (i : Nat) (hc : CB s i) (hi : i < s.size) : bodkinref03_drawn.f (s.extract i (nxt s i)) (clsAt s i) = some (drawB s (clAt s i)) := by
 have h1 := nxt_pos s i hi
 have h2 := nxt_le s i hc.1 hi
 have hlow := ctl_low s i
 have hz : (s.extract i (nxt s i)).size = nxt s i - i := size_extract _ _ _ h2
 have hb : bt (s.extract i (nxt s i)) 0 = (byt s i : Int) := by
  have := bt_byt (s.extract i (nxt s i)) 0 (by omega)
  rw [byt_extract s i _ 0 (by omega) h2] at this
  exact this
 have e0 : (clAt s i).f0.toNat = i := Int.toNat_natCast i
 have e1 : (clAt s i).f1.toNat = nxt s i := Int.toNat_natCast _
 have e2 : (clAt s i).f2 = clsAt s i := rfl
 have hlt := byt_lt s i
 unfold bodkinref03_drawn.f drawB
 rw [e0,e1,e2,hb]
 obtain ⟨c,hcc⟩ : ∃ c,s.extract i (nxt s i) = c := ⟨_,rfl⟩
 rw [hcc] at hz ⊢
 by_cases q1 : clsAt s i = 1
 ·rw [if_pos q1,if_pos q1]
 rw [if_neg q1,if_neg q1]
 by_cases q2 : clsAt s i = 2
 ·have hlo := hlow q2
  rw [if_pos q2,if_pos q2,if_pos (by omega)]
  by_cases q7 : byt s i = 127
  ·rw [if_pos (by omega),if_pos q7]
  ·rw [if_neg (by omega),if_neg q7]
   by_cases q8 : byt s i < 32
   ·rw [if_pos (by omega),if_pos (by omega)]
    have hca := caret (byt s i) q8
    have hsz := encode_low (byt s i) (by omega)
    rw [Option.bind_some,hca,if_pos (by omega)]
   ·rw [if_neg (by omega),if_neg (by omega)]
 rw [if_neg q2,if_neg q2]
 by_cases q3 : clsAt s i = 3
 ·rw [if_pos q3,if_pos q3,if_pos (by omega)]
 rw [if_neg q3,if_neg q3]
 by_cases q5 : clsAt s i = 5
 ·have hz1 : (c.extract 1 c.size).size = c.size - 1 := size_extract _ _ _ (Nat.le_refl _)
  rw [if_pos q5,if_pos q5,if_pos (by omega),if_pos (by omega)]
 rw [if_neg q5,if_neg q5]
def intsU (s : ByteArray) (cs : List S53) : List Int := (drawU s cs).map fun b => (b.toNat : Int)
theorem intsU_snoc (s : ByteArray) (cs : List S53) (c : S53) : intsU s (cs ++ [c]) = intsU s cs ++ bytesOf (drawB s c) := by
 unfold intsU;rw [drawU_snoc,List.map_append];rfl
theorem str_ints (l : List UInt8) : strOfNums (l.map fun b => (b.toNat : Int)) = ⟨l.toArray⟩ := by
 have e : (l.map fun b => (b.toNat : Int)).map (fun n => UInt8.ofNat n.toNat) = l := by
  rw [List.map_map]
  have : ∀ b ∈ l,((fun n : Int => UInt8.ofNat n.toNat) ∘ fun b : UInt8 => (b.toNat : Int)) b = id b := fun b _ => by
   show UInt8.ofNat ((b.toNat : Int).toNat) = b
   rw [Int.toNat_natCast,UInt8.ofNat_toNat]
  rw [List.map_congr_left this,List.map_id]
 unfold strOfNums
 rw [e]
theorem ref_drawn_loop (s : ByteArray) (hs : s.size ≤ 1099511627776) : ∀ (rest pre : List S53),clusL s = pre ++ rest → Ev (fun k => bodkinref03_Drawn.l0 k s (intsU s pre) (clusL s) (pre.length : Int)) (drawnS s) := by
 have hll := clusL_length s
 intro rest
 induction rest with
 | nil =>
  intro pre h
  rw [List.append_nil] at h
  have hl : (clusL s).length = pre.length := by rw [h]
  refine Ev.step (fun k => bodkinref03_Drawn.l0.eq_2 ..) (ev_neg (by omega) (ev_now ?_))
  unfold intsU drawnS
  rw [str_ints,h]
 | cons c rest ih =>
  intro pre h
  have hl : (clusL s).length = pre.length + (rest.length + 1) := by rw [h];simp
  have hg : rd_T53 (clusL s) (pre.length : Int) = c := by rw [rd_clu,List.getD_eq_getElem?_getD,h];simp
  have hpre : pre ++ [c] <+: clusL s := ⟨rest,by rw [h];simp⟩
  have hds := draw_size s (pre ++ [c]) 0 (cb_zero s) (Nat.zero_le _) hpre
  rw [drawU_snoc,List.length_append] at hds
  obtain ⟨i,hci,hi,hc⟩ := clus_mem s s.size 0 (cb_zero s) c (by have := hpre.subset (show c ∈ pre ++ [c] by simp);exact this)
  have hn := nxt_pos s i hi
  have hle := nxt_le s i hci.1 hi
  have hda := drawn_ans s hs i hci hi
  have hnext := ih (pre ++ [c]) (by rw [h];simp)
  have e1 : wrap64 ((pre.length : Int) + 1) = ((pre ++ [c]).length : Int) := by rw [w64 (by omega) (by omega)];simp
  have hli : (intsU s pre).length = (drawU s pre).length := by unfold intsU;rw [List.length_map]
  have hdl : (drawB s c).data.toList.length = (drawB s c).size := rfl
  refine Ev.step (fun k => bodkinref03_Drawn.l0.eq_2 ..) (ev_pos (by omega) (ev_pos (by omega) ?_))
  rw [hg,hc,show clAt s i = (⟨(i : Int),(nxt s i : Int),clsAt s i,celAt s i⟩ : S53) from rfl]
  refine ev_pos (show (0 : Int) ≤ (i : Int) by omega) (ev_pos (show (i : Int) ≤ (nxt s i : Int) by omega) (ev_pos (show (nxt s i : Int) ≤ (s.size : Int) by omega) ?_))
  rw [Int.toNat_natCast,Int.toNat_natCast]
  refine ev_some hda (ev_pos ?_ ?_)
  ·rw [← hc];omega
  ·rw [e1,← hc,← intsU_snoc];exact hnext
theorem ref_drawn_ans (s : ByteArray) (hs : s.size ≤ 1099511627776) : Ev (fun k => bodkinref03_Drawn.f k s) (drawnS s) := Ev.bind (ref_list_ans s hs) (ref_drawn_loop s hs (clusL s) [] rfl)
theorem rdOf_memC (l : List ByteArray) (i : Nat) (h : i < l.length) : rdOf ByteArray.empty l (i : Int) ∈ l := by
 unfold rdOf
 rw [Int.toNat_natCast,List.getD_eq_getElem?_getD,List.getElem?_eq_getElem h]
 exact List.getElem_mem h
theorem clists_loop (L : List ByteArray) (hL : L.length ≤ 1048576) (hs : ∀ s ∈ L,s.size ≤ 1048576) : ∀ n i : Nat,i + n = L.length → Ev (fun k => bodkinlaw03_ClusterLists.l0 k L i) true := by
 intro n
 induction n with
 | zero => intro i hi;exact Ev.step (fun k => bodkinlaw03_ClusterLists.l0.eq_2 ..) (ev_neg (by omega) (Ev.now _))
 | succ n ih =>
  intro i hi
  obtain ⟨s,hq⟩ : ∃ s,rdOf ByteArray.empty L (i : Int) = s := ⟨_,rfl⟩
  have hm := hs _ (rdOf_memC L i (by omega))
  rw [hq] at hm
  have h2 : s.size ≤ 1099511627776 := by omega
  have hll := clusL_length s
  have f1 : cluster_List.f s = some (clusL s) := by unfold cluster_List.f;rw [if_pos h2]
  have f2 : cluster_Count.f s = some ((clusL s).length : Int) := by unfold cluster_Count.f;rw [if_pos h2]
  have f3 : cluster_Cells.f s = some (sumC (clusL s)) := by unfold cluster_Cells.f;rw [if_pos h2]
  have f4 : cluster_Drawn.f s = some (drawnS s) := by unfold cluster_Drawn.f;rw [if_pos h2]
  have hnext := ih (i + 1) (by omega)
  refine Ev.step (fun k => bodkinlaw03_ClusterLists.l0.eq_2 ..) (ev_pos (by omega) (ev_pos (by omega) ?_))
  rw [hq]
  refine ev_some f1 (Ev.bind (ref_list_ans s h2) (Ev.bind (same_same (clusL s) (by omega)) (ev_pos rfl (ev_some f2 (Ev.bind (ref_ccount_ans s h2) (ev_pos rfl (ev_some f3 (Ev.bind (ref_ccells_ans s h2) (ev_pos rfl (ev_some f4 (Ev.bind (ref_drawn_ans s h2) (ev_pos rfl ?_))))))))))))
  rw [w64 (by omega) (by omega)]
  exact hnext
theorem ClusterLists (l0 : List ByteArray) (u0 : l0.length ≤ 1048576) (s0 : ∀ s ∈ l0,s.size ≤ 1048576) : ∃ k,bodkinlaw03_ClusterLists.f k l0 = some true := by
 apply Ev.rounds
 unfold bodkinlaw03_ClusterLists.f
 exact Ev.bind fixed_ans (ev_pos rfl (clists_loop l0 u0 s0 l0.length 0 (by omega)))
end Go.Proofs.YtfhnfhgpaoddbaaDoor.Pure
end
section
namespace Go.Proofs.YtfhnfhgpaoddbaaDoor.Lf
open Go.Lib Go.Proofs
theorem own : ownKnob Tryd.prog.godebug = none := by kernel_rfl
theorem laidOut : laidOutB Tryd.prog = true := by kernel_rfl
theorem extra : U8Extra Tryd.prog Tryd.lays260_ren := {
 n3 := by kernel_rfl
 n4 := by kernel_rfl
 y3 := by kernel_rfl
 y4 := by kernel_rfl
 c5 := by kernel_rfl
 c119 := by kernel_rfl
 c138 := by kernel_rfl }
theorem first_eq : Rows.laid_unicode_utf8_first = Lib.firstData := by kernel_rfl
theorem accept_eq : (Rows.laid_unicode_utf8_acceptRanges : DataW Unit) = Lib.acceptData := by kernel_rfl
abbrev laid : List (String × DataW Unit) := [("unicode/utf8.acceptRanges", Rows.laid_unicode_utf8_acceptRanges), ("unicode/utf8.first", Rows.laid_unicode_utf8_first)]
/-- The two tables lie as the contracts ask. -/
theorem tabs {W : World} (h : laidMetH Tryd.prog laid W) : Lib.Utf8Tabs 0 1 W := by
  rw [MakeChecks.laidMetH_plain _ _ _ (by kernel_rfl)] at h
  have h3 := laidMet.reads h (n := "unicode/utf8.first") (d := Rows.laid_unicode_utf8_first) (List.mem_cons_of_mem _ List.mem_cons_self)
  have h4 := laidMet.reads h (n := "unicode/utf8.acceptRanges") (d := Rows.laid_unicode_utf8_acceptRanges) List.mem_cons_self
  rw [first_eq] at h3
  rw [accept_eq] at h4
  exact utf8Tabs_of_reads Tryd.lays260 extra h3 h4
/-- The world of the witness: the settled one,the tables laid. -/
noncomputable abbrev wit (os : Os) : World := World.laidAll Tryd.prog os laid
theorem wit_laid (os : Os) (args : Array Value) : laidMetH Tryd.prog laid ((wit os).forCall (fun _ _ => 0) ⟨#[],args,[]⟩).memory := by
 rw [MakeChecks.laidMetH_plain _ _ _ (by kernel_rfl)]
 exact laidMet_laidAll _ (by kernel_rfl) (by kernel_rfl)
theorem wit_shaped (os : Os) (args : Array Value) : ((wit os).forCall (fun _ _ => 0) ⟨#[],args,[]⟩).Shaped Tryd.prog :=
 World.shaped_of_ZipB (by kernel_rfl) (by kernel_rfl)
end Go.Proofs.YtfhnfhgpaoddbaaDoor.Lf
end
section
namespace Go.Proofs.YtfhnfhgpaoddbaaDoor.Lf
open Go Go.RowKit Go.ChangeShapes Go.Proofs.YtfhnfhgpaoddbaaDoorW.PrintWords Go.Proofs.YtfhnfhgpaoddbaaDoorW.PrintLast Go.Proofs.YtfhnfhgpaoddbaaDoorW.PrintMore
def IsStrs (w : World) (a : Option Addr) (len cap : Nat) (ss : List ByteArray) : Prop :=
 (a = none ∧ len = 0 ∧ cap = 0 ∧ ss = []) ∨ ∃ x,a = some x ∧ len ≤ cap ∧ cap ≤ maxLen ∧ ss.length = cap ∧ ∀ i,i < ss.length → w.cell? (x.add i) = some (.string (ss.getD i ByteArray.empty))
theorem strs_read {w : World} {a : Option Addr} {len cap : Nat} {ss : List ByteArray} (h : IsStrs w a len cap ss) : ∃ l : List ByteArray,len = l.length ∧ l = ss.take len ∧ Kd.C Kd.string w a l.length l ∧ l.length ≤ cap := by
 rcases h with ⟨rfl,rfl,rfl,rfl⟩ | ⟨x,rfl,hl,hm,hs,hc⟩
 ·refine ⟨[],rfl,rfl,Kd.C_of_reads (enc := Value.string) (d := ByteArray.empty) ⟨rfl,by simp,fun h => absurd h (by simp)⟩,Nat.le_refl _⟩
 ·have e : (ss.take len).length = len := by rw [List.length_take];omega
  refine ⟨ss.take len,e.symm,rfl,Kd.C_of_reads (enc := Value.string) (d := ByteArray.empty) ⟨rfl,by unfold maxLen at hm;omega,fun _ => ⟨x,rfl,fun j hj => ?_⟩⟩,by omega⟩
  rw [hc j (by omega)]
  simp [List.getD_eq_getElem?_getD,show j < len by omega]
end Go.Proofs.YtfhnfhgpaoddbaaDoor.Lf
end
