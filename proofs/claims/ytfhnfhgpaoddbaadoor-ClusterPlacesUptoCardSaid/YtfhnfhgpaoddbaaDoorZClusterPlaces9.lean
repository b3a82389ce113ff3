/- What the law ClusterPlaces reaches of this seat's own texts, merged; what nothing uses is left out. -/
import Derived.Test.YtfhnfhgpaoddbaaDoorProg
import Derived.Below
import Derived.Deep.Draws
import Derived.Deep.AppendLies
import Derived.Maps.AppendAt
import Derived.OwnWalk
import Derived.Laws.BytesArg
import Derived.Laws.MakeOwn
import Derived.Laws.OwnMore
import Derived.Deep.OwnRows
import Derived.Tactics
import Derived.Lib.ConvBytes
import Derived.Laws.Slices
import Derived.WalkKit
import Derived.KernelRfl
import Derived.RowKit3
import Derived.Deep.LoopGhost
import Derived.Deep.QuietTactic
import Derived.BigQuiet
import Derived.WideLaws
import Derived.Deep.DeepCutAuto
import Derived.Deep.CutBlock
import Derived.Deep.RegionHeld3
import Derived.Laws.Rows
import Derived.Lib.AppendStr
import Derived.ArgAppend
import Derived.Laws.IdiomCopy
import Derived.OrdersHeld
import Derived.Laws.BitsLemmas
import Derived.RowKit
import Derived.Shelf.Strings.Builder1
import Derived.Shelf.Small.Utf8
import Derived.Shelf.Strings.BuilderF
import Derived.Shelf.Strings.BuilderK
import Derived.Shelf.Utf8.AppendRunePlain
import Derived.Shelf.Utf8.RuneCount
import Derived.Shelf.Strings.Prefix
import Derived.Shelf.Unicode.Decode
import Derived.Shelf.Strings.RuneCount
import Derived.Shelf.Unicode.DecodeSlow
import Derived.Shelf.Unicode.DecodeAny
import Derived.Shelf.Strings.BuilderCap
import Derived.Lib.LaidU8
import Derived.RangeFuncNested
import Derived.RangeFuncBound
import Derived.RangeFuncCalls
import Derived.RangeFuncLeaves
import Derived.Lib.DecodeN
import Derived.Lib.MapLaws
import Derived.Laws.DeepStrings4
import Derived.Shelf.Unicode.DecodeLastEight
import Derived.Shelf.Abstract
import Derived.Shelf.RegionOpen
import Derived.OwnWalkIn
import Derived.TacticsInMore
import Derived.LoopNIn
import Derived.LoopIn
import Derived.Lib.Hide
import Derived.Sort.BigQuietIn
import Derived.Sort.CutIn
import Derived.Lib.Builder
import Derived.Lib.FrozenHead
import Derived.Test.YtfhnfhgpaoddbaaDoorRows
import Derived.ProofKit
import Derived.Deep.DeepHandedRow
import Derived.LaidMore
import Derived.Lay
import Derived.Deep.SlicePairs
import Derived.Test.YtfhnfhgpaoddbaaDoorWWords
import Derived.Test.YtfhnfhgpaoddbaaDoorWLast
import Derived.Test.YtfhnfhgpaoddbaaDoorWTab
import Derived.Test.YtfhnfhgpaoddbaaDoorWQPut
import Derived.Test.YtfhnfhgpaoddbaaDoorWApart
import Derived.Test.YtfhnfhgpaoddbaaDoorWArr
import Derived.Test.YtfhnfhgpaoddbaaDoorWZeros
import Derived.Test.YtfhnfhgpaoddbaaDoorWFoot
import Derived.Test.YtfhnfhgpaoddbaaDoorWKept
import Derived.Test.YtfhnfhgpaoddbaaDoorWShare
import Derived.Test.YtfhnfhgpaoddbaaDoorWN
import Derived.Test.YtfhnfhgpaoddbaaDoorWEqStruct
import Derived.Test.YtfhnfhgpaoddbaaDoorWRepsOne
import Derived.Test.YtfhnfhgpaoddbaaDoorWInv
import Derived.Test.YtfhnfhgpaoddbaaDoorWGuard
import Derived.Test.YtfhnfhgpaoddbaaDoorWNEv
import Derived.Test.YtfhnfhgpaoddbaaDoorWMore
import Derived.Test.YtfhnfhgpaoddbaaDoorZClusterPlaces0
import Derived.Test.YtfhnfhgpaoddbaaDoorZClusterPlaces1
import Derived.Test.YtfhnfhgpaoddbaaDoorZClusterPlaces2
import Derived.Test.YtfhnfhgpaoddbaaDoorZClusterPlaces4
import Derived.Test.YtfhnfhgpaoddbaaDoorZClusterPlaces5
import Derived.Test.YtfhnfhgpaoddbaaDoorZClusterPlaces6
import Derived.Test.YtfhnfhgpaoddbaaDoorZClusterPlaces8
section
namespace Go.Proofs.YtfhnfhgpaoddbaaDoor.U
open Go.RowKit Go.Proofs.YtfhnfhgpaoddbaaDoorW.PrintWords Go.Proofs.YtfhnfhgpaoddbaaDoorW.PrintLast Go.Proofs.YtfhnfhgpaoddbaaDoorW.PrintMore
attribute [local go_sem] max2_int min2_int max_two min_two max_three min_three max_four min_four   -- for this text's walks alone
set_option linter.unusedVariables false
set_option linter.unusedSimpArgs false
attribute [local go_sem high] eqA53
def bodkinlaw03_fixed.f (k : Nat)  : Option (Bool) := (bodkinlaw03_steps.f).bind fun t258 => (if t258 = true then ((cluster_List.f (⟨#[97,204,129,13,10,228,184,128,255]⟩ : ByteArray)).bind fun t259 => (if (t259.length : Int) = 4 then (if 0 < (t259.length : Int) then (if (((rd_T53 t259 0).f0) == 0 && (((rd_T53 t259 0).f1) == 3 && (((rd_T53 t259 0).f2) == 0 && (((rd_T53 t259 0).f3) == 1)))) = true then (if 1 < (t259.length : Int) then (if (((rd_T53 t259 1).f0) == 3 && (((rd_T53 t259 1).f1) == 5 && (((rd_T53 t259 1).f2) == 1 && (((rd_T53 t259 1).f3) == 0)))) = true then (if 2 < (t259.length : Int) then (if (((rd_T53 t259 2).f0) == 5 && (((rd_T53 t259 2).f1) == 8 && (((rd_T53 t259 2).f2) == 4 && (((rd_T53 t259 2).f3) == 2)))) = true then (if 3 < (t259.length : Int) then (if (((rd_T53 t259 3).f0) == 8 && (((rd_T53 t259 3).f1) == 9 && (((rd_T53 t259 3).f2) == 5 && (((rd_T53 t259 3).f3) == 1)))) = true then ((cluster_Next.f k (⟨#[97,204,129,98]⟩ : ByteArray) 0).bind fun t266 => (if t266 = 3 then ((cluster_Boundary.f k (⟨#[97,204,129,98]⟩ : ByteArray) 1).bind fun t267 => (if t267 = true then (some false) else ((cluster_Boundary.f k (⟨#[]⟩ : ByteArray) 0).bind fun t268 => (if t268 = true then ((cluster_Drawn.f (⟨#[1]⟩ : ByteArray)).bind fun t269 => (some (t269.toList == ([94,65] : List UInt8)))) else (some false))))) else (some false))) else (some false)) else (none)) else (some false)) else (none)) else (some false)) else (none)) else (some false)) else (none)) else (some false))) else (some false))
theorem bodkinlaw03_fixed.mono : ∀ k,LeO (bodkinlaw03_fixed.f k ) (bodkinlaw03_fixed.f (k + 1) ) := by
 intro  k
 unfold bodkinlaw03_fixed.f
 repeat' first
   | (with_reducible exact cluster_Boundary.mono _ _ _)
   | (with_reducible exact cluster_Next.mono _ _ _)
   | (with_reducible exact LeO.refl _)
   | (with_reducible exact LeO.none _)
   | (with_reducible refine LeO.ite ?_ ?_)
   | (with_reducible refine LeO.bind ?_ (fun _ => ?_))
   | exact cluster_Boundary.mono _ _ _
   | exact cluster_Next.mono _ _ _
   | exact LeO.none _
   | refine LeO.ite ?_ ?_
   | refine LeO.bind ?_ (fun _ => ?_)
set_option maxHeartbeats 8000000 in
set_option maxRecDepth 100000 in
theorem bodkinlaw03_fixed.calls (k : Nat)  (r : Bool) (hr_ : r = true) (w : World) (hT : Lib.Utf8Tabs 0 1 w) (h : bodkinlaw03_fixed.f k  = some r) :
  Calls Tryd.prog 39 #[] w fun e w' => e = .returned (.bool r) ∧ Below w.heap.size w w' := by
 have hu53 := Tryd.underlying53
 have HT := Aside0.mk hT
 clear hT
 have HB := Aside0.mk (Below.refl w.heap.size w)
 have H : ((bodkinlaw03_steps.f).bind fun t258 => (if t258 = true then ((cluster_List.f (⟨#[97,204,129,13,10,228,184,128,255]⟩ : ByteArray)).bind fun t259 => (if (t259.length : Int) = 4 then (if 0 < (t259.length : Int) then (if (((rd_T53 t259 0).f0) == 0 && (((rd_T53 t259 0).f1) == 3 && (((rd_T53 t259 0).f2) == 0 && (((rd_T53 t259 0).f3) == 1)))) = true then (if 1 < (t259.length : Int) then (if (((rd_T53 t259 1).f0) == 3 && (((rd_T53 t259 1).f1) == 5 && (((rd_T53 t259 1).f2) == 1 && (((rd_T53 t259 1).f3) == 0)))) = true then (if 2 < (t259.length : Int) then (if (((rd_T53 t259 2).f0) == 5 && (((rd_T53 t259 2).f1) == 8 && (((rd_T53 t259 2).f2) == 4 && (((rd_T53 t259 2).f3) == 2)))) = true then (if 3 < (t259.length : Int) then (if (((rd_T53 t259 3).f0) == 8 && (((rd_T53 t259 3).f1) == 9 && (((rd_T53 t259 3).f2) == 5 && (((rd_T53 t259 3).f3) == 1)))) = true then ((cluster_Next.f k (⟨#[97,204,129,98]⟩ : ByteArray) 0).bind fun t266 => (if t266 = 3 then ((cluster_Boundary.f k (⟨#[97,204,129,98]⟩ : ByteArray) 1).bind fun t267 => (if t267 = true then (some false) else ((cluster_Boundary.f k (⟨#[]⟩ : ByteArray) 0).bind fun t268 => (if t268 = true then ((cluster_Drawn.f (⟨#[1]⟩ : ByteArray)).bind fun t269 => (some (t269.toList == ([94,65] : List UInt8)))) else (some false))))) else (some false))) else (some false)) else (none)) else (some false)) else (none)) else (some false)) else (none)) else (some false)) else (none)) else (some false))) else (some false))) = some r := h
 clear h
 replace H := Option.bind_eq_some_iff.mp H
 obtain ⟨t258,A10,H⟩ := H
 replace H : (if t258 = true then ((cluster_List.f (⟨#[97,204,129,13,10,228,184,128,255]⟩ : ByteArray)).bind fun t259 => (if (t259.length : Int) = 4 then (if 0 < (t259.length : Int) then (if (((rd_T53 t259 0).f0) == 0 && (((rd_T53 t259 0).f1) == 3 && (((rd_T53 t259 0).f2) == 0 && (((rd_T53 t259 0).f3) == 1)))) = true then (if 1 < (t259.length : Int) then (if (((rd_T53 t259 1).f0) == 3 && (((rd_T53 t259 1).f1) == 5 && (((rd_T53 t259 1).f2) == 1 && (((rd_T53 t259 1).f3) == 0)))) = true then (if 2 < (t259.length : Int) then (if (((rd_T53 t259 2).f0) == 5 && (((rd_T53 t259 2).f1) == 8 && (((rd_T53 t259 2).f2) == 4 && (((rd_T53 t259 2).f3) == 2)))) = true then (if 3 < (t259.length : Int) then (if (((rd_T53 t259 3).f0) == 8 && (((rd_T53 t259 3).f1) == 9 && (((rd_T53 t259 3).f2) == 5 && (((rd_T53 t259 3).f3) == 1)))) = true then ((cluster_Next.f k (⟨#[97,204,129,98]⟩ : ByteArray) 0).bind fun t266 => (if t266 = 3 then ((cluster_Boundary.f k (⟨#[97,204,129,98]⟩ : ByteArray) 1).bind fun t267 => (if t267 = true then (some false) else ((cluster_Boundary.f k (⟨#[]⟩ : ByteArray) 0).bind fun t268 => (if t268 = true then ((cluster_Drawn.f (⟨#[1]⟩ : ByteArray)).bind fun t269 => (some (t269.toList == ([94,65] : List UInt8)))) else (some false))))) else (some false))) else (some false)) else (none)) else (some false)) else (none)) else (some false)) else (none)) else (some false)) else (none)) else (some false))) else (some false)) = some r := H
 have A1 := Aside0.mk A10
 clear A10
 by_cases c2 : t258 = true
 ·subst c2
  have H1 : ((cluster_List.f (⟨#[97,204,129,13,10,228,184,128,255]⟩ : ByteArray)).bind fun t259 => (if (t259.length : Int) = 4 then (if 0 < (t259.length : Int) then (if (((rd_T53 t259 0).f0) == 0 && (((rd_T53 t259 0).f1) == 3 && (((rd_T53 t259 0).f2) == 0 && (((rd_T53 t259 0).f3) == 1)))) = true then (if 1 < (t259.length : Int) then (if (((rd_T53 t259 1).f0) == 3 && (((rd_T53 t259 1).f1) == 5 && (((rd_T53 t259 1).f2) == 1 && (((rd_T53 t259 1).f3) == 0)))) = true then (if 2 < (t259.length : Int) then (if (((rd_T53 t259 2).f0) == 5 && (((rd_T53 t259 2).f1) == 8 && (((rd_T53 t259 2).f2) == 4 && (((rd_T53 t259 2).f3) == 2)))) = true then (if 3 < (t259.length : Int) then (if (((rd_T53 t259 3).f0) == 8 && (((rd_T53 t259 3).f1) == 9 && (((rd_T53 t259 3).f2) == 5 && (((rd_T53 t259 3).f3) == 1)))) = true then ((cluster_Next.f k (⟨#[97,204,129,98]⟩ : ByteArray) 0).bind fun t266 => (if t266 = 3 then ((cluster_Boundary.f k (⟨#[97,204,129,98]⟩ : ByteArray) 1).bind fun t267 => (if t267 = true then (some false) else ((cluster_Boundary.f k (⟨#[]⟩ : ByteArray) 0).bind fun t268 => (if t268 = true then ((cluster_Drawn.f (⟨#[1]⟩ : ByteArray)).bind fun t269 => (some (t269.toList == ([94,65] : List UInt8)))) else (some false))))) else (some false))) else (some false)) else (none)) else (some false)) else (none)) else (some false)) else (none)) else (some false)) else (none)) else (some false))) = some r := by rw [if_pos rfl] at H;exact H
  clear H
  have H := H1
  clear H1
  replace H := Option.bind_eq_some_iff.mp H
  obtain ⟨t259,A30,H⟩ := H
  replace H : (if (t259.length : Int) = 4 then (if 0 < (t259.length : Int) then (if (((rd_T53 t259 0).f0) == 0 && (((rd_T53 t259 0).f1) == 3 && (((rd_T53 t259 0).f2) == 0 && (((rd_T53 t259 0).f3) == 1)))) = true then (if 1 < (t259.length : Int) then (if (((rd_T53 t259 1).f0) == 3 && (((rd_T53 t259 1).f1) == 5 && (((rd_T53 t259 1).f2) == 1 && (((rd_T53 t259 1).f3) == 0)))) = true then (if 2 < (t259.length : Int) then (if (((rd_T53 t259 2).f0) == 5 && (((rd_T53 t259 2).f1) == 8 && (((rd_T53 t259 2).f2) == 4 && (((rd_T53 t259 2).f3) == 2)))) = true then (if 3 < (t259.length : Int) then (if (((rd_T53 t259 3).f0) == 8 && (((rd_T53 t259 3).f1) == 9 && (((rd_T53 t259 3).f2) == 5 && (((rd_T53 t259 3).f3) == 1)))) = true then ((cluster_Next.f k (⟨#[97,204,129,98]⟩ : ByteArray) 0).bind fun t266 => (if t266 = 3 then ((cluster_Boundary.f k (⟨#[97,204,129,98]⟩ : ByteArray) 1).bind fun t267 => (if t267 = true then (some false) else ((cluster_Boundary.f k (⟨#[]⟩ : ByteArray) 0).bind fun t268 => (if t268 = true then ((cluster_Drawn.f (⟨#[1]⟩ : ByteArray)).bind fun t269 => (some (t269.toList == ([94,65] : List UInt8)))) else (some false))))) else (some false))) else (some false)) else (none)) else (some false)) else (none)) else (some false)) else (none)) else (some false)) else (none)) else (some false)) = some r := H
  have A3 := Aside0.mk A30
  clear A30
  by_cases c4 : (t259.length : Int) = 4
  ·rw [if_pos c4] at H
   have c4b0 : ((t259.length : Int) == 4) = true := beq_iff_eq.mpr c4
   have c4b1 : ((t259.length : Int) != 4) = false := bne_eq_false_iff_eq.mpr c4
   clear c4
   by_cases c5 : 0 < (t259.length : Int)
   ·rw [if_pos c5] at H
    have c5b0 : decide (0 < (t259.length : Int)) = true := decide_eq_true c5
    have c5b1 : decide (0 < t259.length) = true := decide_eq_true (by omega)
    clear c5
    by_cases c6 : (((rd_T53 t259 0).f0) == 0 && (((rd_T53 t259 0).f1) == 3 && (((rd_T53 t259 0).f2) == 0 && (((rd_T53 t259 0).f3) == 1)))) = true
    ·rw [if_pos c6] at H
     have c6b0 : (((rd_T53 t259 0).f0) == 0 && (((rd_T53 t259 0).f1) == 3 && (((rd_T53 t259 0).f2) == 0 && (((rd_T53 t259 0).f3) == 1)))) = true := c6
     (try (have c6b1 : decide (((rd_T53 t259 0).f0) = 0 && (((rd_T53 t259 0).f1) == 3 && (((rd_T53 t259 0).f2) == 0 && (((rd_T53 t259 0).f3) == 1)))) = true := by simpa using c6))
     (try (have c6b2 : (((rd_T53 t259 0).f0) == 0 && (((rd_T53 t259 0).f1) == 3 && (((rd_T53 t259 0).f2) == 0 && (((rd_T53 t259 0).f3) == 1)))) = true := by simpa using c6))
     clear c6
     by_cases c7 : 1 < (t259.length : Int)
     ·rw [if_pos c7] at H
      have c7b0 : decide (1 < (t259.length : Int)) = true := decide_eq_true c7
      have c7b1 : decide (1 < t259.length) = true := decide_eq_true (by omega)
      clear c7
      by_cases c8 : (((rd_T53 t259 1).f0) == 3 && (((rd_T53 t259 1).f1) == 5 && (((rd_T53 t259 1).f2) == 1 && (((rd_T53 t259 1).f3) == 0)))) = true
      ·rw [if_pos c8] at H
       have c8b0 : (((rd_T53 t259 1).f0) == 3 && (((rd_T53 t259 1).f1) == 5 && (((rd_T53 t259 1).f2) == 1 && (((rd_T53 t259 1).f3) == 0)))) = true := c8
       (try (have c8b1 : decide (((rd_T53 t259 1).f0) = 3 && (((rd_T53 t259 1).f1) == 5 && (((rd_T53 t259 1).f2) == 1 && (((rd_T53 t259 1).f3) == 0)))) = true := by simpa using c8))
       (try (have c8b2 : (((rd_T53 t259 1).f0) == 3 && (((rd_T53 t259 1).f1) == 5 && (((rd_T53 t259 1).f2) == 1 && (((rd_T53 t259 1).f3) == 0)))) = true := by simpa using c8))
       clear c8
       by_cases c9 : 2 < (t259.length : Int)
       ·rw [if_pos c9] at H
        have c9b0 : decide (2 < (t259.length : Int)) = true := decide_eq_true c9
        have c9b1 : decide (2 < t259.length) = true := decide_eq_true (by omega)
        clear c9
        by_cases c10 : (((rd_T53 t259 2).f0) == 5 && (((rd_T53 t259 2).f1) == 8 && (((rd_T53 t259 2).f2) == 4 && (((rd_T53 t259 2).f3) == 2)))) = true
        ·rw [if_pos c10] at H
         have c10b0 : (((rd_T53 t259 2).f0) == 5 && (((rd_T53 t259 2).f1) == 8 && (((rd_T53 t259 2).f2) == 4 && (((rd_T53 t259 2).f3) == 2)))) = true := c10
         (try (have c10b1 : decide (((rd_T53 t259 2).f0) = 5 && (((rd_T53 t259 2).f1) == 8 && (((rd_T53 t259 2).f2) == 4 && (((rd_T53 t259 2).f3) == 2)))) = true := by simpa using c10))
         (try (have c10b2 : (((rd_T53 t259 2).f0) == 5 && (((rd_T53 t259 2).f1) == 8 && (((rd_T53 t259 2).f2) == 4 && (((rd_T53 t259 2).f3) == 2)))) = true := by simpa using c10))
         clear c10
         by_cases c11 : 3 < (t259.length : Int)
         ·rw [if_pos c11] at H
          have c11b0 : decide (3 < (t259.length : Int)) = true := decide_eq_true c11
          have c11b1 : decide (3 < t259.length) = true := decide_eq_true (by omega)
          clear c11
          by_cases c12 : (((rd_T53 t259 3).f0) == 8 && (((rd_T53 t259 3).f1) == 9 && (((rd_T53 t259 3).f2) == 5 && (((rd_T53 t259 3).f3) == 1)))) = true
          ·rw [if_pos c12] at H
           have c12b0 : (((rd_T53 t259 3).f0) == 8 && (((rd_T53 t259 3).f1) == 9 && (((rd_T53 t259 3).f2) == 5 && (((rd_T53 t259 3).f3) == 1)))) = true := c12
           (try (have c12b1 : decide (((rd_T53 t259 3).f0) = 8 && (((rd_T53 t259 3).f1) == 9 && (((rd_T53 t259 3).f2) == 5 && (((rd_T53 t259 3).f3) == 1)))) = true := by simpa using c12))
           (try (have c12b2 : (((rd_T53 t259 3).f0) == 8 && (((rd_T53 t259 3).f1) == 9 && (((rd_T53 t259 3).f2) == 5 && (((rd_T53 t259 3).f3) == 1)))) = true := by simpa using c12))
           clear c12
           replace H := Option.bind_eq_some_iff.mp H
           obtain ⟨t266,A130,H⟩ := H
           replace H : (if t266 = 3 then ((cluster_Boundary.f k (⟨#[97,204,129,98]⟩ : ByteArray) 1).bind fun t267 => (if t267 = true then (some false) else ((cluster_Boundary.f k (⟨#[]⟩ : ByteArray) 0).bind fun t268 => (if t268 = true then ((cluster_Drawn.f (⟨#[1]⟩ : ByteArray)).bind fun t269 => (some (t269.toList == ([94,65] : List UInt8)))) else (some false))))) else (some false)) = some r := H
           have A13 := Aside0.mk A130
           clear A130
           by_cases c14 : t266 = 3
           ·rw [if_pos c14] at H
            have c14b0 : (t266 == 3) = true := beq_iff_eq.mpr c14
            have c14b1 : (t266 != 3) = false := bne_eq_false_iff_eq.mpr c14
            clear c14
            replace H := Option.bind_eq_some_iff.mp H
            obtain ⟨t267,A150,H⟩ := H
            replace H : (if t267 = true then (some false) else ((cluster_Boundary.f k (⟨#[]⟩ : ByteArray) 0).bind fun t268 => (if t268 = true then ((cluster_Drawn.f (⟨#[1]⟩ : ByteArray)).bind fun t269 => (some (t269.toList == ([94,65] : List UInt8)))) else (some false)))) = some r := H
            have A15 := Aside0.mk A150
            clear A150
            by_cases c16 : t267 = true
            ·subst c16
             have H1 : (some false) = some r := by rw [if_pos rfl] at H;exact H
             clear H
             have H := H1
             clear H1
             obtain rfl := Option.some.inj H
             cases hr_
            ·replace c16 := Bool.eq_false_iff.mpr c16
             subst c16
             have H1 : ((cluster_Boundary.f k (⟨#[]⟩ : ByteArray) 0).bind fun t268 => (if t268 = true then ((cluster_Drawn.f (⟨#[1]⟩ : ByteArray)).bind fun t269 => (some (t269.toList == ([94,65] : List UInt8)))) else (some false))) = some r := by rw [if_neg (show ¬ (false = true) by decide)] at H;exact H
             clear H
             have H := H1
             clear H1
             replace H := Option.bind_eq_some_iff.mp H
             obtain ⟨t268,A220,H⟩ := H
             replace H : (if t268 = true then ((cluster_Drawn.f (⟨#[1]⟩ : ByteArray)).bind fun t269 => (some (t269.toList == ([94,65] : List UInt8)))) else (some false)) = some r := H
             have A22 := Aside0.mk A220
             clear A220
             by_cases c23 : t268 = true
             ·subst c23
              have H1 : ((cluster_Drawn.f (⟨#[1]⟩ : ByteArray)).bind fun t269 => (some (t269.toList == ([94,65] : List UInt8)))) = some r := by rw [if_pos rfl] at H;exact H
              clear H
              have H := H1
              clear H1
              replace H := Option.bind_eq_some_iff.mp H
              obtain ⟨t269,A240,H⟩ := H
              replace H : (some (t269.toList == ([94,65] : List UInt8))) = some r := H
              have A24 := Aside0.mk A240
              clear A240
              obtain rfl := Option.some.inj H
              go_enter Tryd.func39,Tryd.ntmps39
              go_wp2_with (first | ((with_reducible refine gate_callee (f := 79) rfl ?_);refine goesL_ (some 2) rfl rfl Tryd.func79 (by kernel_rfl) rfl #[] rfl (by (try simp only [List.map_toArray,List.map_cons,List.map_nil]);first | done | rfl | (simp only [List.length_drop,List.length_take];rfl)) ?_;(with_reducible refine (bodkinlaw03_steps.calls  true _ ?side1 A1.out).mono ?_);(case side1 => exact tabs_below HT.out (by repeat (first | (with_reducible first | exact HB.out | apply below_alloc | apply pw_below_drewN | apply below_drew1) | exact HB.out)));rintro e w25 ⟨rfl,hb⟩;refine ⟨_,rfl,?_⟩;have n0_ := Aside0.mk (below_step (by repeat (first | (with_reducible first | exact HB.out | apply below_alloc | apply pw_below_drewN | apply below_drew1) | exact HB.out)) hb);clear HB;have HB := n0_;clear n0_;(try clear hb);(try clear hb2);(try clear hk);(try clear hi)) | ((with_reducible refine gate_callee (f := 43) rfl ?_);refine goesL_ (some 4) rfl rfl Tryd.func43 (by kernel_rfl) rfl #[.string (⟨#[97,204,129,13,10,228,184,128,255]⟩ : ByteArray)] rfl (by (try simp only [List.map_toArray,List.map_cons,List.map_nil]);first | done | rfl | (simp only [List.length_drop,List.length_take];rfl)) ?_;(with_reducible refine (cluster_List.calls (⟨#[97,204,129,13,10,228,184,128,255]⟩ : ByteArray) t259 _ ?side1 A3.out).mono ?_);(case side1 => exact tabs_below HT.out (by repeat (first | (with_reducible first | exact HB.out | apply below_alloc | apply pw_below_drewN | apply below_drew1) | exact HB.out)));rintro e w26 ⟨v260,rfl,ho0,hb⟩;refine ⟨_,rfl,?_⟩;have n0_ := Aside0.mk (Kd.R_lower ho0 (below_size (by repeat (first | (with_reducible first | exact HB.out | apply below_alloc | apply pw_below_drewN | apply below_drew1) | exact HB.out))));have n1_ := Aside0.mk (below_step (by repeat (first | (with_reducible first | exact HB.out | apply below_alloc | apply pw_below_drewN | apply below_drew1) | exact HB.out)) hb);clear HB;have HO261 := n0_;have HB := n1_;clear n0_ n1_;(try clear hb);(try clear hb2);(try clear hk);(try clear hi);(try clear ho0);obtain ⟨Ao27,co27,eo27⟩ := Kd.R_slice HO261.out;subst eo27;have p262 : 0 ≤ (0 : Int) := (by omega);have q262 : 0 < (t259.length : Int) := of_decide_eq_true (by first | (with_reducible assumption) | assumption);obtain ⟨ad262,e262,hx262_0,hx262_1,hx262_2,hx262_3⟩ := at_T53 (Kd.R_reads' HO261.out).2.2 0 p262 q262;cases e262;have qi262 : (0 < t259.length) = True := eq_true (by omega);(try rw [show ((0 : Int)).toNat = 0 from rfl] at hx262_0);(try rw [show 0 * 4 = 0 from rfl] at hx262_0);(try rw [Addr.add_zero'] at hx262_0);(try rw [show ((0 : Int)).toNat = 0 from rfl] at hx262_1);(try rw [show 0 * 4 = 0 from rfl] at hx262_1);(try rw [Addr.add_zero'] at hx262_1);(try rw [show ((0 : Int)).toNat = 0 from rfl] at hx262_2);(try rw [show 0 * 4 = 0 from rfl] at hx262_2);(try rw [Addr.add_zero'] at hx262_2);(try rw [show ((0 : Int)).toNat = 0 from rfl] at hx262_3);(try rw [show 0 * 4 = 0 from rfl] at hx262_3);(try rw [Addr.add_zero'] at hx262_3);replace p262 := eq_true p262;replace q262 := eq_true q262;have p263 : 0 ≤ (1 : Int) := (by omega);have q263 : 1 < (t259.length : Int) := of_decide_eq_true (by first | (with_reducible assumption) | assumption);obtain ⟨ad263,e263,hx263_0,hx263_1,hx263_2,hx263_3⟩ := at_T53 (Kd.R_reads' HO261.out).2.2 1 p263 q263;obtain rfl : ad262 = ad263 := (by injection e263);(try simp only [show (1 : Int).toNat = 1 from rfl,Nat.reduceMul,Nat.reduceEqDiff,Go.Addr.add,↓reduceIte] at hx263_0);(try simp only [show (1 : Int).toNat = 1 from rfl,Nat.reduceMul,Nat.reduceEqDiff,Go.Addr.add,↓reduceIte] at hx263_1);(try simp only [show (1 : Int).toNat = 1 from rfl,Nat.reduceMul,Nat.reduceEqDiff,Go.Addr.add,↓reduceIte] at hx263_2);(try simp only [show (1 : Int).toNat = 1 from rfl,Nat.reduceMul,Nat.reduceEqDiff,Go.Addr.add,↓reduceIte] at hx263_3);have qi263 : (1 < t259.length) = True := eq_true (by omega);(try rw [show ((1 : Int)).toNat = 1 from rfl] at hx263_0);(try rw [show 1 * 4 = 4 from rfl] at hx263_0);(try rw [show ((1 : Int)).toNat = 1 from rfl] at hx263_1);(try rw [show 1 * 4 = 4 from rfl] at hx263_1);(try rw [show ((1 : Int)).toNat = 1 from rfl] at hx263_2);(try rw [show 1 * 4 = 4 from rfl] at hx263_2);(try rw [show ((1 : Int)).toNat = 1 from rfl] at hx263_3);(try rw [show 1 * 4 = 4 from rfl] at hx263_3);replace p263 := eq_true p263;replace q263 := eq_true q263;have p264 : 0 ≤ (2 : Int) := (by omega);have q264 : 2 < (t259.length : Int) := of_decide_eq_true (by first | (with_reducible assumption) | assumption);obtain ⟨ad264,e264,hx264_0,hx264_1,hx264_2,hx264_3⟩ := at_T53 (Kd.R_reads' HO261.out).2.2 2 p264 q264;obtain rfl : ad262 = ad264 := (by injection e264);(try simp only [show (2 : Int).toNat = 2 from rfl,Nat.reduceMul,Nat.reduceEqDiff,Go.Addr.add,↓reduceIte] at hx264_0);(try simp only [show (2 : Int).toNat = 2 from rfl,Nat.reduceMul,Nat.reduceEqDiff,Go.Addr.add,↓reduceIte] at hx264_1);(try simp only [show (2 : Int).toNat = 2 from rfl,Nat.reduceMul,Nat.reduceEqDiff,Go.Addr.add,↓reduceIte] at hx264_2);(try simp only [show (2 : Int).toNat = 2 from rfl,Nat.reduceMul,Nat.reduceEqDiff,Go.Addr.add,↓reduceIte] at hx264_3);have qi264 : (2 < t259.length) = True := eq_true (by omega);(try rw [show ((2 : Int)).toNat = 2 from rfl] at hx264_0);(try rw [show 2 * 4 = 8 from rfl] at hx264_0);(try rw [show ((2 : Int)).toNat = 2 from rfl] at hx264_1);(try rw [show 2 * 4 = 8 from rfl] at hx264_1);(try rw [show ((2 : Int)).toNat = 2 from rfl] at hx264_2);(try rw [show 2 * 4 = 8 from rfl] at hx264_2);(try rw [show ((2 : Int)).toNat = 2 from rfl] at hx264_3);(try rw [show 2 * 4 = 8 from rfl] at hx264_3);replace p264 := eq_true p264;replace q264 := eq_true q264;have p265 : 0 ≤ (3 : Int) := (by omega);have q265 : 3 < (t259.length : Int) := of_decide_eq_true (by first | (with_reducible assumption) | assumption);obtain ⟨ad265,e265,hx265_0,hx265_1,hx265_2,hx265_3⟩ := at_T53 (Kd.R_reads' HO261.out).2.2 3 p265 q265;obtain rfl : ad262 = ad265 := (by injection e265);(try simp only [show (3 : Int).toNat = 3 from rfl,Nat.reduceMul,Nat.reduceEqDiff,Go.Addr.add,↓reduceIte] at hx265_0);(try simp only [show (3 : Int).toNat = 3 from rfl,Nat.reduceMul,Nat.reduceEqDiff,Go.Addr.add,↓reduceIte] at hx265_1);(try simp only [show (3 : Int).toNat = 3 from rfl,Nat.reduceMul,Nat.reduceEqDiff,Go.Addr.add,↓reduceIte] at hx265_2);(try simp only [show (3 : Int).toNat = 3 from rfl,Nat.reduceMul,Nat.reduceEqDiff,Go.Addr.add,↓reduceIte] at hx265_3);have qi265 : (3 < t259.length) = True := eq_true (by omega);(try rw [show ((3 : Int)).toNat = 3 from rfl] at hx265_0);(try rw [show 3 * 4 = 12 from rfl] at hx265_0);(try rw [show ((3 : Int)).toNat = 3 from rfl] at hx265_1);(try rw [show 3 * 4 = 12 from rfl] at hx265_1);(try rw [show ((3 : Int)).toNat = 3 from rfl] at hx265_2);(try rw [show 3 * 4 = 12 from rfl] at hx265_2);(try rw [show ((3 : Int)).toNat = 3 from rfl] at hx265_3);(try rw [show 3 * 4 = 12 from rfl] at hx265_3);replace p265 := eq_true p265;replace q265 := eq_true q265) | (go_at_call 46;(with_reducible refine (cluster_Next.calls k (⟨#[97,204,129,98]⟩ : ByteArray) 0 t266 _ ?side1 A13.out).mono ?_);(case side1 => exact tabs_below HT.out (by repeat (first | (with_reducible first | exact HB.out | apply below_alloc | apply pw_below_drewN | apply below_drew1) | exact HB.out)));rintro e w28 ⟨rfl,hb⟩;have n0_ := Aside0.mk (Kd.R_below (by (with_reducible repeat (first | apply Kd.R_alloc | apply Kd.R_drewN | apply Kd.R_drew));exact HO261.out) hb);have n1_ := Aside0.mk (below_step (by repeat (first | (with_reducible first | exact HB.out | apply below_alloc | apply pw_below_drewN | apply below_drew1) | exact HB.out)) hb);clear HO261;clear HB;have HO261 := n0_;have HB := n1_;clear n0_ n1_;(try clear hb);(try clear hb2);(try clear hk);(try clear hi)) | (go_at_call 42;(with_reducible refine (cluster_Boundary.calls k (⟨#[97,204,129,98]⟩ : ByteArray) 1 false _ ?side1 A15.out).mono ?_);(case side1 => exact tabs_below HT.out (by repeat (first | (with_reducible first | exact HB.out | apply below_alloc | apply pw_below_drewN | apply below_drew1) | exact HB.out)));rintro e w29 ⟨rfl,hb⟩;have n0_ := Aside0.mk (Kd.R_below (by (with_reducible repeat (first | apply Kd.R_alloc | apply Kd.R_drewN | apply Kd.R_drew));exact HO261.out) hb);have n1_ := Aside0.mk (below_step (by repeat (first | (with_reducible first | exact HB.out | apply below_alloc | apply pw_below_drewN | apply below_drew1) | exact HB.out)) hb);clear HO261;clear HB;have HO261 := n0_;have HB := n1_;clear n0_ n1_;(try clear hb);(try clear hb2);(try clear hk);(try clear hi)) | (go_at_call 42;(with_reducible refine (cluster_Boundary.calls k (⟨#[]⟩ : ByteArray) 0 true _ ?side1 A22.out).mono ?_);(case side1 => exact tabs_below HT.out (by repeat (first | (with_reducible first | exact HB.out | apply below_alloc | apply pw_below_drewN | apply below_drew1) | exact HB.out)));rintro e w30 ⟨rfl,hb⟩;have n0_ := Aside0.mk (Kd.R_below (by (with_reducible repeat (first | apply Kd.R_alloc | apply Kd.R_drewN | apply Kd.R_drew));exact HO261.out) hb);have n1_ := Aside0.mk (below_step (by repeat (first | (with_reducible first | exact HB.out | apply below_alloc | apply pw_below_drewN | apply below_drew1) | exact HB.out)) hb);clear HO261;clear HB;have HO261 := n0_;have HB := n1_;clear n0_ n1_;(try clear hb);(try clear hb2);(try clear hk);(try clear hi)) | (go_at_call 56;(with_reducible refine (cluster_Drawn.calls (⟨#[1]⟩ : ByteArray) t269 _ ?side1 A24.out).mono ?_);(case side1 => exact tabs_below HT.out (by repeat (first | (with_reducible first | exact HB.out | apply below_alloc | apply pw_below_drewN | apply below_drew1) | exact HB.out)));rintro e w31 ⟨rfl,hb⟩;have n0_ := Aside0.mk (Kd.R_below (by (with_reducible repeat (first | apply Kd.R_alloc | apply Kd.R_drewN | apply Kd.R_drew));exact HO261.out) hb);have n1_ := Aside0.mk (below_step (by repeat (first | (with_reducible first | exact HB.out | apply below_alloc | apply pw_below_drewN | apply below_drew1) | exact HB.out)) hb);clear HO261;clear HB;have HO261 := n0_;have HB := n1_;clear n0_ n1_;(try clear hb);(try clear hb2);(try clear hk);(try clear hi)))
              go_ret
              exact ⟨by first | rfl | (simp [errW_none,errW_some] <;> rfl) | (simp [*,errW_none,errW_some] <;> rfl),by repeat (first | (with_reducible first | exact HB.out | apply below_alloc | apply pw_below_drewN | apply below_drew1) | exact HB.out)⟩
             ·replace c23 := Bool.eq_false_iff.mpr c23
              subst c23
              have H1 : (some false) = some r := by rw [if_neg (show ¬ (false = true) by decide)] at H;exact H
              clear H
              have H := H1
              clear H1
              obtain rfl := Option.some.inj H
              cases hr_
           ·rw [if_neg c14] at H
            have c14b0 : (t266 == 3) = false := beq_eq_false_iff_ne.mpr c14
            have c14b1 : (t266 != 3) = true := bne_iff_ne.mpr c14
            obtain rfl := Option.some.inj H
            cases hr_
          ·rw [if_neg c12] at H
           have c12b0 : (((rd_T53 t259 3).f0) == 8 && (((rd_T53 t259 3).f1) == 9 && (((rd_T53 t259 3).f2) == 5 && (((rd_T53 t259 3).f3) == 1)))) = false := by simpa using c12
           (try (have c12b1 : decide (((rd_T53 t259 3).f0) = 8 && (((rd_T53 t259 3).f1) == 9 && (((rd_T53 t259 3).f2) == 5 && (((rd_T53 t259 3).f3) == 1)))) = false := by simpa using c12))
           (try (have c12b2 : (((rd_T53 t259 3).f0) == 8 && (((rd_T53 t259 3).f1) == 9 && (((rd_T53 t259 3).f2) == 5 && (((rd_T53 t259 3).f3) == 1)))) = false := by simpa using c12))
           (try (have c12b3 : ¬ (((rd_T53 t259 3).f0) = 8 && (((rd_T53 t259 3).f1) == 9 && (((rd_T53 t259 3).f2) == 5 && (((rd_T53 t259 3).f3) == 1)))) := by simpa using c12))
           clear c12
           obtain rfl := Option.some.inj H
           cases hr_
         ·rw [if_neg c11] at H
          exact absurd H (by simp)
        ·rw [if_neg c10] at H
         have c10b0 : (((rd_T53 t259 2).f0) == 5 && (((rd_T53 t259 2).f1) == 8 && (((rd_T53 t259 2).f2) == 4 && (((rd_T53 t259 2).f3) == 2)))) = false := by simpa using c10
         (try (have c10b1 : decide (((rd_T53 t259 2).f0) = 5 && (((rd_T53 t259 2).f1) == 8 && (((rd_T53 t259 2).f2) == 4 && (((rd_T53 t259 2).f3) == 2)))) = false := by simpa using c10))
         (try (have c10b2 : (((rd_T53 t259 2).f0) == 5 && (((rd_T53 t259 2).f1) == 8 && (((rd_T53 t259 2).f2) == 4 && (((rd_T53 t259 2).f3) == 2)))) = false := by simpa using c10))
         (try (have c10b3 : ¬ (((rd_T53 t259 2).f0) = 5 && (((rd_T53 t259 2).f1) == 8 && (((rd_T53 t259 2).f2) == 4 && (((rd_T53 t259 2).f3) == 2)))) := by simpa using c10))
         clear c10
         obtain rfl := Option.some.inj H
         cases hr_
       ·rw [if_neg c9] at H
        exact absurd H (by simp)
      ·rw [if_neg c8] at H
       have c8b0 : (((rd_T53 t259 1).f0) == 3 && (((rd_T53 t259 1).f1) == 5 && (((rd_T53 t259 1).f2) == 1 && (((rd_T53 t259 1).f3) == 0)))) = false := by simpa using c8
       (try (have c8b1 : decide (((rd_T53 t259 1).f0) = 3 && (((rd_T53 t259 1).f1) == 5 && (((rd_T53 t259 1).f2) == 1 && (((rd_T53 t259 1).f3) == 0)))) = false := by simpa using c8))
       (try (have c8b2 : (((rd_T53 t259 1).f0) == 3 && (((rd_T53 t259 1).f1) == 5 && (((rd_T53 t259 1).f2) == 1 && (((rd_T53 t259 1).f3) == 0)))) = false := by simpa using c8))
       (try (have c8b3 : ¬ (((rd_T53 t259 1).f0) = 3 && (((rd_T53 t259 1).f1) == 5 && (((rd_T53 t259 1).f2) == 1 && (((rd_T53 t259 1).f3) == 0)))) := by simpa using c8))
       clear c8
       obtain rfl := Option.some.inj H
       cases hr_
     ·rw [if_neg c7] at H
      exact absurd H (by simp)
    ·rw [if_neg c6] at H
     have c6b0 : (((rd_T53 t259 0).f0) == 0 && (((rd_T53 t259 0).f1) == 3 && (((rd_T53 t259 0).f2) == 0 && (((rd_T53 t259 0).f3) == 1)))) = false := by simpa using c6
     (try (have c6b1 : decide (((rd_T53 t259 0).f0) = 0 && (((rd_T53 t259 0).f1) == 3 && (((rd_T53 t259 0).f2) == 0 && (((rd_T53 t259 0).f3) == 1)))) = false := by simpa using c6))
     (try (have c6b2 : (((rd_T53 t259 0).f0) == 0 && (((rd_T53 t259 0).f1) == 3 && (((rd_T53 t259 0).f2) == 0 && (((rd_T53 t259 0).f3) == 1)))) = false := by simpa using c6))
     (try (have c6b3 : ¬ (((rd_T53 t259 0).f0) = 0 && (((rd_T53 t259 0).f1) == 3 && (((rd_T53 t259 0).f2) == 0 && (((rd_T53 t259 0).f3) == 1)))) := by simpa using c6))
     clear c6
     obtain rfl := Option.some.inj H
     cases hr_
   ·rw [if_neg c5] at H
    exact absurd H (by simp)
  ·rw [if_neg c4] at H
   have c4b0 : ((t259.length : Int) == 4) = false := beq_eq_false_iff_ne.mpr c4
   have c4b1 : ((t259.length : Int) != 4) = true := bne_iff_ne.mpr c4
   obtain rfl := Option.some.inj H
   cases hr_
 ·replace c2 := Bool.eq_false_iff.mpr c2
  subst c2
  have H1 : (some false) = some r := by rw [if_neg (show ¬ (false = true) by decide)] at H;exact H
  clear H
  have H := H1
  clear H1
  obtain rfl := Option.some.inj H
  cases hr_
end Go.Proofs.YtfhnfhgpaoddbaaDoor.U
end
section
namespace Go.Proofs.YtfhnfhgpaoddbaaDoor.U
open Go.RowKit Go.Proofs.YtfhnfhgpaoddbaaDoorW.PrintWords Go.Proofs.YtfhnfhgpaoddbaaDoorW.PrintLast Go.Proofs.YtfhnfhgpaoddbaaDoorW.PrintMore
attribute [local go_sem] max2_int min2_int max_two min_two max_three min_three max_four min_four   -- for this text's walks alone
set_option linter.unusedVariables false
set_option linter.unusedSimpArgs false
def bodkinlaw03_ClusterPlaces.l0 : Nat → List (S59) → Int → Option (Bool)
 | 0,_,_ => none
 | k + 1,x0,x3 => if x3 < (x0.length : Int) then (if 0 ≤ x3 then ((cluster_Boundary.f k ((rd_T59 x0 x3).f0) ((rd_T59 x0 x3).f1)).bind fun t382 => ((bodkinref03_Boundary.f k ((rd_T59 x0 x3).f0) ((rd_T59 x0 x3).f1)).bind fun t383 => (if (t382 != t383) = true then (some false) else ((cluster_Next.f k ((rd_T59 x0 x3).f0) ((rd_T59 x0 x3).f1)).bind fun t384 => ((bodkinref03_Next.f k ((rd_T59 x0 x3).f0) ((rd_T59 x0 x3).f1)).bind fun t385 => (if t384 = t385 then ((cluster_Prev.f k ((rd_T59 x0 x3).f0) ((rd_T59 x0 x3).f1)).bind fun t386 => ((bodkinref03_Prev.f k ((rd_T59 x0 x3).f0) ((rd_T59 x0 x3).f1)).bind fun t387 => (if t386 = t387 then ((cluster_Snap.f k ((rd_T59 x0 x3).f0) ((rd_T59 x0 x3).f1)).bind fun t388 => ((bodkinref03_Snap.f k ((rd_T59 x0 x3).f0) ((rd_T59 x0 x3).f1)).bind fun t389 => (if t388 = t389 then (bodkinlaw03_ClusterPlaces.l0 k x0 (wrap64 (x3 + 1))) else (some false)))) else (some false)))) else (some false))))))) else (none)) else (some true)
def bodkinlaw03_ClusterPlaces.f (k : Nat) (l0 : List (S59)) : Option (Bool) := (bodkinlaw03_fixed.f k).bind fun t379 => (if t379 = true then (bodkinlaw03_ClusterPlaces.l0 k l0 0) else (some false))
set_option maxHeartbeats 8000000 in
set_option maxRecDepth 100000 in
theorem bodkinlaw03_ClusterPlaces.calls (k : Nat) (A0 : Option Addr) (c0 : Nat) (l0 : List (S59)) (r : Bool) (hr_ : r = true) (w : World) (hr0 : Kd.C k59 w A0 l0.length l0) (hc0 : l0.length ≤ c0) (hT : Lib.Utf8Tabs 0 1 w) (h : bodkinlaw03_ClusterPlaces.f k l0 = some r) :
  Calls Tryd.prog 16 #[.slice A0 l0.length c0] w fun e w' => e = .returned (.bool r) ∧ Below w.heap.size w w' := by
 have HT := Aside0.mk hT
 clear hT
 have HR0 := Aside0.mk hr0
 have HC0 := Aside0.mk hc0
 clear hr0 hc0
 have HB := Aside0.mk (Below.refl w.heap.size w)
 have H : ((bodkinlaw03_fixed.f k).bind fun t379 => (if t379 = true then (bodkinlaw03_ClusterPlaces.l0 k l0 0) else (some false))) = some r := h
 clear h
 replace H := Option.bind_eq_some_iff.mp H
 obtain ⟨t379,A20,H⟩ := H
 replace H : (if t379 = true then (bodkinlaw03_ClusterPlaces.l0 k l0 0) else (some false)) = some r := H
 have A2 := Aside0.mk A20
 clear A20
 by_cases c3 : t379 = true
 ·subst c3
  have H1 : (bodkinlaw03_ClusterPlaces.l0 k l0 0) = some r := by rw [if_pos rfl] at H;exact H
  clear H
  have H := H1
  clear H1
  have H' := Aside0.mk H
  clear H
  go_enter Tryd.func16,Tryd.ntmps16
  go_wp2_with (first | (go_at_call 39;(with_reducible refine (bodkinlaw03_fixed.calls k true rfl _ ?side1 A2.out).mono ?_);(case side1 => exact tabs_below HT.out (by repeat (first | (with_reducible first | exact HB.out | apply below_alloc | apply pw_below_drewN | apply below_drew1) | exact HB.out)));rintro e w4 ⟨rfl,hb⟩;have n0_ := Aside0.mk (below_step (by repeat (first | (with_reducible first | exact HB.out | apply below_alloc | apply pw_below_drewN | apply below_drew1) | exact HB.out)) hb);clear HB;have HB := n0_;clear n0_;(try clear hb);(try clear hb2);(try clear hk);(try clear hi)))
  repeat (go_quiet (first | (go_at_call 39;(with_reducible refine (bodkinlaw03_fixed.calls k true rfl _ ?side1 A2.out).mono ?_);(case side1 => exact tabs_below HT.out (by repeat (first | (with_reducible first | exact HB.out | apply below_alloc | apply pw_below_drewN | apply below_drew1) | exact HB.out)));rintro e w4 ⟨rfl,hb⟩;have n0_ := Aside0.mk (below_step (by repeat (first | (with_reducible first | exact HB.out | apply below_alloc | apply pw_below_drewN | apply below_drew1) | exact HB.out)) hb);clear HB;have HB := n0_;clear n0_;(try clear hb);(try clear hb2);(try clear hk);(try clear hi)));try go_wp2_with (first | (go_at_call 39;(with_reducible refine (bodkinlaw03_fixed.calls k true rfl _ ?side1 A2.out).mono ?_);(case side1 => exact tabs_below HT.out (by repeat (first | (with_reducible first | exact HB.out | apply below_alloc | apply pw_below_drewN | apply below_drew1) | exact HB.out)));rintro e w4 ⟨rfl,hb⟩;have n0_ := Aside0.mk (below_step (by repeat (first | (with_reducible first | exact HB.out | apply below_alloc | apply pw_below_drewN | apply below_drew1) | exact HB.out)) hb);clear HB;have HB := n0_;clear n0_;(try clear hb);(try clear hb2);(try clear hk);(try clear hi))))
  go_loopg [3] k (fun kq v3 w' => ∃ (x3_1 : Int),v3 = .int .i64 x3_1 ∧ Aside0 (bodkinlaw03_ClusterPlaces.l0 kq l0 x3_1 = some r) ∧ Aside0 (kq ≤ k) ∧ Aside0 (Below w.heap.size w w'))
  case atStart => exact ⟨(0),(by first | rfl | (simp;done) | (simp [*];done)),H',⟨Nat.le_refl _⟩,⟨by repeat (first | (with_reducible first | exact HB.out | apply below_alloc | apply pw_below_drewN | apply below_drew1) | exact HB.out)⟩⟩
  case round =>
   clear H'
   try clear c1
   try clear p2
   try clear c3
   obtain ⟨x3_1,rfl,HA,HK1,HB⟩ := hrel
   cases gk with
   | zero => exact absurd HA.out (by simp [bodkinlaw03_ClusterPlaces.l0])
   | succ k1 =>
    have H := HA.out
    clear HA
    simp only [bodkinlaw03_ClusterPlaces.l0] at H
    by_cases c5 : x3_1 < (l0.length : Int)
    ·rw [if_pos c5] at H
     have c5b0 : decide (x3_1 < (l0.length : Int)) = true := decide_eq_true c5
     clear c5
     by_cases c6 : 0 ≤ x3_1
     ·rw [if_pos c6] at H
      have c6b0 : decide (0 ≤ x3_1) = true := decide_eq_true c6
      clear c6
      replace H := Option.bind_eq_some_iff.mp H
      obtain ⟨t382,A70,H⟩ := H
      replace H : ((bodkinref03_Boundary.f k1 ((rd_T59 l0 x3_1).f0) ((rd_T59 l0 x3_1).f1)).bind fun t383 => (if (t382 != t383) = true then (some false) else ((cluster_Next.f k1 ((rd_T59 l0 x3_1).f0) ((rd_T59 l0 x3_1).f1)).bind fun t384 => ((bodkinref03_Next.f k1 ((rd_T59 l0 x3_1).f0) ((rd_T59 l0 x3_1).f1)).bind fun t385 => (if t384 = t385 then ((cluster_Prev.f k1 ((rd_T59 l0 x3_1).f0) ((rd_T59 l0 x3_1).f1)).bind fun t386 => ((bodkinref03_Prev.f k1 ((rd_T59 l0 x3_1).f0) ((rd_T59 l0 x3_1).f1)).bind fun t387 => (if t386 = t387 then ((cluster_Snap.f k1 ((rd_T59 l0 x3_1).f0) ((rd_T59 l0 x3_1).f1)).bind fun t388 => ((bodkinref03_Snap.f k1 ((rd_T59 l0 x3_1).f0) ((rd_T59 l0 x3_1).f1)).bind fun t389 => (if t388 = t389 then (bodkinlaw03_ClusterPlaces.l0 k1 l0 (wrap64 (x3_1 + 1))) else (some false)))) else (some false)))) else (some false)))))) = some r := H
      have A7 := Aside0.mk A70
      clear A70
      replace H := Option.bind_eq_some_iff.mp H
      obtain ⟨t383,A80,H⟩ := H
      replace H : (if (t382 != t383) = true then (some false) else ((cluster_Next.f k1 ((rd_T59 l0 x3_1).f0) ((rd_T59 l0 x3_1).f1)).bind fun t384 => ((bodkinref03_Next.f k1 ((rd_T59 l0 x3_1).f0) ((rd_T59 l0 x3_1).f1)).bind fun t385 => (if t384 = t385 then ((cluster_Prev.f k1 ((rd_T59 l0 x3_1).f0) ((rd_T59 l0 x3_1).f1)).bind fun t386 => ((bodkinref03_Prev.f k1 ((rd_T59 l0 x3_1).f0) ((rd_T59 l0 x3_1).f1)).bind fun t387 => (if t386 = t387 then ((cluster_Snap.f k1 ((rd_T59 l0 x3_1).f0) ((rd_T59 l0 x3_1).f1)).bind fun t388 => ((bodkinref03_Snap.f k1 ((rd_T59 l0 x3_1).f0) ((rd_T59 l0 x3_1).f1)).bind fun t389 => (if t388 = t389 then (bodkinlaw03_ClusterPlaces.l0 k1 l0 (wrap64 (x3_1 + 1))) else (some false)))) else (some false)))) else (some false))))) = some r := H
      have A8 := Aside0.mk A80
      clear A80
      by_cases c9 : (t382 != t383) = true
      ·rw [if_pos c9] at H
       have c9b0 : (t382 != t383) = true := c9
       (try (have c9b1 : decide (t382 = t383) = false := by simpa using c9))
       (try (have c9b2 : (t382 == t383) = false := by simpa using c9))
       (try (have c9b3 : ¬ (t382 = t383) := by simpa using c9))
       clear c9
       obtain rfl := Option.some.inj H
       cases hr_
      ·rw [if_neg c9] at H
       have c9b0 : (t382 != t383) = false := by simpa using c9
       (try (have c9b1 : decide (t382 = t383) = true := by simpa using c9))
       (try (have c9b2 : (t382 == t383) = true := by simpa using c9))
       clear c9
       replace H := Option.bind_eq_some_iff.mp H
       obtain ⟨t384,A120,H⟩ := H
       replace H : ((bodkinref03_Next.f k1 ((rd_T59 l0 x3_1).f0) ((rd_T59 l0 x3_1).f1)).bind fun t385 => (if t384 = t385 then ((cluster_Prev.f k1 ((rd_T59 l0 x3_1).f0) ((rd_T59 l0 x3_1).f1)).bind fun t386 => ((bodkinref03_Prev.f k1 ((rd_T59 l0 x3_1).f0) ((rd_T59 l0 x3_1).f1)).bind fun t387 => (if t386 = t387 then ((cluster_Snap.f k1 ((rd_T59 l0 x3_1).f0) ((rd_T59 l0 x3_1).f1)).bind fun t388 => ((bodkinref03_Snap.f k1 ((rd_T59 l0 x3_1).f0) ((rd_T59 l0 x3_1).f1)).bind fun t389 => (if t388 = t389 then (bodkinlaw03_ClusterPlaces.l0 k1 l0 (wrap64 (x3_1 + 1))) else (some false)))) else (some false)))) else (some false))) = some r := H
       have A12 := Aside0.mk A120
       clear A120
       replace H := Option.bind_eq_some_iff.mp H
       obtain ⟨t385,A130,H⟩ := H
       replace H : (if t384 = t385 then ((cluster_Prev.f k1 ((rd_T59 l0 x3_1).f0) ((rd_T59 l0 x3_1).f1)).bind fun t386 => ((bodkinref03_Prev.f k1 ((rd_T59 l0 x3_1).f0) ((rd_T59 l0 x3_1).f1)).bind fun t387 => (if t386 = t387 then ((cluster_Snap.f k1 ((rd_T59 l0 x3_1).f0) ((rd_T59 l0 x3_1).f1)).bind fun t388 => ((bodkinref03_Snap.f k1 ((rd_T59 l0 x3_1).f0) ((rd_T59 l0 x3_1).f1)).bind fun t389 => (if t388 = t389 then (bodkinlaw03_ClusterPlaces.l0 k1 l0 (wrap64 (x3_1 + 1))) else (some false)))) else (some false)))) else (some false)) = some r := H
       have A13 := Aside0.mk A130
       clear A130
       by_cases c14 : t384 = t385
       ·rw [if_pos c14] at H
        have c14b0 : (t384 == t385) = true := beq_iff_eq.mpr c14
        have c14b1 : (t384 != t385) = false := bne_eq_false_iff_eq.mpr c14
        clear c14
        replace H := Option.bind_eq_some_iff.mp H
        obtain ⟨t386,A150,H⟩ := H
        replace H : ((bodkinref03_Prev.f k1 ((rd_T59 l0 x3_1).f0) ((rd_T59 l0 x3_1).f1)).bind fun t387 => (if t386 = t387 then ((cluster_Snap.f k1 ((rd_T59 l0 x3_1).f0) ((rd_T59 l0 x3_1).f1)).bind fun t388 => ((bodkinref03_Snap.f k1 ((rd_T59 l0 x3_1).f0) ((rd_T59 l0 x3_1).f1)).bind fun t389 => (if t388 = t389 then (bodkinlaw03_ClusterPlaces.l0 k1 l0 (wrap64 (x3_1 + 1))) else (some false)))) else (some false))) = some r := H
        have A15 := Aside0.mk A150
        clear A150
        replace H := Option.bind_eq_some_iff.mp H
        obtain ⟨t387,A160,H⟩ := H
        replace H : (if t386 = t387 then ((cluster_Snap.f k1 ((rd_T59 l0 x3_1).f0) ((rd_T59 l0 x3_1).f1)).bind fun t388 => ((bodkinref03_Snap.f k1 ((rd_T59 l0 x3_1).f0) ((rd_T59 l0 x3_1).f1)).bind fun t389 => (if t388 = t389 then (bodkinlaw03_ClusterPlaces.l0 k1 l0 (wrap64 (x3_1 + 1))) else (some false)))) else (some false)) = some r := H
        have A16 := Aside0.mk A160
        clear A160
        by_cases c17 : t386 = t387
        ·rw [if_pos c17] at H
         have c17b0 : (t386 == t387) = true := beq_iff_eq.mpr c17
         have c17b1 : (t386 != t387) = false := bne_eq_false_iff_eq.mpr c17
         clear c17
         replace H := Option.bind_eq_some_iff.mp H
         obtain ⟨t388,A180,H⟩ := H
         replace H : ((bodkinref03_Snap.f k1 ((rd_T59 l0 x3_1).f0) ((rd_T59 l0 x3_1).f1)).bind fun t389 => (if t388 = t389 then (bodkinlaw03_ClusterPlaces.l0 k1 l0 (wrap64 (x3_1 + 1))) else (some false))) = some r := H
         have A18 := Aside0.mk A180
         clear A180
         replace H := Option.bind_eq_some_iff.mp H
         obtain ⟨t389,A190,H⟩ := H
         replace H : (if t388 = t389 then (bodkinlaw03_ClusterPlaces.l0 k1 l0 (wrap64 (x3_1 + 1))) else (some false)) = some r := H
         have A19 := Aside0.mk A190
         clear A190
         by_cases c20 : t388 = t389
         ·rw [if_pos c20] at H
          have c20b0 : (t388 == t389) = true := beq_iff_eq.mpr c20
          have c20b1 : (t388 != t389) = false := bne_eq_false_iff_eq.mpr c20
          clear c20
          have H' := Aside0.mk H
          clear H
          have p380 : 0 ≤ (x3_1 : Int) := of_decide_eq_true (by first | (with_reducible assumption) | assumption)
          have q380 : x3_1 < (l0.length : Int) := of_decide_eq_true (by first | (with_reducible assumption) | assumption)
          obtain ⟨ad380,e380,hx380_0,hx380_1⟩ := at_T59 HR0.out x3_1 p380 q380
          cases e380
          replace hx380_0 := (HB.out.cell (World.block_lt_of_cell? w _ hx380_0)).trans hx380_0
          replace hx380_1 := (HB.out.cell (World.block_lt_of_cell? w _ hx380_1)).trans hx380_1
          replace p380 := eq_true p380
          replace q380 := eq_true q380
          have p381 : 0 ≤ (x3_1 : Int) := of_decide_eq_true (by first | (with_reducible assumption) | assumption)
          have q381 : x3_1 < (l0.length : Int) := of_decide_eq_true (by first | (with_reducible assumption) | assumption)
          obtain ⟨ad381,e381,hx381_0,hx381_1⟩ := at_T59 HR0.out x3_1 p381 q381
          obtain rfl : ad380 = ad381 := (by injection e381)
          replace hx381_0 := (HB.out.cell (World.block_lt_of_cell? w _ hx381_0)).trans hx381_0
          replace hx381_1 := (HB.out.cell (World.block_lt_of_cell? w _ hx381_1)).trans hx381_1
          replace p381 := eq_true p381
          replace q381 := eq_true q381
          go_wp2_with (first | (go_at_call 42;(with_reducible refine (cluster_Boundary.calls k1 ((rd_T59 l0 x3_1).f0) ((rd_T59 l0 x3_1).f1) t382 _ ?side1 A7.out).mono ?_);(case side1 => exact tabs_below HT.out (by repeat (first | (with_reducible first | exact HB.out | apply below_alloc | apply pw_below_drewN | apply below_drew1) | exact HB.out)));rintro e w21 ⟨rfl,hb⟩;have n0_ := Aside0.mk (below_step (by repeat (first | (with_reducible first | exact HB.out | apply below_alloc | apply pw_below_drewN | apply below_drew1) | exact HB.out)) hb);clear HB;have HB := n0_;clear n0_;(try clear hb);(try clear hb2);(try clear hk);(try clear hi)) | (go_at_call 45;(with_reducible refine (bodkinref03_Boundary.calls k1 ((rd_T59 l0 x3_1).f0) ((rd_T59 l0 x3_1).f1) t383 _ A8.out).mono ?_);rintro e w22 ⟨rfl,hb⟩;have n0_ := Aside0.mk (below_step (by repeat (first | (with_reducible first | exact HB.out | apply below_alloc | apply pw_below_drewN | apply below_drew1) | exact HB.out)) hb);clear HB;have HB := n0_;clear n0_;(try clear hb);(try clear hb2);(try clear hk);(try clear hi)) | (go_at_call 46;(with_reducible refine (cluster_Next.calls k1 ((rd_T59 l0 x3_1).f0) ((rd_T59 l0 x3_1).f1) t384 _ ?side1 A12.out).mono ?_);(case side1 => exact tabs_below HT.out (by repeat (first | (with_reducible first | exact HB.out | apply below_alloc | apply pw_below_drewN | apply below_drew1) | exact HB.out)));rintro e w23 ⟨rfl,hb⟩;have n0_ := Aside0.mk (below_step (by repeat (first | (with_reducible first | exact HB.out | apply below_alloc | apply pw_below_drewN | apply below_drew1) | exact HB.out)) hb);clear HB;have HB := n0_;clear n0_;(try clear hb);(try clear hb2);(try clear hk);(try clear hi)) | (go_at_call 47;(with_reducible refine (bodkinref03_Next.calls k1 ((rd_T59 l0 x3_1).f0) ((rd_T59 l0 x3_1).f1) t385 _ A13.out).mono ?_);rintro e w24 ⟨rfl,hb⟩;have n0_ := Aside0.mk (below_step (by repeat (first | (with_reducible first | exact HB.out | apply below_alloc | apply pw_below_drewN | apply below_drew1) | exact HB.out)) hb);clear HB;have HB := n0_;clear n0_;(try clear hb);(try clear hb2);(try clear hk);(try clear hi)) | (go_at_call 48;(with_reducible refine (cluster_Prev.calls k1 ((rd_T59 l0 x3_1).f0) ((rd_T59 l0 x3_1).f1) t386 _ ?side1 A15.out).mono ?_);(case side1 => exact tabs_below HT.out (by repeat (first | (with_reducible first | exact HB.out | apply below_alloc | apply pw_below_drewN | apply below_drew1) | exact HB.out)));rintro e w25 ⟨rfl,hb⟩;have n0_ := Aside0.mk (below_step (by repeat (first | (with_reducible first | exact HB.out | apply below_alloc | apply pw_below_drewN | apply below_drew1) | exact HB.out)) hb);clear HB;have HB := n0_;clear n0_;(try clear hb);(try clear hb2);(try clear hk);(try clear hi)) | (go_at_call 49;(with_reducible refine (bodkinref03_Prev.calls k1 ((rd_T59 l0 x3_1).f0) ((rd_T59 l0 x3_1).f1) t387 _ A16.out).mono ?_);rintro e w26 ⟨rfl,hb⟩;have n0_ := Aside0.mk (below_step (by repeat (first | (with_reducible first | exact HB.out | apply below_alloc | apply pw_below_drewN | apply below_drew1) | exact HB.out)) hb);clear HB;have HB := n0_;clear n0_;(try clear hb);(try clear hb2);(try clear hk);(try clear hi)) | (go_at_call 50;(with_reducible refine (cluster_Snap.calls k1 ((rd_T59 l0 x3_1).f0) ((rd_T59 l0 x3_1).f1) t388 _ ?side1 A18.out).mono ?_);(case side1 => exact tabs_below HT.out (by repeat (first | (with_reducible first | exact HB.out | apply below_alloc | apply pw_below_drewN | apply below_drew1) | exact HB.out)));rintro e w27 ⟨rfl,hb⟩;have n0_ := Aside0.mk (below_step (by repeat (first | (with_reducible first | exact HB.out | apply below_alloc | apply pw_below_drewN | apply below_drew1) | exact HB.out)) hb);clear HB;have HB := n0_;clear n0_;(try clear hb);(try clear hb2);(try clear hk);(try clear hi)) | (go_at_call 51;(with_reducible refine (bodkinref03_Snap.calls k1 ((rd_T59 l0 x3_1).f0) ((rd_T59 l0 x3_1).f1) t389 _ A19.out).mono ?_);rintro e w28 ⟨rfl,hb⟩;have n0_ := Aside0.mk (below_step (by repeat (first | (with_reducible first | exact HB.out | apply below_alloc | apply pw_below_drewN | apply below_drew1) | exact HB.out)) hb);clear HB;have HB := n0_;clear n0_;(try clear hb);(try clear hb2);(try clear hk);(try clear hi)))
          repeat (go_quiet (first | (go_at_call 42;(with_reducible refine (cluster_Boundary.calls k1 ((rd_T59 l0 x3_1).f0) ((rd_T59 l0 x3_1).f1) t382 _ ?side1 A7.out).mono ?_);(case side1 => exact tabs_below HT.out (by repeat (first | (with_reducible first | exact HB.out | apply below_alloc | apply pw_below_drewN | apply below_drew1) | exact HB.out)));rintro e w21 ⟨rfl,hb⟩;have n0_ := Aside0.mk (below_step (by repeat (first | (with_reducible first | exact HB.out | apply below_alloc | apply pw_below_drewN | apply below_drew1) | exact HB.out)) hb);clear HB;have HB := n0_;clear n0_;(try clear hb);(try clear hb2);(try clear hk);(try clear hi)) | (go_at_call 45;(with_reducible refine (bodkinref03_Boundary.calls k1 ((rd_T59 l0 x3_1).f0) ((rd_T59 l0 x3_1).f1) t383 _ A8.out).mono ?_);rintro e w22 ⟨rfl,hb⟩;have n0_ := Aside0.mk (below_step (by repeat (first | (with_reducible first | exact HB.out | apply below_alloc | apply pw_below_drewN | apply below_drew1) | exact HB.out)) hb);clear HB;have HB := n0_;clear n0_;(try clear hb);(try clear hb2);(try clear hk);(try clear hi)) | (go_at_call 46;(with_reducible refine (cluster_Next.calls k1 ((rd_T59 l0 x3_1).f0) ((rd_T59 l0 x3_1).f1) t384 _ ?side1 A12.out).mono ?_);(case side1 => exact tabs_below HT.out (by repeat (first | (with_reducible first | exact HB.out | apply below_alloc | apply pw_below_drewN | apply below_drew1) | exact HB.out)));rintro e w23 ⟨rfl,hb⟩;have n0_ := Aside0.mk (below_step (by repeat (first | (with_reducible first | exact HB.out | apply below_alloc | apply pw_below_drewN | apply below_drew1) | exact HB.out)) hb);clear HB;have HB := n0_;clear n0_;(try clear hb);(try clear hb2);(try clear hk);(try clear hi)) | (go_at_call 47;(with_reducible refine (bodkinref03_Next.calls k1 ((rd_T59 l0 x3_1).f0) ((rd_T59 l0 x3_1).f1) t385 _ A13.out).mono ?_);rintro e w24 ⟨rfl,hb⟩;have n0_ := Aside0.mk (below_step (by repeat (first | (with_reducible first | exact HB.out | apply below_alloc | apply pw_below_drewN | apply below_drew1) | exact HB.out)) hb);clear HB;have HB := n0_;clear n0_;(try clear hb);(try clear hb2);(try clear hk);(try clear hi)) | (go_at_call 48;(with_reducible refine (cluster_Prev.calls k1 ((rd_T59 l0 x3_1).f0) ((rd_T59 l0 x3_1).f1) t386 _ ?side1 A15.out).mono ?_);(case side1 => exact tabs_below HT.out (by repeat (first | (with_reducible first | exact HB.out | apply below_alloc | apply pw_below_drewN | apply below_drew1) | exact HB.out)));rintro e w25 ⟨rfl,hb⟩;have n0_ := Aside0.mk (below_step (by repeat (first | (with_reducible first | exact HB.out | apply below_alloc | apply pw_below_drewN | apply below_drew1) | exact HB.out)) hb);clear HB;have HB := n0_;clear n0_;(try clear hb);(try clear hb2);(try clear hk);(try clear hi)) | (go_at_call 49;(with_reducible refine (bodkinref03_Prev.calls k1 ((rd_T59 l0 x3_1).f0) ((rd_T59 l0 x3_1).f1) t387 _ A16.out).mono ?_);rintro e w26 ⟨rfl,hb⟩;have n0_ := Aside0.mk (below_step (by repeat (first | (with_reducible first | exact HB.out | apply below_alloc | apply pw_below_drewN | apply below_drew1) | exact HB.out)) hb);clear HB;have HB := n0_;clear n0_;(try clear hb);(try clear hb2);(try clear hk);(try clear hi)) | (go_at_call 50;(with_reducible refine (cluster_Snap.calls k1 ((rd_T59 l0 x3_1).f0) ((rd_T59 l0 x3_1).f1) t388 _ ?side1 A18.out).mono ?_);(case side1 => exact tabs_below HT.out (by repeat (first | (with_reducible first | exact HB.out | apply below_alloc | apply pw_below_drewN | apply below_drew1) | exact HB.out)));rintro e w27 ⟨rfl,hb⟩;have n0_ := Aside0.mk (below_step (by repeat (first | (with_reducible first | exact HB.out | apply below_alloc | apply pw_below_drewN | apply below_drew1) | exact HB.out)) hb);clear HB;have HB := n0_;clear n0_;(try clear hb);(try clear hb2);(try clear hk);(try clear hi)) | (go_at_call 51;(with_reducible refine (bodkinref03_Snap.calls k1 ((rd_T59 l0 x3_1).f0) ((rd_T59 l0 x3_1).f1) t389 _ A19.out).mono ?_);rintro e w28 ⟨rfl,hb⟩;have n0_ := Aside0.mk (below_step (by repeat (first | (with_reducible first | exact HB.out | apply below_alloc | apply pw_below_drewN | apply below_drew1) | exact HB.out)) hb);clear HB;have HB := n0_;clear n0_;(try clear hb);(try clear hb2);(try clear hk);(try clear hi)));try go_wp2_with (first | (go_at_call 42;(with_reducible refine (cluster_Boundary.calls k1 ((rd_T59 l0 x3_1).f0) ((rd_T59 l0 x3_1).f1) t382 _ ?side1 A7.out).mono ?_);(case side1 => exact tabs_below HT.out (by repeat (first | (with_reducible first | exact HB.out | apply below_alloc | apply pw_below_drewN | apply below_drew1) | exact HB.out)));rintro e w21 ⟨rfl,hb⟩;have n0_ := Aside0.mk (below_step (by repeat (first | (with_reducible first | exact HB.out | apply below_alloc | apply pw_below_drewN | apply below_drew1) | exact HB.out)) hb);clear HB;have HB := n0_;clear n0_;(try clear hb);(try clear hb2);(try clear hk);(try clear hi)) | (go_at_call 45;(with_reducible refine (bodkinref03_Boundary.calls k1 ((rd_T59 l0 x3_1).f0) ((rd_T59 l0 x3_1).f1) t383 _ A8.out).mono ?_);rintro e w22 ⟨rfl,hb⟩;have n0_ := Aside0.mk (below_step (by repeat (first | (with_reducible first | exact HB.out | apply below_alloc | apply pw_below_drewN | apply below_drew1) | exact HB.out)) hb);clear HB;have HB := n0_;clear n0_;(try clear hb);(try clear hb2);(try clear hk);(try clear hi)) | (go_at_call 46;(with_reducible refine (cluster_Next.calls k1 ((rd_T59 l0 x3_1).f0) ((rd_T59 l0 x3_1).f1) t384 _ ?side1 A12.out).mono ?_);(case side1 => exact tabs_below HT.out (by repeat (first | (with_reducible first | exact HB.out | apply below_alloc | apply pw_below_drewN | apply below_drew1) | exact HB.out)));rintro e w23 ⟨rfl,hb⟩;have n0_ := Aside0.mk (below_step (by repeat (first | (with_reducible first | exact HB.out | apply below_alloc | apply pw_below_drewN | apply below_drew1) | exact HB.out)) hb);clear HB;have HB := n0_;clear n0_;(try clear hb);(try clear hb2);(try clear hk);(try clear hi)) | (go_at_call 47;(with_reducible refine (bodkinref03_Next.calls k1 ((rd_T59 l0 x3_1).f0) ((rd_T59 l0 x3_1).f1) t385 _ A13.out).mono ?_);rintro e w24 ⟨rfl,hb⟩;have n0_ := Aside0.mk (below_step (by repeat (first | (with_reducible first | exact HB.out | apply below_alloc | apply pw_below_drewN | apply below_drew1) | exact HB.out)) hb);clear HB;have HB := n0_;clear n0_;(try clear hb);(try clear hb2);(try clear hk);(try clear hi)) | (go_at_call 48;(with_reducible refine (cluster_Prev.calls k1 ((rd_T59 l0 x3_1).f0) ((rd_T59 l0 x3_1).f1) t386 _ ?side1 A15.out).mono ?_);(case side1 => exact tabs_below HT.out (by repeat (first | (with_reducible first | exact HB.out | apply below_alloc | apply pw_below_drewN | apply below_drew1) | exact HB.out)));rintro e w25 ⟨rfl,hb⟩;have n0_ := Aside0.mk (below_step (by repeat (first | (with_reducible first | exact HB.out | apply below_alloc | apply pw_below_drewN | apply below_drew1) | exact HB.out)) hb);clear HB;have HB := n0_;clear n0_;(try clear hb);(try clear hb2);(try clear hk);(try clear hi)) | (go_at_call 49;(with_reducible refine (bodkinref03_Prev.calls k1 ((rd_T59 l0 x3_1).f0) ((rd_T59 l0 x3_1).f1) t387 _ A16.out).mono ?_);rintro e w26 ⟨rfl,hb⟩;have n0_ := Aside0.mk (below_step (by repeat (first | (with_reducible first | exact HB.out | apply below_alloc | apply pw_below_drewN | apply below_drew1) | exact HB.out)) hb);clear HB;have HB := n0_;clear n0_;(try clear hb);(try clear hb2);(try clear hk);(try clear hi)) | (go_at_call 50;(with_reducible refine (cluster_Snap.calls k1 ((rd_T59 l0 x3_1).f0) ((rd_T59 l0 x3_1).f1) t388 _ ?side1 A18.out).mono ?_);(case side1 => exact tabs_below HT.out (by repeat (first | (with_reducible first | exact HB.out | apply below_alloc | apply pw_below_drewN | apply below_drew1) | exact HB.out)));rintro e w27 ⟨rfl,hb⟩;have n0_ := Aside0.mk (below_step (by repeat (first | (with_reducible first | exact HB.out | apply below_alloc | apply pw_below_drewN | apply below_drew1) | exact HB.out)) hb);clear HB;have HB := n0_;clear n0_;(try clear hb);(try clear hb2);(try clear hk);(try clear hi)) | (go_at_call 51;(with_reducible refine (bodkinref03_Snap.calls k1 ((rd_T59 l0 x3_1).f0) ((rd_T59 l0 x3_1).f1) t389 _ A19.out).mono ?_);rintro e w28 ⟨rfl,hb⟩;have n0_ := Aside0.mk (below_step (by repeat (first | (with_reducible first | exact HB.out | apply below_alloc | apply pw_below_drewN | apply below_drew1) | exact HB.out)) hb);clear HB;have HB := n0_;clear n0_;(try clear hb);(try clear hb2);(try clear hk);(try clear hi))))
          go_roundg k1
          case measure => have := HK1.out;omega
          case rel => exact ⟨(wrap64 (x3_1 + 1)),(by first | rfl | (simp;done) | (simp [*];done)),H',⟨by have := HK1.out;omega⟩,⟨by repeat (first | (with_reducible first | exact HB.out | apply below_alloc | apply pw_below_drewN | apply below_drew1) | exact HB.out)⟩⟩
         ·rw [if_neg c20] at H
          have c20b0 : (t388 == t389) = false := beq_eq_false_iff_ne.mpr c20
          have c20b1 : (t388 != t389) = true := bne_iff_ne.mpr c20
          obtain rfl := Option.some.inj H
          cases hr_
        ·rw [if_neg c17] at H
         have c17b0 : (t386 == t387) = false := beq_eq_false_iff_ne.mpr c17
         have c17b1 : (t386 != t387) = true := bne_iff_ne.mpr c17
         obtain rfl := Option.some.inj H
         cases hr_
       ·rw [if_neg c14] at H
        have c14b0 : (t384 == t385) = false := beq_eq_false_iff_ne.mpr c14
        have c14b1 : (t384 != t385) = true := bne_iff_ne.mpr c14
        obtain rfl := Option.some.inj H
        cases hr_
     ·rw [if_neg c6] at H
      exact absurd H (by simp)
    ·rw [if_neg c5] at H
     have c5b0 : decide (x3_1 < (l0.length : Int)) = false := decide_eq_false c5
     clear c5
     obtain rfl := Option.some.inj H
     go_wp2
     repeat (go_quiet (fail);try go_wp2)
     go_ret
     exact ⟨by first | rfl | (simp [errW_none,errW_some] <;> rfl) | (simp [*,errW_none,errW_some] <;> rfl),by repeat (first | (with_reducible first | exact HB.out | apply below_alloc | apply pw_below_drewN | apply below_drew1) | exact HB.out)⟩
 ·replace c3 := Bool.eq_false_iff.mpr c3
  subst c3
  have H1 : (some false) = some r := by rw [if_neg (show ¬ (false = true) by decide)] at H;exact H
  clear H
  have H := H1
  clear H1
  obtain rfl := Option.some.inj H
  cases hr_
end Go.Proofs.YtfhnfhgpaoddbaaDoor.U
end
section
namespace Go.Proofs.YtfhnfhgpaoddbaaDoor.Pu
open Go Go.RowKit Go.Proofs.YtfhnfhgpaoddbaaDoor.Mu Go.Proofs.YtfhnfhgpaoddbaaDoor.U Go.Proofs.YtfhnfhgpaoddbaaDoorW.PrintWords Go.Proofs.YtfhnfhgpaoddbaaDoorW.PrintLast Go.Proofs.YtfhnfhgpaoddbaaDoorW.PrintMore
theorem fixed_ans : Ev (fun k => bodkinlaw03_fixed.f k) true := Ev.of (fun k => bodkinlaw03_fixed.mono k) (k := 200) (by kernel_rfl)
end Go.Proofs.YtfhnfhgpaoddbaaDoor.Pu
end
section
namespace Go.Proofs.YtfhnfhgpaoddbaaDoor.Pu
open Go Go.RowKit Go.Proofs.YtfhnfhgpaoddbaaDoor.Mu Go.Proofs.YtfhnfhgpaoddbaaDoor.U Go.Proofs.YtfhnfhgpaoddbaaDoorW.PrintWords Go.Proofs.YtfhnfhgpaoddbaaDoorW.PrintLast Go.Proofs.YtfhnfhgpaoddbaaDoorW.PrintMore
set_option linter.unusedVariables false
theorem joined_j0 (u v x y : Int) (b : Bool) : Ev (fun k => bodkinref03_joined.j0 k b u x v y) (if b = true then true else (decide (cls v = 3) && (!decide (cls u = 1) && !decide (cls u = 2)))) := by
 refine Ev.step (fun k => bodkinref03_joined.j0.eq_2 ..) (ev_val (fun hb => ev_pos hb (Ev.now _)) (fun hb => ev_neg hb ?_))
 refine Ev.bind (ref_class_ans u) (Ev.bind (ref_class_ans v) ?_)
 by_cases h3 : cls v = 3
 ·refine ev_pos h3 ?_
  by_cases h1 : cls u = 1
  ·exact ev_pos h1 (ev_now (by simp [h1]))
  ·exact ev_neg h1 (ev_now (by by_cases h2 : cls u = 2 <;> simp [h1,h2,h3]))
 ·exact ev_neg h3 (ev_now (by simp [h3]))
theorem joined_ans (u v x y : Int) : Ev (fun k => bodkinref03_joined.f k u x v y) (glueB u v) := by
 unfold bodkinref03_joined.f
 by_cases h : u = 13
 ·refine ev_pos h ?_
  have e : glueB u v = (if (v == 10) = true then true else (decide (cls v = 3) && (!decide (cls u = 1) && !decide (cls u = 2)))) := by
   unfold glueB
   by_cases hv : v = 10 <;> simp [h,hv]
  rw [e];exact joined_j0 u v x y (v == 10)
 ·refine ev_neg h ?_
  have e : glueB u v = (if false = true then true else (decide (cls v = 3) && (!decide (cls u = 1) && !decide (cls u = 2)))) := by
   unfold glueB
   simp [h]
  rw [e];exact joined_j0 u v x y false
theorem ref_cells_ans (c : Int) : Ev (fun k => bodkinref02_Cells.f k c) (celB c) := by
 have hC : celB c = if cls c = 1 then 0 else if cls c = 4 ∨ (cls c = 2 ∧ c ≤ 127) then 2 else 1 := rfl
 unfold bodkinref02_Cells.f
 refine Ev.bind (ref_class_ans c) ?_
 by_cases h1 : cls c = 1
 ·exact ev_pos h1 (ev_now (by rw [hC,if_pos h1]))
 ·refine ev_neg h1 ?_
  by_cases h4 : cls c = 4
  ·exact ev_pos h4 (ev_now (by rw [hC,if_neg h1,if_pos (.inl h4)]))
  ·refine ev_neg h4 ?_
   by_cases h2 : cls c = 2
   ·refine ev_pos h2 ?_
    by_cases h5 : c ≤ 127
    ·exact ev_pos h5 (ev_now (by rw [hC,if_neg h1,if_pos (.inr ⟨h2,h5⟩)]))
    ·exact ev_neg h5 (ev_now (by rw [hC,if_neg h1,if_neg (by omega)]))
   ·exact ev_neg h2 (ev_now (by rw [hC,if_neg h1,if_neg (by omega)]))
theorem rd_last (L : List S53) (c : S53) : rd_T53 (L ++ [c]) (L.length : Int) = c := by
 unfold rd_T53;rw [Int.toNat_natCast,List.getD_eq_getElem?_getD];simp
theorem set_last (L : List S53) (c c' : S53) : (L ++ [c]).set L.length c' = L ++ [c'] := by simp
attribute [local irreducible] uC uN unitsL clusL tl ctl nxt cls celB
theorem el_len (L : List S53) (c : S53) (h : L.length ≤ 1099511627776) : wrap64 ((((L ++ [c]).length : Nat) : Int) - 1) = (L.length : Int) := by
 have hl : (((L ++ [c]).length : Nat) : Int) = (L.length : Int) + 1 := by simp
 rw [hl,w64 (by omega) (by omega)];omega
theorem ref_list_loop (s : ByteArray) (hs : s.size ≤ 1099511627776) : ∀ (n x i p : Nat) (L : List S53) (cur : S53),s.size - x ≤ n → Bd s x → (unitsL s).drop i = tl s x → 0 < i → (rd_T30 (unitsL s) ((i - 1 : Nat) : Int)).f0 = uC s p → L.length + 1 ≤ i →
  Ev (fun k => bodkinref03_List.l0 k (L ++ [cur]) (unitsL s) x i) (L ++ passL s n (uC s p) cur x) := by
 have hul := unitsL_length s
 intro n
 induction n with
 | zero =>
  intro x i p L cur hn hb hd hi hp hL
  have hx : s.size ≤ x := by omega
  rw [tl_end s x hx] at hd
  have := drop_nil_le hd
  exact Ev.step (fun k => bodkinref03_List.l0.eq_2 ..) (ev_neg (by omega) (ev_now rfl))
 | succ n ih =>
  intro x i p L cur hn hb hd hi hp hL
  by_cases hx : x < s.size
  ·have h1 := uN_pos s x
   have h4 := uN_le4 s x
   have hnb := bd_next s x hb hx
   rw [tl_go s x hx] at hd
   obtain ⟨hil,hg,hd'⟩ := drop_cons (d := z30) hd
   have eg : rd_T30 (unitsL s) (i : Int) = uAt s x := by unfold rd_T30;rw [Int.toNat_natCast];exact hg
   have ei : Hid (wrap64 ((i : Int) - 1) = ((i - 1 : Nat) : Int)) := Lib.hid (by rw [w64 (by omega) (by omega)];omega)
   have ei2 : Hid (wrap64 ((i : Int) + 1) = ((i + 1 : Nat) : Int)) := Lib.hid (by rw [w64 (by omega) (by omega)];omega)
   have ex : Hid (wrap64 ((x : Int) + (uN s x : Int)) = ((x + uN s x : Nat) : Int)) := Lib.hid (by rw [w64 (by omega) (by omega)];omega)
   have hL2 : L.length ≤ 1099511627776 := by omega
   have el := Lib.hid (el_len L cur hL2)
   have hl : Hid ((((L ++ [cur]).length : Nat) : Int) = (L.length : Int) + 1) := Lib.hid (by simp)
   have hp' : (rd_T30 (unitsL s) (((i + 1) - 1 : Nat) : Int)).f0 = uC s x := by rw [show i + 1 - 1 = i by omega,eg];rfl
   refine Ev.step (fun k => bodkinref03_List.l0.eq_2 ..) (ev_pos (by omega) (ev_pos (by omega) ?_))
   rw [ei.out]
   refine ev_pos (by omega) (ev_pos (by omega) (ev_pos (by omega) ?_))
   rw [hp,eg]
   refine Ev.bind (joined_ans (uC s p) (uC s x) _ _) ?_
   rw [passL,if_pos hx]
   by_cases hgl : glueB (uC s p) (uC s x) = true
   ·rw [if_pos hgl]
    refine Ev.step (fun k => bodkinref03_List.j1.eq_2 ..) (ev_pos hgl ?_)
    rw [el.out,eg]
    refine ev_pos (by omega) (ev_pos (by rw [hl.out];omega) (ev_pos (by omega) (ev_pos (by omega) ?_)))
    rw [Int.toNat_natCast,rd_last,set_last,set_last,ei2.out]
    show Ev (fun k => if uC s x = 10 then bodkinref03_List.l0 k (L ++ [⟨cur.f0,wrap64 ((x : Int) + (uN s x : Int)),1,0⟩]) (unitsL s) (wrap64 ((x : Int) + (uN s x : Int))) ((i + 1 : Nat) : Int) else bodkinref03_List.l0 k (L ++ [⟨cur.f0,wrap64 ((x : Int) + (uN s x : Int)),cur.f2,cur.f3⟩]) (unitsL s) (wrap64 ((x : Int) + (uN s x : Int))) ((i + 1 : Nat) : Int)) _
    rw [ex.out]
    by_cases h10 : uC s x = 10
    ·rw [if_pos h10,if_pos h10]
     exact ev_pos h10 (ih (x + uN s x) (i + 1) x L _ (by omega) hnb hd' (by omega) hp' (by omega))
    ·rw [if_neg h10,if_neg h10]
     exact ev_neg h10 (ih (x + uN s x) (i + 1) x L _ (by omega) hnb hd' (by omega) hp' (by omega))
   ·rw [if_neg hgl]
    refine Ev.step (fun k => bodkinref03_List.j1.eq_2 ..) (ev_neg hgl (ev_pos (by omega) (ev_pos (by omega) ?_)))
    rw [eg]
    refine Ev.bind (ref_class_ans (uC s x)) (Ev.bind (ref_cells_ans (uC s x)) (ev_pos (by simp;omega) ?_))
    rw [ei2.out]
    show Ev (fun k => bodkinref03_List.l0 k ((L ++ [cur]) ++ [⟨(x : Int),wrap64 ((x : Int) + (uN s x : Int)),cls (uC s x),celB (uC s x)⟩]) (unitsL s) (wrap64 ((x : Int) + (uN s x : Int))) ((i + 1 : Nat) : Int)) _
    rw [ex.out]
    have := ih (x + uN s x) (i + 1) x (L ++ [cur]) ⟨(x : Int),((x + uN s x : Nat) : Int),cls (uC s x),celB (uC s x)⟩ (by omega) hnb hd' (by omega) hp' (by simp;omega)
    have e9 : L ++ cur :: passL s n (uC s x) ⟨(x : Int),((x + uN s x : Nat) : Int),cls (uC s x),celB (uC s x)⟩ (x + uN s x) = (L ++ [cur]) ++ passL s n (uC s x) ⟨(x : Int),((x + uN s x : Nat) : Int),cls (uC s x),celB (uC s x)⟩ (x + uN s x) := by simp
    rw [e9]
    exact this
  ·rw [tl_end s x (by omega)] at hd
   have := drop_nil_le hd
   rw [passL,if_neg hx]
   exact Ev.step (fun k => bodkinref03_List.l0.eq_2 ..) (ev_neg (by omega) (Ev.now _))
theorem ref_list_ans (s : ByteArray) (hs : s.size ≤ 1099511627776) : Ev (fun k => bodkinref03_List.f k s) (clusL s) := by
 have hul := unitsL_length s
 refine Ev.bind (ref_units_ans s hs) ?_
 by_cases h0 : 0 < s.size
 ·have h1 := uN_pos s 0
  have h4 := uN_le4 s 0
  have hle := uN_le s 0 h0
  have hd : (unitsL s).drop 0 = uAt s 0 :: tl s (uN s 0) := by rw [List.drop_zero,unitsL_tl,tl_go s 0 h0,Nat.zero_add]
  obtain ⟨hil,hg,hd'⟩ := drop_cons (d := z30) hd
  have eg : rd_T30 (unitsL s) (0 : Int) = uAt s 0 := by unfold rd_T30;exact hg
  have e1 : Hid (wrap64 ((0 : Int) + 1) = ((1 : Nat) : Int)) := Lib.hid (by rw [w64 (by omega) (by omega)];rfl)
  have ex : Hid (wrap64 ((0 : Int) + (uN s 0 : Int)) = ((uN s 0 : Nat) : Int)) := Lib.hid (by rw [w64 (by omega) (by omega)];omega)
  refine Ev.step (fun k => bodkinref03_List.l0.eq_2 ..) (ev_pos (by omega) (ev_neg (by omega) ?_))
  refine Ev.step (fun k => bodkinref03_List.j1.eq_2 ..) (ev_neg (by simp) (ev_pos (by omega) (ev_pos (by omega) ?_)))
  rw [eg]
  refine Ev.bind (ref_class_ans (uC s 0)) (Ev.bind (ref_cells_ans (uC s 0)) (ev_pos (by simp) ?_))
  rw [e1.out]
  show Ev (fun k => bodkinref03_List.l0 k ([] ++ [⟨0,wrap64 ((0 : Int) + (uN s 0 : Int)),cls (uC s 0),celB (uC s 0)⟩]) (unitsL s) (wrap64 ((0 : Int) + (uN s 0 : Int))) ((1 : Nat) : Int)) _
  rw [ex.out]
  have := ref_list_loop s hs s.size (uN s 0) 1 0 [] ⟨0,((uN s 0 : Nat) : Int),cls (uC s 0),celB (uC s 0)⟩ (by omega) (by have := bd_next s 0 (bd_zero s) h0;rwa [Nat.zero_add] at this) hd' (by omega) (by show (rd_T30 (unitsL s) (0 : Int)).f0 = _;rw [eg];rfl) (by simp)
  rw [List.nil_append,pass_all s h0 s.size (by omega)] at this
  exact this
 ·have : unitsL s = [] := by rw [unitsL_tl,tl_end s 0 (by omega)]
  rw [this,clusL_ctl,ctl_end s 0 (by omega)]
  exact Ev.step (fun k => bodkinref03_List.l0.eq_2 ..) (ev_neg (by simp) (Ev.now _))
theorem rd_clu (cs : List S53) (i : Nat) : rd_T53 cs (i : Int) = cs.getD i z53 := by unfold rd_T53;rw [Int.toNat_natCast]
theorem ref_cbounds_loop (cs : List S53) (hc : cs.length ≤ 1099511627776) : ∀ (l : List S53) (i : Nat) (B : List Int),cs.drop i = l → B.length ≤ i + 1 → Ev (fun k => bodkinref03_Bounds.l0 k B cs i) (B ++ l.map (·.f1)) := by
 intro l
 induction l with
 | nil => intro i B h hB;have := drop_nil_le h;exact Ev.step (fun k => bodkinref03_Bounds.l0.eq_2 ..) (ev_neg (by omega) (ev_now (by simp)))
 | cons c l ih =>
  intro i B h hB
  obtain ⟨hi,hg,hd⟩ := drop_cons (d := z53) h
  refine Ev.step (fun k => bodkinref03_Bounds.l0.eq_2 ..) (ev_pos (by omega) (ev_pos (by omega) (ev_pos (by omega) ?_)))
  rw [rd_clu,hg,w64 (by omega) (by omega),List.map_cons]
  have := ih (i + 1) (B ++ [c.f1]) hd (by simp;omega)
  rw [List.append_assoc,List.singleton_append] at this
  exact this
theorem ref_cbounds_ans (s : ByteArray) (hs : s.size ≤ 1099511627776) : Ev (fun k => bodkinref03_Bounds.f k s) (cbndL s) := by
 have hl := clusL_length s
 have := ref_cbounds_loop (clusL s) (by omega) (clusL s) 0 [0] rfl (by simp)
 have e : ([0] : List Int) ++ (clusL s).map (·.f1) = cbndL s := by unfold cbndL cendsL;rw [← clusL_ctl];rfl
 rw [e] at this
 exact Ev.bind (ref_list_ans s hs) this
theorem ref_cboundary_loop (a : Int) (B : List Int) (hB : B.length ≤ 2199023255552) : ∀ (l : List Int) (i : Nat),B.drop i = l → Ev (fun k => bodkinref03_Boundary.l0 k a B i) (decide (a ∈ l)) := by
 intro l
 induction l with
 | nil => intro i h;have := drop_nil_le h;exact Ev.step (fun k => bodkinref03_Boundary.l0.eq_2 ..) (ev_neg (by omega) (ev_now (by simp)))
 | cons b l ih =>
  intro i h
  obtain ⟨hi,hg,hd⟩ := drop_cons (d := 0) h
  refine Ev.step (fun k => bodkinref03_Boundary.l0.eq_2 ..) (ev_pos (by omega) (ev_pos (by omega) ?_))
  rw [rd_nat,hg,w64 (by omega) (by omega)]
  by_cases hb : b = a
  ·exact ev_pos hb (ev_now (by simp [hb]))
  ·refine ev_neg hb ?_
   have := ih (i + 1) hd
   rw [show decide (a ∈ b :: l) = decide (a ∈ l) by rw [decide_eq_decide,List.mem_cons];exact ⟨fun h => h.resolve_left (fun h => hb h.symm),.inr⟩]
   exact this
theorem ref_cboundary_ans (s : ByteArray) (hs : s.size ≤ 1099511627776) (a : Int) : Ev (fun k => bodkinref03_Boundary.f k s a) (cbB s a) := by
 have hl := cbndL_length s
 have := Ev.bind (f := fun k t => bodkinref03_Boundary.l0 k a t 0) (ref_cbounds_ans s hs) (ref_cboundary_loop a (cbndL s) (by omega) (cbndL s) 0 rfl)
 rw [show cbB s a = decide (a ∈ cbndL s) by rw [Bool.eq_iff_iff,cbB_iff,decide_eq_true_eq,cbndL_mem]]
 exact this
theorem ref_cnext_loop (s : ByteArray) (a : Int) (B : List Int) (hB : B.length ≤ 2199023255552) : ∀ (l : List Int) (i : Nat),B.drop i = l → Ev (fun k => bodkinref03_Next.l0 k s a B i) (firstOf (fun b => decide (a < b)) l s.size) := by
 intro l
 induction l with
 | nil => intro i h;have := drop_nil_le h;exact Ev.step (fun k => bodkinref03_Next.l0.eq_2 ..) (ev_neg (by omega) (ev_now (by simp [firstOf])))
 | cons b l ih =>
  intro i h
  obtain ⟨hi,hg,hd⟩ := drop_cons (d := 0) h
  refine Ev.step (fun k => bodkinref03_Next.l0.eq_2 ..) (ev_pos (by omega) (ev_pos (by omega) ?_))
  rw [rd_nat,hg,w64 (by omega) (by omega),firstOf]
  by_cases hb : a < b
  ·refine ev_pos hb ?_;rw [if_pos (by simpa using hb)];exact Ev.now _
  ·refine ev_neg hb ?_;rw [if_neg (by simpa using hb)];exact ih (i + 1) hd
theorem ref_csnap_loop (s : ByteArray) (a : Int) (B : List Int) (hB : B.length ≤ 2199023255552) : ∀ (l : List Int) (i : Nat),B.drop i = l → Ev (fun k => bodkinref03_Snap.l0 k s a B i) (firstOf (fun b => decide (a ≤ b)) l s.size) := by
 intro l
 induction l with
 | nil => intro i h;have := drop_nil_le h;exact Ev.step (fun k => bodkinref03_Snap.l0.eq_2 ..) (ev_neg (by omega) (ev_now (by simp [firstOf])))
 | cons b l ih =>
  intro i h
  obtain ⟨hi,hg,hd⟩ := drop_cons (d := 0) h
  refine Ev.step (fun k => bodkinref03_Snap.l0.eq_2 ..) (ev_pos (by omega) (ev_pos (by omega) ?_))
  rw [rd_nat,hg,w64 (by omega) (by omega),firstOf]
  by_cases hb : a ≤ b
  ·refine ev_pos hb ?_;rw [if_pos (by simpa using hb)];exact Ev.now _
  ·refine ev_neg hb ?_;rw [if_neg (by simpa using hb)];exact ih (i + 1) hd
theorem ref_cnext_ans (s : ByteArray) (hs : s.size ≤ 1099511627776) (a : Int) : ∃ d,Ev (fun k => bodkinref03_Next.f k s a) d ∧ CNextS s a d := by
 have hl := cbndL_length s
 refine ⟨_,Ev.bind (f := fun k t => bodkinref03_Next.l0 k s a t 0) (ref_cbounds_ans s hs) (ref_cnext_loop s a (cbndL s) (by omega) (cbndL s) 0 rfl),?_⟩
 have hm := firstOf_mem (fun b => decide (a < b)) (cbndL s) s.size
 refine ⟨?_,?_,fun e he hea => firstOf_le _ _ _ (cbndL_sorted s) e ((cbndL_mem s e).2 he) (by simpa using hea)⟩
 ·rcases hm with h | h
  ·rw [h];exact cbI_size s
  ·exact (cbndL_mem s _).1 h.1
 ·rcases hm with h | h
  ·exact .inr h
  ·exact .inl (by simpa using h.2)
theorem ref_csnap_ans (s : ByteArray) (hs : s.size ≤ 1099511627776) (a : Int) : ∃ d,Ev (fun k => bodkinref03_Snap.f k s a) d ∧ CSnapS s a d := by
 have hl := cbndL_length s
 refine ⟨_,Ev.bind (f := fun k t => bodkinref03_Snap.l0 k s a t 0) (ref_cbounds_ans s hs) (ref_csnap_loop s a (cbndL s) (by omega) (cbndL s) 0 rfl),?_⟩
 have hm := firstOf_mem (fun b => decide (a ≤ b)) (cbndL s) s.size
 refine ⟨?_,?_,fun e he hea => firstOf_le _ _ _ (cbndL_sorted s) e ((cbndL_mem s e).2 he) (by simpa using hea)⟩
 ·rcases hm with h | h
  ·rw [h];exact cbI_size s
  ·exact (cbndL_mem s _).1 h.1
 ·rcases hm with h | h
  ·exact .inr h
  ·exact .inl (by simpa using h.2)
theorem ref_cprev_loop (a : Int) (B : List Int) (hB : B.length ≤ 2199023255552) (hsr : List.Pairwise (fun a b => a < b) B) : ∀ n : Nat,n ≤ B.length → ∃ d,Ev (fun k => bodkinref03_Prev.l0 k a B ((n : Int) - 1)) d ∧ (d = 0 ∨ (d ∈ B ∧ d < a)) ∧ ∀ e ∈ B.take n,e < a → e ≤ d ∨ d = 0 ∧ e ≤ 0 := by
 intro n
 induction n with
 | zero => intro _;exact ⟨0,Ev.step (fun k => bodkinref03_Prev.l0.eq_2 ..) (ev_neg (by omega) (Ev.now _)),.inl rfl,fun e he => by simp at he⟩
 | succ n ih =>
  intro hn
  have e1 : ((n + 1 : Nat) : Int) - 1 = (n : Int) := by omega
  have hlt : n < B.length := by omega
  have hg : rd B (n : Int) = B[n] := by rw [rd_nat,List.getD_eq_getElem?_getD,List.getElem?_eq_getElem hlt];rfl
  have htake : B.take (n + 1) = B.take n ++ [B[n]] := by rw [List.take_succ_eq_append_getElem hlt]
  rw [e1]
  by_cases hb : B[n] < a
  ·refine ⟨B[n],Ev.step (fun k => bodkinref03_Prev.l0.eq_2 ..) (ev_pos (by omega) (ev_pos (by omega) (ev_pos (by omega) ?_))),.inr ⟨List.getElem_mem hlt,hb⟩,fun e he hea => ?_⟩
   ·rw [hg];exact ev_pos hb (Ev.now _)
   ·rw [htake] at he
    have hp : List.Pairwise (fun a b => a < b) (B.take n ++ [B[n]]) := by rw [← htake];exact hsr.sublist (List.take_sublist _ _)
    rcases List.mem_append.1 he with he | he
    ·have := (List.pairwise_append.1 hp).2.2 e he B[n] (by simp);exact .inl (by omega)
    ·simp at he;exact .inl (by omega)
  ·obtain ⟨d,hE,hd,hall⟩ := ih (by omega)
   refine ⟨d,Ev.step (fun k => bodkinref03_Prev.l0.eq_2 ..) (ev_pos (by omega) (ev_pos (by omega) (ev_pos (by omega) ?_))),hd,fun e he hea => ?_⟩
   ·rw [hg,w64 (by omega) (by omega)];exact ev_neg hb hE
   ·rw [htake] at he
    rcases List.mem_append.1 he with he | he
    ·exact hall e he hea
    ·simp at he;omega
theorem ref_cprev_ans (s : ByteArray) (hs : s.size ≤ 1099511627776) (a : Int) : ∃ d,Ev (fun k => bodkinref03_Prev.f k s a) d ∧ CPrevS s a d := by
 have hl := cbndL_length s
 obtain ⟨d,hE,hd,hall⟩ := ref_cprev_loop a (cbndL s) (by omega) (cbndL_sorted s) (cbndL s).length (Nat.le_refl _)
 refine ⟨d,Ev.bind (f := fun k t => bodkinref03_Prev.l0 k a t (wrap64 ((t.length : Int) - 1))) (ref_cbounds_ans s hs) ?_,?_⟩
 ·show Ev (fun k => bodkinref03_Prev.l0 k a (cbndL s) (wrap64 (((cbndL s).length : Int) - 1))) d
  rw [w64 (by omega) (by omega)];exact hE
 ·rw [List.take_length] at hall
  refine ⟨?_,?_,fun e he hea => ?_⟩
  ·rcases hd with h | h
   ·rw [h];exact cbI_zero s
   ·exact (cbndL_mem s _).1 h.1
  ·rcases hd with h | h
   ·exact .inr h
   ·exact .inl h.2
  ·rcases hall e ((cbndL_mem s e).2 he) hea with h | h <;> omega
end Go.Proofs.YtfhnfhgpaoddbaaDoor.Pu
end
section
namespace Go.Proofs.YtfhnfhgpaoddbaaDoor.Pure
open Go Go.RowKit Go.Proofs.YtfhnfhgpaoddbaaDoor.Mu Go.Proofs.YtfhnfhgpaoddbaaDoor.Pu Go.Proofs.YtfhnfhgpaoddbaaDoor.U Go.Proofs.YtfhnfhgpaoddbaaDoorW.PrintWords Go.Proofs.YtfhnfhgpaoddbaaDoorW.PrintLast Go.Proofs.YtfhnfhgpaoddbaaDoorW.PrintMore
set_option linter.unusedVariables false
theorem places_loop (L : List S59) (hL : L.length ≤ 1048576) (hs : ∀ q ∈ L,q.f0.size ≤ 1048576) : ∀ n i : Nat,i + n = L.length → Ev (fun k => bodkinlaw03_ClusterPlaces.l0 k L i) true := by
 intro n
 induction n with
 | zero => intro i hi;exact Ev.step (fun k => bodkinlaw03_ClusterPlaces.l0.eq_2 ..) (ev_neg (by omega) (Ev.now _))
 | succ n ih =>
  intro i hi
  have hm : rd_T59 L (i : Int) ∈ L := by
   unfold rd_T59
   rw [Int.toNat_natCast,List.getD_eq_getElem?_getD,List.getElem?_eq_getElem (by omega)]
   exact List.getElem_mem _
  obtain ⟨q,hq⟩ : ∃ q,rd_T59 L (i : Int) = q := ⟨_,rfl⟩
  rw [hq] at hm
  have h1 := hs q hm
  have h2 : q.f0.size ≤ 1099511627776 := by omega
  refine Ev.step (fun k => bodkinlaw03_ClusterPlaces.l0.eq_2 ..) (ev_pos (by omega) (ev_pos (by omega) ?_))
  rw [hq]
  obtain ⟨d1,e1,h1⟩ := cnext_ans q.f0 h2 q.f1
  obtain ⟨d1',e1',h1'⟩ := ref_cnext_ans q.f0 h2 q.f1
  obtain ⟨d2,e2,h2a⟩ := cprev_ans q.f0 h2 q.f1
  obtain ⟨d2',e2',h2'⟩ := ref_cprev_ans q.f0 h2 q.f1
  obtain ⟨d3,e3,h3⟩ := csnap_ans q.f0 h2 q.f1
  obtain ⟨d3',e3',h3'⟩ := ref_csnap_ans q.f0 h2 q.f1
  refine Ev.bind (cboundary_ans q.f0 h2 q.f1) (Ev.bind (ref_cboundary_ans q.f0 h2 q.f1) (ev_neg (by simp) (Ev.bind e1 (Ev.bind e1' (ev_pos (h1.one h1') (Ev.bind e2 (Ev.bind e2' (ev_pos (h2a.one h2') (Ev.bind e3 (Ev.bind e3' (ev_pos (h3.one h3') ?_)))))))))))
  rw [w64 (by omega) (by omega)]
  exact ih (i + 1) (by omega)
theorem ClusterPlaces (l0 : List S59) (u0 : l0.length ≤ 1048576) (s0 : ∀ q ∈ l0,q.f0.size ≤ 1048576) : ∃ k,bodkinlaw03_ClusterPlaces.f k l0 = some true := by
 apply Ev.rounds
 unfold bodkinlaw03_ClusterPlaces.f
 exact Ev.bind fixed_ans (ev_pos rfl (places_loop l0 u0 s0 l0.length 0 (by omega)))
end Go.Proofs.YtfhnfhgpaoddbaaDoor.Pure
end
section
namespace Go.Proofs.YtfhnfhgpaoddbaaDoor.Lf
open Go.Lib Go.Proofs
theorem own : ownKnob Tryd.prog.godebug = none := by kernel_rfl
theorem laidOut : laidOutB Tryd.prog = true := by kernel_rfl
theorem extra : U8Extra Tryd.prog Tryd.lays260_ren := {
 n3 := by kernel_rfl
 n4 := by kernel_rfl
 y3 := by kernel_rfl
 y4 := by kernel_rfl
 c5 := by kernel_rfl
 c119 := by kernel_rfl
 c138 := by kernel_rfl }
theorem first_eq : Rows.laid_unicode_utf8_first = Lib.firstData := by kernel_rfl
theorem accept_eq : (Rows.laid_unicode_utf8_acceptRanges : DataW Unit) = Lib.acceptData := by kernel_rfl
abbrev laid : List (String × DataW Unit) := [("unicode/utf8.acceptRanges", Rows.laid_unicode_utf8_acceptRanges), ("unicode/utf8.first", Rows.laid_unicode_utf8_first)]
/-- The two tables lie as the contracts ask. -/
theorem tabs {W : World} (h : laidMetH Tryd.prog laid W) : Lib.Utf8Tabs 0 1 W := by
  rw [MakeChecks.laidMetH_plain _ _ _ (by kernel_rfl)] at h
  have h3 := laidMet.reads h (n := "unicode/utf8.first") (d := Rows.laid_unicode_utf8_first) (List.mem_cons_of_mem _ List.mem_cons_self)
  have h4 := laidMet.reads h (n := "unicode/utf8.acceptRanges") (d := Rows.laid_unicode_utf8_acceptRanges) List.mem_cons_self
  rw [first_eq] at h3
  rw [accept_eq] at h4
  exact utf8Tabs_of_reads Tryd.lays260 extra h3 h4
/-- The world of the witness: the settled one,the tables laid. -/
noncomputable abbrev wit (os : Os) : World := World.laidAll Tryd.prog os laid
theorem wit_laid (os : Os) (args : Array Value) : laidMetH Tryd.prog laid ((wit os).forCall (fun _ _ => 0) ⟨#[],args,[]⟩).memory := by
 rw [MakeChecks.laidMetH_plain _ _ _ (by kernel_rfl)]
 exact laidMet_laidAll _ (by kernel_rfl) (by kernel_rfl)
theorem wit_shaped (os : Os) (args : Array Value) : ((wit os).forCall (fun _ _ => 0) ⟨#[],args,[]⟩).Shaped Tryd.prog :=
 World.shaped_of_ZipB (by kernel_rfl) (by kernel_rfl)
end Go.Proofs.YtfhnfhgpaoddbaaDoor.Lf
end
section
namespace Go.Proofs.YtfhnfhgpaoddbaaDoor.Lf
open Go Go.RowKit Go.ChangeShapes Go.Proofs.YtfhnfhgpaoddbaaDoor.U Go.Proofs.YtfhnfhgpaoddbaaDoorW.PrintWords Go.Proofs.YtfhnfhgpaoddbaaDoorW.PrintLast Go.Proofs.YtfhnfhgpaoddbaaDoorW.PrintMore
theorem bulk_one {H : Type} (d : DataW H) : 1 ≤ Rows.uptoBulk d := by
 cases d with
 | lit l => cases l <;> simp [Rows.uptoBulk]
 | nil => simp [Rows.uptoBulk]
 | ptr d => simp [Rows.uptoBulk]
 | slice elems spare => simp [Rows.uptoBulk]
 | agg parts => simp [Rows.uptoBulk]
 | iface t d => simp [Rows.uptoBulk]
 | map entries => simp [Rows.uptoBulk]
 | held h => simp [Rows.uptoBulk]
theorem bulk_len {H : Type} (l : List (DataW H)) : l.length ≤ Rows.uptoBulkAll l := by
 induction l with
 | nil => simp [Rows.uptoBulkAll]
 | cons x r ih => have := bulk_one x;simp only [Rows.uptoBulkAll,List.length_cons];omega
theorem bulk_mem {H : Type} {x : DataW H} : ∀ {l : List (DataW H)},x ∈ l → Rows.uptoBulk x ≤ Rows.uptoBulkAll l
 | y :: r,h => by
  simp only [Rows.uptoBulkAll]
  rcases List.mem_cons.1 h with rfl | h
  ·omega
  ·have := bulk_mem h;omega
theorem asks_read {H : Type} {enc : TypeId × Value → H} {w : World} {base : Nat} {held : Bool} {fuel : Nat} {a : Option Addr} {len cap : Nat} {x : DataW H × List MemPlace}
  (h : DataW.trod enc Tryd.prog w base (fun _ => true) held fuel 57 (Value.slice a len cap).cells.toList = some x) :
  ∃ l : List S59,len = l.length ∧ Kd.C k59 w a l.length l ∧ l.length ≤ cap ∧ len ≤ Rows.uptoBulk x.1 ∧ ∀ q ∈ l,q.f0.size ≤ Rows.uptoBulk x.1 := by
 rcases Deep.open_slice_pairs Tryd.underlying57 Tryd.underlying59 (by kernel_rfl) rfl rfl (by kernel_rfl) (by kernel_rfl) h with ⟨hcs,hx⟩ | ⟨ad,l',c',m,n,V0,V1,D0,D1,P0,P1,hcs,_,hl,hm,hmm,hx,hc⟩
 ·simp [Value.cells] at hcs
  obtain ⟨rfl,rfl,rfl⟩ := hcs
  exact ⟨[],rfl,Kd.C_nil _ _,Nat.le_refl _,Nat.zero_le _,by simp⟩
 ·simp [Value.cells] at hcs
  obtain ⟨rfl,rfl,rfl⟩ := hcs
  simp only [if_true] at hmm
  subst hmm
  have hv : ∀ i,i < len → ∃ q : S59,V0 i = .string q.f0 ∧ V1 i = .int .i64 q.f1 ∧ D0 i = .lit (.string q.f0.data.toList) := by
   intro i hi
   obtain ⟨_,_,h0,h1⟩ := hc i (by omega)
   obtain ⟨s,e0,e1,_⟩ := DataW.trod_string Tryd.underlying9 h0
   obtain ⟨k,f0,f1,_⟩ := DataW.trod_int Tryd.underlying3 h1
   injection e0 with e0
   injection f0 with f0
   exact ⟨⟨s,k⟩,e0,f0,congrArg Prod.fst e1⟩
  haveI : Inhabited S59 := ⟨z59⟩
  obtain ⟨q,hq⟩ := Deep.choose_lt hv
  have hb : Rows.uptoBulkAll ((List.range len).map fun i => (.agg [D0 i,D1 i] : DataW H)) ≤ Rows.uptoBulk x.1 := by
   rw [hx]
   simp only [Rows.uptoBulk]
   omega
  refine ⟨(List.range len).map q,by simp,⟨rfl,by simp;unfold maxLen at hm;omega,fun _ => ⟨ad,rfl,fun j p hj => ?_⟩⟩,by simpa using hl,?_,fun p hp => ?_⟩
  ·rw [List.getElem?_map] at hj
   by_cases hjl : j < len
   ·rw [List.getElem?_range hjl] at hj
    obtain rfl := Option.some.inj hj
    obtain ⟨c0,c1,_⟩ := hc j (by omega)
    obtain ⟨e0,e1,_⟩ := hq j hjl
    refine ⟨_,rfl,k59_mk w (q j),fun i u hu => ?_⟩
    match i,hu with
    | 0,hu => obtain rfl := Option.some.inj hu;rw [e0] at c0;exact c0
    | 1,hu => obtain rfl := Option.some.inj hu;rw [e1] at c1;exact c1
    | (i + 2),hu => simp at hu
   ·rw [List.getElem?_eq_none (by simpa using hjl)] at hj
    cases hj
  ·refine Nat.le_trans ?_ hb
   refine Nat.le_trans (Nat.le_of_eq ?_) (bulk_len _)
   simp
  ·obtain ⟨i,hi,rfl⟩ := List.mem_map.1 hp
   have hi := List.mem_range.1 hi
   have h1 := bulk_mem (l := (List.range len).map fun i => (.agg [D0 i,D1 i] : DataW H)) (List.mem_map_of_mem (List.mem_range.2 hi))
   simp only [Rows.uptoBulk,Rows.uptoBulkAll] at h1
   rw [(hq i hi).2.2] at h1
   have e : Rows.uptoBulk (DataW.lit (H := H) (.string (q i).f0.data.toList)) = (q i).f0.size + 1 := by simp [Rows.uptoBulk]
   omega
end Go.Proofs.YtfhnfhgpaoddbaaDoor.Lf
end
