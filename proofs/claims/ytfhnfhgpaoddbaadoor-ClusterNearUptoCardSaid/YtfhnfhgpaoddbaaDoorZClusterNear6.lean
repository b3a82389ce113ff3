/- What the law ClusterNear reaches of this seat's own texts, merged; what nothing uses is left out. -/
import Derived.Test.YtfhnfhgpaoddbaaDoorProg
import Derived.Below
import Derived.Deep.Draws
import Derived.Deep.AppendLies
import Derived.Maps.AppendAt
import Derived.OwnWalk
import Derived.Laws.BytesArg
import Derived.Laws.MakeOwn
import Derived.Laws.OwnMore
import Derived.Deep.OwnRows
import Derived.Tactics
import Derived.Lib.ConvBytes
import Derived.Laws.Slices
import Derived.WalkKit
import Derived.KernelRfl
import Derived.RowKit3
import Derived.Deep.LoopGhost
import Derived.Deep.QuietTactic
import Derived.BigQuiet
import Derived.WideLaws
import Derived.Deep.DeepCutAuto
import Derived.Deep.CutBlock
import Derived.Deep.RegionHeld3
import Derived.Laws.Rows
import Derived.Lib.AppendStr
import Derived.ArgAppend
import Derived.Laws.IdiomCopy
import Derived.OrdersHeld
import Derived.Laws.BitsLemmas
import Derived.RowKit
import Derived.Shelf.Strings.Builder1
import Derived.Shelf.Small.Utf8
import Derived.Shelf.Strings.BuilderF
import Derived.Shelf.Strings.BuilderK
import Derived.Shelf.Utf8.AppendRunePlain
import Derived.Shelf.Utf8.RuneCount
import Derived.Shelf.Strings.Prefix
import Derived.Shelf.Unicode.Decode
import Derived.Shelf.Strings.RuneCount
import Derived.Shelf.Unicode.DecodeSlow
import Derived.Shelf.Unicode.DecodeAny
import Derived.Shelf.Strings.BuilderCap
import Derived.Lib.LaidU8
import Derived.RangeFuncNested
import Derived.RangeFuncBound
import Derived.RangeFuncCalls
import Derived.RangeFuncLeaves
import Derived.Lib.DecodeN
import Derived.Lib.MapLaws
import Derived.Laws.DeepStrings4
import Derived.Shelf.Unicode.DecodeLastEight
import Derived.Shelf.Abstract
import Derived.Shelf.RegionOpen
import Derived.OwnWalkIn
import Derived.TacticsInMore
import Derived.LoopNIn
import Derived.LoopIn
import Derived.Lib.Hide
import Derived.Sort.BigQuietIn
import Derived.Sort.CutIn
import Derived.Lib.Builder
import Derived.Lib.FrozenHead
import Derived.Test.YtfhnfhgpaoddbaaDoorRows
import Derived.ProofKit
import Derived.Deep.DeepHandedRow
import Derived.LaidMore
import Derived.Lay
import Derived.Test.YtfhnfhgpaoddbaaDoorWWords
import Derived.Test.YtfhnfhgpaoddbaaDoorWLast
import Derived.Test.YtfhnfhgpaoddbaaDoorWTab
import Derived.Test.YtfhnfhgpaoddbaaDoorWQPut
import Derived.Test.YtfhnfhgpaoddbaaDoorWApart
import Derived.Test.YtfhnfhgpaoddbaaDoorWArr
import Derived.Test.YtfhnfhgpaoddbaaDoorWZeros
import Derived.Test.YtfhnfhgpaoddbaaDoorWFoot
import Derived.Test.YtfhnfhgpaoddbaaDoorWKept
import Derived.Test.YtfhnfhgpaoddbaaDoorWShare
import Derived.Test.YtfhnfhgpaoddbaaDoorWN
import Derived.Test.YtfhnfhgpaoddbaaDoorWEqStruct
import Derived.Test.YtfhnfhgpaoddbaaDoorWRepsOne
import Derived.Test.YtfhnfhgpaoddbaaDoorWInv
import Derived.Test.YtfhnfhgpaoddbaaDoorWGuard
import Derived.Test.YtfhnfhgpaoddbaaDoorWNEv
import Derived.Test.YtfhnfhgpaoddbaaDoorWMore
import Derived.Test.YtfhnfhgpaoddbaaDoorZClusterNear0
import Derived.Test.YtfhnfhgpaoddbaaDoorZClusterNear2
import Derived.Test.YtfhnfhgpaoddbaaDoorZClusterNear3
import Derived.Test.YtfhnfhgpaoddbaaDoorZClusterNear4
import Derived.Test.YtfhnfhgpaoddbaaDoorZClusterNear5
section
namespace Go.Proofs.YtfhnfhgpaoddbaaDoor.U
open Go.RowKit Go.Proofs.YtfhnfhgpaoddbaaDoorW.PrintWords Go.Proofs.YtfhnfhgpaoddbaaDoorW.PrintLast Go.Proofs.YtfhnfhgpaoddbaaDoorW.PrintMore
attribute [local go_sem] max2_int min2_int max_two min_two max_three min_three max_four min_four   -- for this text's walks alone
set_option linter.unusedVariables false
set_option linter.unusedSimpArgs false
def bodkinlaw03_ClusterNear.l0 : Nat → ByteArray → ByteArray → ByteArray → Int → Option (Bool)
  | 0, _, _, _, _ => none
  | k + 1, x0, x1, x2, x7 => if x7 < (x0.size : Int) then ((cluster_Boundary.f k x0 x7).bind fun t317 => (if 0 ≤ (mx 0 (wrap64 (x7 - 4))) then (if (mx 0 (wrap64 (x7 - 4))) ≤ (mn (x0.size : Int) (wrap64 (x7 + 4))) then (if (mn (x0.size : Int) (wrap64 (x7 + 4))) ≤ (x0.size : Int) then ((cluster_Boundary.f k (x0.extract ((mx 0 (wrap64 (x7 - 4))) : Int).toNat ((mn (x0.size : Int) (wrap64 (x7 + 4))) : Int).toNat) (wrap64 (x7 - (mx 0 (wrap64 (x7 - 4)))))).bind fun t318 => (if (t318 != t317) = true then (some false) else (if (mx 0 (wrap64 (x7 - 4))) > 0 then (if (mn (x0.size : Int) (wrap64 (x7 + 4))) < (x0.size : Int) then (if x1.size + (x0.extract ((mx 0 (wrap64 (x7 - 4))) : Int).toNat ((mn (x0.size : Int) (wrap64 (x7 + 4))) : Int).toNat).size ≤ 9223372036854775807 then (if (x1 ++ (x0.extract ((mx 0 (wrap64 (x7 - 4))) : Int).toNat ((mn (x0.size : Int) (wrap64 (x7 + 4))) : Int).toNat)).size + x2.size ≤ 9223372036854775807 then ((cluster_Boundary.f k ((x1 ++ (x0.extract ((mx 0 (wrap64 (x7 - 4))) : Int).toNat ((mn (x0.size : Int) (wrap64 (x7 + 4))) : Int).toNat)) ++ x2) (wrap64 ((wrap64 ((x1.size : Int) + x7)) - (mx 0 (wrap64 (x7 - 4)))))).bind fun t319 => (if (t319 != t317) = true then (some false) else (bodkinlaw03_ClusterNear.l0 k x0 x1 x2 (wrap64 (x7 + 1))))) else (none)) else (none)) else (bodkinlaw03_ClusterNear.l0 k x0 x1 x2 (wrap64 (x7 + 1)))) else (bodkinlaw03_ClusterNear.l0 k x0 x1 x2 (wrap64 (x7 + 1)))))) else (none)) else (none)) else (none))) else (some true)
def bodkinlaw03_ClusterNear.f (k : Nat) (a0 : ByteArray) (a1 : ByteArray) (a2 : ByteArray) : Option (Bool) := (bodkinlaw03_fixed.f k).bind fun t316 => (if t316 = true then (bodkinlaw03_ClusterNear.l0 k a0 a1 a2 1) else (some false))
set_option maxHeartbeats 8000000 in
set_option maxRecDepth 100000 in
theorem bodkinlaw03_ClusterNear.calls (k : Nat) (a0 : ByteArray) (a1 : ByteArray) (a2 : ByteArray) (r : Bool) (w : World) (hT : Lib.Utf8Tabs 0 1 w) (h : bodkinlaw03_ClusterNear.f k a0 a1 a2 = some r) :
    Calls Tryd.prog 14 #[.string a0, .string a1, .string a2] w fun e w' => e = .returned (.bool r) ∧ Below w.heap.size w w' := by
  have HT := Aside0.mk hT
  clear hT
  have HB := Aside0.mk (Below.refl w.heap.size w)
  have H : ((bodkinlaw03_fixed.f k).bind fun t316 => (if t316 = true then (bodkinlaw03_ClusterNear.l0 k a0 a1 a2 1) else (some false))) = some r := h
  clear h
  replace H := Option.bind_eq_some_iff.mp H
  obtain ⟨t316, A40, H⟩ := H
  replace H : (if t316 = true then (bodkinlaw03_ClusterNear.l0 k a0 a1 a2 1) else (some false)) = some r := H
  have A4 := Aside0.mk A40
  clear A40
  by_cases c5 : t316 = true
  · subst c5
    have H1 : (bodkinlaw03_ClusterNear.l0 k a0 a1 a2 1) = some r := by rw [if_pos rfl] at H; exact H
    clear H
    have H := H1
    clear H1
    have H' := Aside0.mk H
    clear H
    go_enter Tryd.func14, Tryd.ntmps14
    go_wp2_with (first | ((with_reducible refine gate_callee (f := 39) rfl ?_); refine goesL_ (some 11) rfl rfl Tryd.func39 (by kernel_rfl) rfl #[] rfl (by (try simp only [List.map_toArray, List.map_cons, List.map_nil]); first | done | rfl | (simp only [List.length_drop, List.length_take]; rfl)) ?_; (with_reducible refine (bodkinlaw03_fixed.calls k  true _ ?side1 A4.out).mono ?_); (case side1 => exact tabs_below HT.out (by repeat (first | (with_reducible first | exact HB.out | apply below_alloc | apply pw_below_drewN | apply below_drew1) | exact HB.out))); rintro e w6 ⟨rfl, hb⟩; refine ⟨_, rfl, ?_⟩; have n0_ := Aside0.mk (below_step (by repeat (first | (with_reducible first | exact HB.out | apply below_alloc | apply pw_below_drewN | apply below_drew1) | exact HB.out)) hb); clear HB; have HB := n0_; clear n0_; (try clear hb); (try clear hb2); (try clear hk); (try clear hi)))
    go_loopg [7] k (fun kq v7 w' => ∃ (x7_1 : Int), v7 = .int .i64 x7_1 ∧ Aside0 (bodkinlaw03_ClusterNear.l0 kq a0 a1 a2 x7_1 = some r) ∧ Aside0 (kq ≤ k) ∧ Aside0 (Below w.heap.size w w'))
    case atStart => exact ⟨(1), (by first | rfl | (simp; done) | (simp [*]; done)), H', ⟨Nat.le_refl _⟩, ⟨by repeat (first | (with_reducible first | exact HB.out | apply below_alloc | apply pw_below_drewN | apply below_drew1) | exact HB.out)⟩⟩
    case round =>
      clear H'
      try clear c1
      try clear p2
      try clear c3
      try clear c5
      obtain ⟨x7_1, rfl, HA, HK1, HB⟩ := hrel
      cases gk with
      | zero => exact absurd HA.out (by simp [bodkinlaw03_ClusterNear.l0])
      | succ k1 =>
        have H := HA.out
        clear HA
        simp only [bodkinlaw03_ClusterNear.l0] at H
        by_cases c7 : x7_1 < (a0.size : Int)
        · rw [if_pos c7] at H
          have c7b0 : decide (x7_1 < (a0.size : Int)) = true := decide_eq_true c7
          clear c7
          obtain ⟨ji8, hji8⟩ : ∃ j_ : Int, (mx 0 (wrap64 (x7_1 - 4))) = j_ := ⟨_, rfl⟩
          replace H : ((cluster_Boundary.f k1 a0 x7_1).bind fun t317 => (if 0 ≤ (ji8) then (if (ji8) ≤ (mn (a0.size : Int) (wrap64 (x7_1 + 4))) then (if (mn (a0.size : Int) (wrap64 (x7_1 + 4))) ≤ (a0.size : Int) then ((cluster_Boundary.f k1 (a0.extract ((ji8) : Int).toNat ((mn (a0.size : Int) (wrap64 (x7_1 + 4))) : Int).toNat) (wrap64 (x7_1 - (ji8)))).bind fun t318 => (if (t318 != t317) = true then (some false) else (if (ji8) > 0 then (if (mn (a0.size : Int) (wrap64 (x7_1 + 4))) < (a0.size : Int) then (if a1.size + (a0.extract ((ji8) : Int).toNat ((mn (a0.size : Int) (wrap64 (x7_1 + 4))) : Int).toNat).size ≤ 9223372036854775807 then (if (a1 ++ (a0.extract ((ji8) : Int).toNat ((mn (a0.size : Int) (wrap64 (x7_1 + 4))) : Int).toNat)).size + a2.size ≤ 9223372036854775807 then ((cluster_Boundary.f k1 ((a1 ++ (a0.extract ((ji8) : Int).toNat ((mn (a0.size : Int) (wrap64 (x7_1 + 4))) : Int).toNat)) ++ a2) (wrap64 ((wrap64 ((a1.size : Int) + x7_1)) - (ji8)))).bind fun t319 => (if (t319 != t317) = true then (some false) else (bodkinlaw03_ClusterNear.l0 k1 a0 a1 a2 (wrap64 (x7_1 + 1))))) else (none)) else (none)) else (bodkinlaw03_ClusterNear.l0 k1 a0 a1 a2 (wrap64 (x7_1 + 1)))) else (bodkinlaw03_ClusterNear.l0 k1 a0 a1 a2 (wrap64 (x7_1 + 1)))))) else (none)) else (none)) else (none))) = some r := by first | (rw [hji8] at H; exact H) | (simp only [hji8] at H ⊢; exact H)
          have hji8_ : (if 0 < (wrap64 (x7_1 - 4)) then (wrap64 (x7_1 - 4)) else 0) = ji8 := hji8
          obtain ⟨ji9, hji9⟩ : ∃ j_ : Int, (mn (a0.size : Int) (wrap64 (x7_1 + 4))) = j_ := ⟨_, rfl⟩
          replace H : ((cluster_Boundary.f k1 a0 x7_1).bind fun t317 => (if 0 ≤ (ji8) then (if (ji8) ≤ (ji9) then (if (ji9) ≤ (a0.size : Int) then ((cluster_Boundary.f k1 (a0.extract ((ji8) : Int).toNat ((ji9) : Int).toNat) (wrap64 (x7_1 - (ji8)))).bind fun t318 => (if (t318 != t317) = true then (some false) else (if (ji8) > 0 then (if (ji9) < (a0.size : Int) then (if a1.size + (a0.extract ((ji8) : Int).toNat ((ji9) : Int).toNat).size ≤ 9223372036854775807 then (if (a1 ++ (a0.extract ((ji8) : Int).toNat ((ji9) : Int).toNat)).size + a2.size ≤ 9223372036854775807 then ((cluster_Boundary.f k1 ((a1 ++ (a0.extract ((ji8) : Int).toNat ((ji9) : Int).toNat)) ++ a2) (wrap64 ((wrap64 ((a1.size : Int) + x7_1)) - (ji8)))).bind fun t319 => (if (t319 != t317) = true then (some false) else (bodkinlaw03_ClusterNear.l0 k1 a0 a1 a2 (wrap64 (x7_1 + 1))))) else (none)) else (none)) else (bodkinlaw03_ClusterNear.l0 k1 a0 a1 a2 (wrap64 (x7_1 + 1)))) else (bodkinlaw03_ClusterNear.l0 k1 a0 a1 a2 (wrap64 (x7_1 + 1)))))) else (none)) else (none)) else (none))) = some r := by first | (rw [hji9] at H; exact H) | (simp only [hji9] at H ⊢; exact H)
          have hji9_ : (if (wrap64 (x7_1 + 4)) < (a0.size : Int) then (wrap64 (x7_1 + 4)) else (a0.size : Int)) = ji9 := hji9
          replace H := Option.bind_eq_some_iff.mp H
          obtain ⟨t317, A100, H⟩ := H
          replace H : (if 0 ≤ (ji8) then (if (ji8) ≤ (ji9) then (if (ji9) ≤ (a0.size : Int) then ((cluster_Boundary.f k1 (a0.extract ((ji8) : Int).toNat ((ji9) : Int).toNat) (wrap64 (x7_1 - (ji8)))).bind fun t318 => (if (t318 != t317) = true then (some false) else (if (ji8) > 0 then (if (ji9) < (a0.size : Int) then (if a1.size + (a0.extract ((ji8) : Int).toNat ((ji9) : Int).toNat).size ≤ 9223372036854775807 then (if (a1 ++ (a0.extract ((ji8) : Int).toNat ((ji9) : Int).toNat)).size + a2.size ≤ 9223372036854775807 then ((cluster_Boundary.f k1 ((a1 ++ (a0.extract ((ji8) : Int).toNat ((ji9) : Int).toNat)) ++ a2) (wrap64 ((wrap64 ((a1.size : Int) + x7_1)) - (ji8)))).bind fun t319 => (if (t319 != t317) = true then (some false) else (bodkinlaw03_ClusterNear.l0 k1 a0 a1 a2 (wrap64 (x7_1 + 1))))) else (none)) else (none)) else (bodkinlaw03_ClusterNear.l0 k1 a0 a1 a2 (wrap64 (x7_1 + 1)))) else (bodkinlaw03_ClusterNear.l0 k1 a0 a1 a2 (wrap64 (x7_1 + 1)))))) else (none)) else (none)) else (none)) = some r := H
          have A10 := Aside0.mk A100
          clear A100
          by_cases c11 : 0 ≤ (ji8)
          · rw [if_pos c11] at H
            have c11b0 := eq_true c11
            have c11b1 : decide (0 ≤ (ji8)) = true := decide_eq_true c11
            clear c11
            by_cases c12 : (ji8) ≤ (ji9)
            · rw [if_pos c12] at H
              have c12b0 := eq_true c12
              have c12b1 : decide ((ji8) ≤ (ji9)) = true := decide_eq_true c12
              clear c12
              by_cases c13 : (ji9) ≤ (a0.size : Int)
              · rw [if_pos c13] at H
                have c13b0 := eq_true c13
                have c13b1 : decide ((ji9) ≤ (a0.size : Int)) = true := decide_eq_true c13
                clear c13
                replace H := Option.bind_eq_some_iff.mp H
                obtain ⟨t318, A140, H⟩ := H
                replace H : (if (t318 != t317) = true then (some false) else (if (ji8) > 0 then (if (ji9) < (a0.size : Int) then (if a1.size + (a0.extract ((ji8) : Int).toNat ((ji9) : Int).toNat).size ≤ 9223372036854775807 then (if (a1 ++ (a0.extract ((ji8) : Int).toNat ((ji9) : Int).toNat)).size + a2.size ≤ 9223372036854775807 then ((cluster_Boundary.f k1 ((a1 ++ (a0.extract ((ji8) : Int).toNat ((ji9) : Int).toNat)) ++ a2) (wrap64 ((wrap64 ((a1.size : Int) + x7_1)) - (ji8)))).bind fun t319 => (if (t319 != t317) = true then (some false) else (bodkinlaw03_ClusterNear.l0 k1 a0 a1 a2 (wrap64 (x7_1 + 1))))) else (none)) else (none)) else (bodkinlaw03_ClusterNear.l0 k1 a0 a1 a2 (wrap64 (x7_1 + 1)))) else (bodkinlaw03_ClusterNear.l0 k1 a0 a1 a2 (wrap64 (x7_1 + 1))))) = some r := H
                have A14 := Aside0.mk A140
                clear A140
                by_cases c15 : (t318 != t317) = true
                · rw [if_pos c15] at H
                  have c15b0 : (t318 != t317) = true := c15
                  (try (have c15b1 : decide (t318 = t317) = false := by simpa using c15))
                  (try (have c15b2 : (t318 == t317) = false := by simpa using c15))
                  (try (have c15b3 : ¬ (t318 = t317) := by simpa using c15))
                  clear c15
                  obtain rfl := Option.some.inj H
                  go_wp2_with (first | ((with_reducible refine gate_callee (f := 42) rfl ?_); refine goesL_ (some 29) rfl rfl Tryd.func42 (by kernel_rfl) rfl #[.string a0, .int .i64 x7_1] rfl (by (try simp only [List.map_toArray, List.map_cons, List.map_nil]); first | done | rfl | (simp only [List.length_drop, List.length_take]; rfl)) ?_; (with_reducible refine (cluster_Boundary.calls k1 a0 x7_1 t317 _ ?side1 A10.out).mono ?_); (case side1 => exact tabs_below HT.out (by repeat (first | (with_reducible first | exact HB.out | apply below_alloc | apply pw_below_drewN | apply below_drew1) | exact HB.out))); rintro e w16 ⟨rfl, hb⟩; refine ⟨_, rfl, ?_⟩; have n0_ := Aside0.mk (below_step (by repeat (first | (with_reducible first | exact HB.out | apply below_alloc | apply pw_below_drewN | apply below_drew1) | exact HB.out)) hb); clear HB; have HB := n0_; clear n0_; (try clear hb); (try clear hb2); (try clear hk); (try clear hi)) | ((with_reducible refine gate_callee (f := 42) rfl ?_); refine goesL_ (some 37) rfl rfl Tryd.func42 (by kernel_rfl) rfl #[.string (a0.extract ((ji8) : Int).toNat ((ji9) : Int).toNat), .int .i64 (wrap64 (x7_1 - (ji8)))] rfl (by (try simp only [List.map_toArray, List.map_cons, List.map_nil]); first | done | (simp only [hji8, hji9]; rfl) | rfl | (simp only [List.length_drop, List.length_take]; rfl)) ?_; (with_reducible refine (cluster_Boundary.calls k1 (a0.extract ((ji8) : Int).toNat ((ji9) : Int).toNat) (wrap64 (x7_1 - (ji8))) t318 _ ?side1 A14.out).mono ?_); (case side1 => exact tabs_below HT.out (by repeat (first | (with_reducible first | exact HB.out | apply below_alloc | apply pw_below_drewN | apply below_drew1) | exact HB.out))); rintro e w17 ⟨rfl, hb⟩; refine ⟨_, rfl, ?_⟩; have n0_ := Aside0.mk (below_step (by repeat (first | (with_reducible first | exact HB.out | apply below_alloc | apply pw_below_drewN | apply below_drew1) | exact HB.out)) hb); clear HB; have HB := n0_; clear n0_; (try clear hb); (try clear hb2); (try clear hk); (try clear hi)))
                  go_ret
                  exact ⟨by first | rfl | (simp [errW_none, errW_some] <;> rfl) | (simp only [← hji8, ← hji9]; first | rfl | (simp [errW_none, errW_some] <;> rfl)) | (simp [*, errW_none, errW_some] <;> rfl), by repeat (first | (with_reducible first | exact HB.out | apply below_alloc | apply pw_below_drewN | apply below_drew1) | exact HB.out)⟩
                · rw [if_neg c15] at H
                  have c15b0 : (t318 != t317) = false := by simpa using c15
                  (try (have c15b1 : decide (t318 = t317) = true := by simpa using c15))
                  (try (have c15b2 : (t318 == t317) = true := by simpa using c15))
                  clear c15
                  by_cases c18 : (ji8) > 0
                  · rw [if_pos c18] at H
                    have c18b0 : decide (0 < (ji8)) = true := decide_eq_true c18
                    clear c18
                    by_cases c19 : (ji9) < (a0.size : Int)
                    · rw [if_pos c19] at H
                      have c19b0 : decide ((ji9) < (a0.size : Int)) = true := decide_eq_true c19
                      clear c19
                      have c20b0 := eq_true (of_decide_eq_true (by first | (with_reducible assumption) | assumption) : 0 ≤ (ji8))
                      have c21b0 := eq_true (of_decide_eq_true (by first | (with_reducible assumption) | assumption) : (ji8) ≤ (ji9))
                      have c22b0 := eq_true (of_decide_eq_true (by first | (with_reducible assumption) | assumption) : (ji9) ≤ (a0.size : Int))
                      by_cases c23 : a1.size + (a0.extract ((ji8) : Int).toNat ((ji9) : Int).toNat).size ≤ 9223372036854775807
                      · rw [if_pos c23] at H
                        have c23b0 := eq_true c23
                        have c23b1 : decide (a1.size + (a0.extract ((ji8) : Int).toNat ((ji9) : Int).toNat).size ≤ 9223372036854775807) = true := decide_eq_true c23
                        try have c23b2 : (9223372036854775807 < a1.size + (a0.extract ((ji8) : Int).toNat ((ji9) : Int).toNat).size) = False := eq_false (Nat.not_lt.2 c23)
                        by_cases c24 : (a1 ++ (a0.extract ((ji8) : Int).toNat ((ji9) : Int).toNat)).size + a2.size ≤ 9223372036854775807
                        · rw [if_pos c24] at H
                          have c24b0 := eq_true c24
                          have c24b1 : decide ((a1 ++ (a0.extract ((ji8) : Int).toNat ((ji9) : Int).toNat)).size + a2.size ≤ 9223372036854775807) = true := decide_eq_true c24
                          try have c24b2 : (9223372036854775807 < (a1 ++ (a0.extract ((ji8) : Int).toNat ((ji9) : Int).toNat)).size + a2.size) = False := eq_false (Nat.not_lt.2 c24)
                          replace H := Option.bind_eq_some_iff.mp H
                          obtain ⟨t319, A250, H⟩ := H
                          replace H : (if (t319 != t317) = true then (some false) else (bodkinlaw03_ClusterNear.l0 k1 a0 a1 a2 (wrap64 (x7_1 + 1)))) = some r := H
                          have A25 := Aside0.mk A250
                          clear A250
                          by_cases c26 : (t319 != t317) = true
                          · rw [if_pos c26] at H
                            have c26b0 : (t319 != t317) = true := c26
                            (try (have c26b1 : decide (t319 = t317) = false := by simpa using c26))
                            (try (have c26b2 : (t319 == t317) = false := by simpa using c26))
                            (try (have c26b3 : ¬ (t319 = t317) := by simpa using c26))
                            clear c26
                            obtain rfl := Option.some.inj H
                            go_wp2_with (first | ((with_reducible refine gate_callee (f := 42) rfl ?_); refine goesL_ (some 29) rfl rfl Tryd.func42 (by kernel_rfl) rfl #[.string a0, .int .i64 x7_1] rfl (by (try simp only [List.map_toArray, List.map_cons, List.map_nil]); first | done | rfl | (simp only [List.length_drop, List.length_take]; rfl)) ?_; (with_reducible refine (cluster_Boundary.calls k1 a0 x7_1 t317 _ ?side1 A10.out).mono ?_); (case side1 => exact tabs_below HT.out (by repeat (first | (with_reducible first | exact HB.out | apply below_alloc | apply pw_below_drewN | apply below_drew1) | exact HB.out))); rintro e w27 ⟨rfl, hb⟩; refine ⟨_, rfl, ?_⟩; have n0_ := Aside0.mk (below_step (by repeat (first | (with_reducible first | exact HB.out | apply below_alloc | apply pw_below_drewN | apply below_drew1) | exact HB.out)) hb); clear HB; have HB := n0_; clear n0_; (try clear hb); (try clear hb2); (try clear hk); (try clear hi)) | ((with_reducible refine gate_callee (f := 42) rfl ?_); refine goesL_ (some 37) rfl rfl Tryd.func42 (by kernel_rfl) rfl #[.string (a0.extract ((ji8) : Int).toNat ((ji9) : Int).toNat), .int .i64 (wrap64 (x7_1 - (ji8)))] rfl (by (try simp only [List.map_toArray, List.map_cons, List.map_nil]); first | done | (simp only [hji8, hji9]; rfl) | rfl | (simp only [List.length_drop, List.length_take]; rfl)) ?_; (with_reducible refine (cluster_Boundary.calls k1 (a0.extract ((ji8) : Int).toNat ((ji9) : Int).toNat) (wrap64 (x7_1 - (ji8))) t318 _ ?side1 A14.out).mono ?_); (case side1 => exact tabs_below HT.out (by repeat (first | (with_reducible first | exact HB.out | apply below_alloc | apply pw_below_drewN | apply below_drew1) | exact HB.out))); rintro e w28 ⟨rfl, hb⟩; refine ⟨_, rfl, ?_⟩; have n0_ := Aside0.mk (below_step (by repeat (first | (with_reducible first | exact HB.out | apply below_alloc | apply pw_below_drewN | apply below_drew1) | exact HB.out)) hb); clear HB; have HB := n0_; clear n0_; (try clear hb); (try clear hb2); (try clear hk); (try clear hi)) | (go_at_call 42; (with_reducible refine (cluster_Boundary.calls k1 ((a1 ++ (a0.extract ((ji8) : Int).toNat ((ji9) : Int).toNat)) ++ a2) (wrap64 ((wrap64 ((a1.size : Int) + x7_1)) - (ji8))) t319 _ ?side1 A25.out).mono ?_); (case side1 => exact tabs_below HT.out (by repeat (first | (with_reducible first | exact HB.out | apply below_alloc | apply pw_below_drewN | apply below_drew1) | exact HB.out))); rintro e w29 ⟨rfl, hb⟩; have n0_ := Aside0.mk (below_step (by repeat (first | (with_reducible first | exact HB.out | apply below_alloc | apply pw_below_drewN | apply below_drew1) | exact HB.out)) hb); clear HB; have HB := n0_; clear n0_; (try clear hb); (try clear hb2); (try clear hk); (try clear hi)))
                            go_ret
                            exact ⟨by first | rfl | (simp [errW_none, errW_some] <;> rfl) | (simp only [← hji8, ← hji9]; first | rfl | (simp [errW_none, errW_some] <;> rfl)) | (simp [*, errW_none, errW_some] <;> rfl), by repeat (first | (with_reducible first | exact HB.out | apply below_alloc | apply pw_below_drewN | apply below_drew1) | exact HB.out)⟩
                          · rw [if_neg c26] at H
                            have c26b0 : (t319 != t317) = false := by simpa using c26
                            (try (have c26b1 : decide (t319 = t317) = true := by simpa using c26))
                            (try (have c26b2 : (t319 == t317) = true := by simpa using c26))
                            clear c26
                            have H' := Aside0.mk H
                            clear H
                            go_wp2_with (first | ((with_reducible refine gate_callee (f := 42) rfl ?_); refine goesL_ (some 29) rfl rfl Tryd.func42 (by kernel_rfl) rfl #[.string a0, .int .i64 x7_1] rfl (by (try simp only [List.map_toArray, List.map_cons, List.map_nil]); first | done | rfl | (simp only [List.length_drop, List.length_take]; rfl)) ?_; (with_reducible refine (cluster_Boundary.calls k1 a0 x7_1 t317 _ ?side1 A10.out).mono ?_); (case side1 => exact tabs_below HT.out (by repeat (first | (with_reducible first | exact HB.out | apply below_alloc | apply pw_below_drewN | apply below_drew1) | exact HB.out))); rintro e w30 ⟨rfl, hb⟩; refine ⟨_, rfl, ?_⟩; have n0_ := Aside0.mk (below_step (by repeat (first | (with_reducible first | exact HB.out | apply below_alloc | apply pw_below_drewN | apply below_drew1) | exact HB.out)) hb); clear HB; have HB := n0_; clear n0_; (try clear hb); (try clear hb2); (try clear hk); (try clear hi)) | ((with_reducible refine gate_callee (f := 42) rfl ?_); refine goesL_ (some 37) rfl rfl Tryd.func42 (by kernel_rfl) rfl #[.string (a0.extract ((ji8) : Int).toNat ((ji9) : Int).toNat), .int .i64 (wrap64 (x7_1 - (ji8)))] rfl (by (try simp only [List.map_toArray, List.map_cons, List.map_nil]); first | done | (simp only [hji8, hji9]; rfl) | rfl | (simp only [List.length_drop, List.length_take]; rfl)) ?_; (with_reducible refine (cluster_Boundary.calls k1 (a0.extract ((ji8) : Int).toNat ((ji9) : Int).toNat) (wrap64 (x7_1 - (ji8))) t318 _ ?side1 A14.out).mono ?_); (case side1 => exact tabs_below HT.out (by repeat (first | (with_reducible first | exact HB.out | apply below_alloc | apply pw_below_drewN | apply below_drew1) | exact HB.out))); rintro e w31 ⟨rfl, hb⟩; refine ⟨_, rfl, ?_⟩; have n0_ := Aside0.mk (below_step (by repeat (first | (with_reducible first | exact HB.out | apply below_alloc | apply pw_below_drewN | apply below_drew1) | exact HB.out)) hb); clear HB; have HB := n0_; clear n0_; (try clear hb); (try clear hb2); (try clear hk); (try clear hi)) | (go_at_call 42; (with_reducible refine (cluster_Boundary.calls k1 ((a1 ++ (a0.extract ((ji8) : Int).toNat ((ji9) : Int).toNat)) ++ a2) (wrap64 ((wrap64 ((a1.size : Int) + x7_1)) - (ji8))) t319 _ ?side1 A25.out).mono ?_); (case side1 => exact tabs_below HT.out (by repeat (first | (with_reducible first | exact HB.out | apply below_alloc | apply pw_below_drewN | apply below_drew1) | exact HB.out))); rintro e w32 ⟨rfl, hb⟩; have n0_ := Aside0.mk (below_step (by repeat (first | (with_reducible first | exact HB.out | apply below_alloc | apply pw_below_drewN | apply below_drew1) | exact HB.out)) hb); clear HB; have HB := n0_; clear n0_; (try clear hb); (try clear hb2); (try clear hk); (try clear hi)))
                            go_roundg k1
                            case measure => have := HK1.out; omega
                            case rel => exact ⟨(wrap64 (x7_1 + 1)), (by first | rfl | (simp; done) | (simp [*]; done)), H', ⟨by have := HK1.out; omega⟩, ⟨by repeat (first | (with_reducible first | exact HB.out | apply below_alloc | apply pw_below_drewN | apply below_drew1) | exact HB.out)⟩⟩
                        · rw [if_neg c24] at H
                          exact absurd H (by simp)
                      · rw [if_neg c23] at H
                        exact absurd H (by simp)
                    · rw [if_neg c19] at H
                      have c19b0 : decide ((ji9) < (a0.size : Int)) = false := decide_eq_false c19
                      clear c19
                      have H' := Aside0.mk H
                      clear H
                      go_wp2_with (first | ((with_reducible refine gate_callee (f := 42) rfl ?_); refine goesL_ (some 29) rfl rfl Tryd.func42 (by kernel_rfl) rfl #[.string a0, .int .i64 x7_1] rfl (by (try simp only [List.map_toArray, List.map_cons, List.map_nil]); first | done | rfl | (simp only [List.length_drop, List.length_take]; rfl)) ?_; (with_reducible refine (cluster_Boundary.calls k1 a0 x7_1 t317 _ ?side1 A10.out).mono ?_); (case side1 => exact tabs_below HT.out (by repeat (first | (with_reducible first | exact HB.out | apply below_alloc | apply pw_below_drewN | apply below_drew1) | exact HB.out))); rintro e w33 ⟨rfl, hb⟩; refine ⟨_, rfl, ?_⟩; have n0_ := Aside0.mk (below_step (by repeat (first | (with_reducible first | exact HB.out | apply below_alloc | apply pw_below_drewN | apply below_drew1) | exact HB.out)) hb); clear HB; have HB := n0_; clear n0_; (try clear hb); (try clear hb2); (try clear hk); (try clear hi)) | ((with_reducible refine gate_callee (f := 42) rfl ?_); refine goesL_ (some 37) rfl rfl Tryd.func42 (by kernel_rfl) rfl #[.string (a0.extract ((ji8) : Int).toNat ((ji9) : Int).toNat), .int .i64 (wrap64 (x7_1 - (ji8)))] rfl (by (try simp only [List.map_toArray, List.map_cons, List.map_nil]); first | done | (simp only [hji8, hji9]; rfl) | rfl | (simp only [List.length_drop, List.length_take]; rfl)) ?_; (with_reducible refine (cluster_Boundary.calls k1 (a0.extract ((ji8) : Int).toNat ((ji9) : Int).toNat) (wrap64 (x7_1 - (ji8))) t318 _ ?side1 A14.out).mono ?_); (case side1 => exact tabs_below HT.out (by repeat (first | (with_reducible first | exact HB.out | apply below_alloc | apply pw_below_drewN | apply below_drew1) | exact HB.out))); rintro e w34 ⟨rfl, hb⟩; refine ⟨_, rfl, ?_⟩; have n0_ := Aside0.mk (below_step (by repeat (first | (with_reducible first | exact HB.out | apply below_alloc | apply pw_below_drewN | apply below_drew1) | exact HB.out)) hb); clear HB; have HB := n0_; clear n0_; (try clear hb); (try clear hb2); (try clear hk); (try clear hi)))
                      go_roundg k1
                      case measure => have := HK1.out; omega
                      case rel => exact ⟨(wrap64 (x7_1 + 1)), (by first | rfl | (simp; done) | (simp [*]; done)), H', ⟨by have := HK1.out; omega⟩, ⟨by repeat (first | (with_reducible first | exact HB.out | apply below_alloc | apply pw_below_drewN | apply below_drew1) | exact HB.out)⟩⟩
                  · rw [if_neg c18] at H
                    have c18b0 : decide (0 < (ji8)) = false := decide_eq_false c18
                    clear c18
                    have H' := Aside0.mk H
                    clear H
                    go_wp2_with (first | ((with_reducible refine gate_callee (f := 42) rfl ?_); refine goesL_ (some 29) rfl rfl Tryd.func42 (by kernel_rfl) rfl #[.string a0, .int .i64 x7_1] rfl (by (try simp only [List.map_toArray, List.map_cons, List.map_nil]); first | done | rfl | (simp only [List.length_drop, List.length_take]; rfl)) ?_; (with_reducible refine (cluster_Boundary.calls k1 a0 x7_1 t317 _ ?side1 A10.out).mono ?_); (case side1 => exact tabs_below HT.out (by repeat (first | (with_reducible first | exact HB.out | apply below_alloc | apply pw_below_drewN | apply below_drew1) | exact HB.out))); rintro e w35 ⟨rfl, hb⟩; refine ⟨_, rfl, ?_⟩; have n0_ := Aside0.mk (below_step (by repeat (first | (with_reducible first | exact HB.out | apply below_alloc | apply pw_below_drewN | apply below_drew1) | exact HB.out)) hb); clear HB; have HB := n0_; clear n0_; (try clear hb); (try clear hb2); (try clear hk); (try clear hi)) | ((with_reducible refine gate_callee (f := 42) rfl ?_); refine goesL_ (some 37) rfl rfl Tryd.func42 (by kernel_rfl) rfl #[.string (a0.extract ((ji8) : Int).toNat ((ji9) : Int).toNat), .int .i64 (wrap64 (x7_1 - (ji8)))] rfl (by (try simp only [List.map_toArray, List.map_cons, List.map_nil]); first | done | (simp only [hji8, hji9]; rfl) | rfl | (simp only [List.length_drop, List.length_take]; rfl)) ?_; (with_reducible refine (cluster_Boundary.calls k1 (a0.extract ((ji8) : Int).toNat ((ji9) : Int).toNat) (wrap64 (x7_1 - (ji8))) t318 _ ?side1 A14.out).mono ?_); (case side1 => exact tabs_below HT.out (by repeat (first | (with_reducible first | exact HB.out | apply below_alloc | apply pw_below_drewN | apply below_drew1) | exact HB.out))); rintro e w36 ⟨rfl, hb⟩; refine ⟨_, rfl, ?_⟩; have n0_ := Aside0.mk (below_step (by repeat (first | (with_reducible first | exact HB.out | apply below_alloc | apply pw_below_drewN | apply below_drew1) | exact HB.out)) hb); clear HB; have HB := n0_; clear n0_; (try clear hb); (try clear hb2); (try clear hk); (try clear hi)))
                    go_roundg k1
                    case measure => have := HK1.out; omega
                    case rel => exact ⟨(wrap64 (x7_1 + 1)), (by first | rfl | (simp; done) | (simp [*]; done)), H', ⟨by have := HK1.out; omega⟩, ⟨by repeat (first | (with_reducible first | exact HB.out | apply below_alloc | apply pw_below_drewN | apply below_drew1) | exact HB.out)⟩⟩
              · rw [if_neg c13] at H
                exact absurd H (by simp)
            · rw [if_neg c12] at H
              exact absurd H (by simp)
          · rw [if_neg c11] at H
            exact absurd H (by simp)
        · rw [if_neg c7] at H
          have c7b0 : decide (x7_1 < (a0.size : Int)) = false := decide_eq_false c7
          clear c7
          obtain rfl := Option.some.inj H
          go_wp2
          go_ret
          exact ⟨by first | rfl | (simp [errW_none, errW_some] <;> rfl) | (simp [*, errW_none, errW_some] <;> rfl), by repeat (first | (with_reducible first | exact HB.out | apply below_alloc | apply pw_below_drewN | apply below_drew1) | exact HB.out)⟩
  · replace c5 := Bool.eq_false_iff.mpr c5
    subst c5
    have H1 : (some false) = some r := by rw [if_neg (show ¬ (false = true) by decide)] at H; exact H
    clear H
    have H := H1
    clear H1
    obtain rfl := Option.some.inj H
    go_enter Tryd.func14, Tryd.ntmps14
    go_wp2_with (first | ((with_reducible refine gate_callee (f := 39) rfl ?_); refine goesL_ (some 11) rfl rfl Tryd.func39 (by kernel_rfl) rfl #[] rfl (by (try simp only [List.map_toArray, List.map_cons, List.map_nil]); first | done | rfl | (simp only [List.length_drop, List.length_take]; rfl)) ?_; (with_reducible refine (bodkinlaw03_fixed.calls k  false _ ?side1 A4.out).mono ?_); (case side1 => exact tabs_below HT.out (by repeat (first | (with_reducible first | exact HB.out | apply below_alloc | apply pw_below_drewN | apply below_drew1) | exact HB.out))); rintro e w37 ⟨rfl, hb⟩; refine ⟨_, rfl, ?_⟩; have n0_ := Aside0.mk (below_step (by repeat (first | (with_reducible first | exact HB.out | apply below_alloc | apply pw_below_drewN | apply below_drew1) | exact HB.out)) hb); clear HB; have HB := n0_; clear n0_; (try clear hb); (try clear hb2); (try clear hk); (try clear hi)))
    go_ret
    exact ⟨by first | rfl | (simp [errW_none, errW_some] <;> rfl) | (simp [*, errW_none, errW_some] <;> rfl), by repeat (first | (with_reducible first | exact HB.out | apply below_alloc | apply pw_below_drewN | apply below_drew1) | exact HB.out)⟩
end Go.Proofs.YtfhnfhgpaoddbaaDoor.U
end
section
namespace Go.Proofs.YtfhnfhgpaoddbaaDoor.Pu
open Go Go.RowKit Go.Proofs.YtfhnfhgpaoddbaaDoor.Mu Go.Proofs.YtfhnfhgpaoddbaaDoor.U Go.Proofs.YtfhnfhgpaoddbaaDoorW.PrintWords Go.Proofs.YtfhnfhgpaoddbaaDoorW.PrintLast Go.Proofs.YtfhnfhgpaoddbaaDoorW.PrintMore
theorem fixed_ans : Ev (fun k => bodkinlaw03_fixed.f k) true := Ev.of (fun k => bodkinlaw03_fixed.mono k) (k := 200) (by kernel_rfl)
end Go.Proofs.YtfhnfhgpaoddbaaDoor.Pu
end
section
namespace Go.Proofs.YtfhnfhgpaoddbaaDoor.Pu
open Go Go.RowKit Go.Proofs.YtfhnfhgpaoddbaaDoor.Mu Go.Proofs.YtfhnfhgpaoddbaaDoor.U Go.Proofs.YtfhnfhgpaoddbaaDoorW.PrintWords Go.Proofs.YtfhnfhgpaoddbaaDoorW.PrintLast Go.Proofs.YtfhnfhgpaoddbaaDoorW.PrintMore
set_option linter.unusedVariables false
theorem unit_eq (s t : ByteArray) (i j : Nat) (h1 : ∀ k, k < uN s i → byt t (j + k) = byt s (i + k)) (h2 : j + uN s i ≤ t.size) (h3 : ∀ k, k < uN t j → byt s (i + k) = byt t (j + k)) (h4 : i + uN t j ≤ s.size) : uC t j = uC s i ∧ uN t j = uN s i := by
  by_cases hs : 2 ≤ uN s i
  · have e := dec_prefix s t i j hs h1 h2
    unfold uC uN; rw [e]; exact ⟨rfl, rfl⟩
  · by_cases ht : 2 ≤ uN t j
    · have e := dec_prefix t s j i ht h3 h4
      unfold uC uN; rw [e]; exact ⟨rfl, rfl⟩
    · have e0 := h1 0 (by have := uN_pos s i; omega)
      rw [Nat.add_zero, Nat.add_zero] at e0
      have h5 := bad_or s i
      have h6 := bad_or t j
      rw [e0] at h6
      have := uN_pos s i; have := uN_pos t j
      generalize uN s i = p at *
      generalize uC s i = q at *
      generalize uN t j = p' at *
      generalize uC t j = q' at *
      omega
theorem next_same (s : ByteArray) (i a b : Nat) (ha : a < i) (hib : i < b) (hb : b ≤ s.size) (hb4 : b = s.size ∨ i + 4 ≤ b) : uC (s.extract a b) (i - a) = uC s i := by
  have hsz := size_extract s a b hb
  have h4 := uN_le4 s i
  have h4' := uN_le4 (s.extract a b) (i - a)
  have hle := uN_le s i (by omega)
  have hle' := uN_le (s.extract a b) (i - a) (by omega)
  refine (unit_eq s (s.extract a b) i (i - a) (fun k hk => ?_) (by omega) (fun k hk => ?_) (by omega)).1
  · rw [byt_extract _ _ _ _ (by omega) hb]; congr 1; omega
  · rw [byt_extract _ _ _ _ (by omega) hb]; congr 1; omega
theorem prev_same (s : ByteArray) (i a b : Nat) (ha : a < i) (ha4 : a = 0 ∨ a + 4 ≤ i) (hib : i < b) (hb : b ≤ s.size) (hb4 : b = s.size ∨ i + 4 ≤ b) (hB : Bd s i) (hB' : Bd (s.extract a b) (i - a)) (y y' : Nat) (hy : Bd s y) (hyx : y + uN s y = i) (hy' : Bd (s.extract a b) y') (hyx' : y' + uN (s.extract a b) y' = i - a) : y' = y - a ∧ uC (s.extract a b) y' = uC s y := by
  have hsz := size_extract s a b hb
  have h4 := uN_le4 s y
  have h4' := uN_le4 (s.extract a b) y'
  have hp := uN_pos s y
  have hp' := uN_pos (s.extract a b) y'
  by_cases h2 : 2 ≤ uN s y
  · have e := dec_prefix s (s.extract a b) y (y - a) h2 (fun k hk => by rw [byt_extract _ _ _ _ (by omega) hb]; congr 1; omega) (by omega)
    have eN : uN (s.extract a b) (y - a) = uN s y := by unfold uN; rw [e]
    have eC : uC (s.extract a b) (y - a) = uC s y := by unfold uC; rw [e]
    have hl := bd_long (s.extract a b) (y - a) (by omega) (by omega)
    have := bd_prev_one (s.extract a b) (i - a) y' (y - a) hy' hl hyx' (by omega)
    rw [this]; exact ⟨rfl, eC⟩
  · by_cases h2' : 2 ≤ uN (s.extract a b) y'
    · exfalso
      have e := dec_prefix (s.extract a b) s y' (a + y') h2' (fun k hk => by rw [byt_extract _ _ _ _ (by omega) hb]; congr 1; omega) (by omega)
      have eN : uN s (a + y') = uN (s.extract a b) y' := by unfold uN; rw [e]
      have hl := bd_long s (a + y') (by omega) (by omega)
      have := bd_prev_one s i y (a + y') hy hl hyx (by omega)
      rw [this] at h2; omega
    · have hyy : y' = y - a := by omega
      refine ⟨hyy, ?_⟩
      have e0 : byt (s.extract a b) y' = byt s y := by rw [byt_extract _ _ _ _ (by omega) hb]; congr 1; omega
      have h5 := bad_or s y
      have h6 := bad_or (s.extract a b) y'
      rw [e0] at h6
      generalize uN s y = p at *
      generalize uC s y = q at *
      generalize uN (s.extract a b) y' = p' at *
      generalize uC (s.extract a b) y' = q' at *
      omega
theorem cb_local (s : ByteArray) (i a b : Nat) (ha : a < i) (ha4 : a = 0 ∨ a + 4 ≤ i) (hib : i < b) (hb : b ≤ s.size) (hb4 : b = s.size ∨ i + 4 ≤ b) : CB (s.extract a b) (i - a) ↔ CB s i := by
  have hsz := size_extract s a b hb
  have hbl := bd_local s i a b (by omega) (by omega) (by omega) hb (by omega)
  have hn := next_same s i a b ha hib hb hb4
  constructor
  · intro h
    have hB := hbl.1 h.1
    obtain ⟨y, hy, hyx⟩ := bd_prev s i hB (by omega)
    obtain ⟨y', hy', hyx'⟩ := bd_prev _ (i - a) h.1 (by omega)
    have hp := prev_same s i a b ha ha4 hib hb hb4 hB h.1 y y' hy hyx hy' hyx'
    rw [cb_iff s i y hy hyx (by omega), ← hp.2, ← hn]
    exact (cb_iff _ _ y' hy' hyx' (by omega)).1 h
  · intro h
    have hB := hbl.2 h.1
    obtain ⟨y, hy, hyx⟩ := bd_prev s i h.1 (by omega)
    obtain ⟨y', hy', hyx'⟩ := bd_prev _ (i - a) hB (by omega)
    have hp := prev_same s i a b ha ha4 hib hb hb4 h.1 hB y y' hy hyx hy' hyx'
    rw [cb_iff _ _ y' hy' hyx' (by omega), hp.2, hn]
    exact (cb_iff s i y hy hyx (by omega)).1 h
theorem mid_extract (x y z : ByteArray) : ((x ++ y) ++ z).extract x.size (x.size + y.size) = y := by
  apply ByteArray.ext
  apply Array.toList_inj.1
  rw [Lib.extract_data]
  have e : ((x ++ y) ++ z).data.toList = x.data.toList ++ (y.data.toList ++ z.data.toList) := by simp
  rw [e, List.drop_append, List.drop_eq_nil_of_le (by rw [← Lib.size_eq]; exact Nat.le_refl _), List.nil_append, ← Lib.size_eq, Nat.sub_self, List.drop_zero, List.take_append, show x.size + y.size - x.size = y.data.toList.length by rw [← Lib.size_eq]; omega, List.take_length, Nat.sub_self, List.take_zero, List.append_nil]
end Go.Proofs.YtfhnfhgpaoddbaaDoor.Pu
end
section
namespace Go.Proofs.YtfhnfhgpaoddbaaDoor.Pure
open Go Go.RowKit Go.Proofs.YtfhnfhgpaoddbaaDoor.Mu Go.Proofs.YtfhnfhgpaoddbaaDoor.Pu Go.Proofs.YtfhnfhgpaoddbaaDoor.U Go.Proofs.YtfhnfhgpaoddbaaDoorW.PrintWords Go.Proofs.YtfhnfhgpaoddbaaDoorW.PrintLast Go.Proofs.YtfhnfhgpaoddbaaDoorW.PrintMore
set_option linter.unusedVariables false
theorem near_mx (x : Nat) (h : x ≤ 1099511627776) : mx 0 (wrap64 ((x : Int) - 4)) = ((x - 4 : Nat) : Int) := by
  rw [w64 (by omega) (by omega)]; unfold mx; split <;> omega
theorem near_mn (n x : Nat) (h : x ≤ 1099511627776) : mn (n : Int) (wrap64 ((x : Int) + 4)) = ((min n (x + 4) : Nat) : Int) := by
  rw [w64 (by omega) (by omega)]; unfold mn; split <;> omega
theorem cbB_eq {s t : ByteArray} {i j : Nat} (h : CB t j ↔ CB s i) : cbB t j = cbB s i := by
  rw [Bool.eq_iff_iff, cbB_iff, cbB_iff, cbI_nat, cbI_nat, h]
theorem near_loop (s u v : ByteArray) (hs : s.size ≤ 1048576) (hu : u.size ≤ 1048576) (hv : v.size ≤ 1048576) : ∀ n x : Nat, s.size - x ≤ n → 1 ≤ x → Ev (fun k => bodkinlaw03_ClusterNear.l0 k s u v x) true := by
  intro n
  induction n with
  | zero => intro x hn hx; exact Ev.step (fun k => bodkinlaw03_ClusterNear.l0.eq_2 ..) (ev_neg (by omega) (Ev.now _))
  | succ n ih =>
    intro x hn hx
    by_cases hlt : x < s.size
    · have hnext := ih (x + 1) (by omega) (by omega)
      have e1 : wrap64 ((x : Int) + 1) = ((x + 1 : Nat) : Int) := by rw [w64 (by omega) (by omega)]; omega
      have hmid := size_extract s (x - 4) (min s.size (x + 4)) (by omega)
      have hloc := cb_local s x (x - 4) (min s.size (x + 4)) (by omega) (by omega) (by omega) (by omega) (by omega)
      have e2 : wrap64 ((x : Int) - ((x - 4 : Nat) : Int)) = ((x - (x - 4) : Nat) : Int) := by rw [w64 (by omega) (by omega)]; omega
      have e3 : wrap64 (wrap64 ((u.size : Int) + (x : Int)) - ((x - 4 : Nat) : Int)) = ((u.size + (x - (x - 4)) : Nat) : Int) := by rw [w64 (x := (u.size : Int) + x) (by omega) (by omega), w64 (by omega) (by omega)]; omega
      have hme := mid_extract u (s.extract (x - 4) (min s.size (x + 4))) v
      have hz : (u ++ s.extract (x - 4) (min s.size (x + 4)) ++ v).size = u.size + (s.extract (x - 4) (min s.size (x + 4))).size + v.size := by rw [ByteArray.size_append, ByteArray.size_append]
      have hz2 : (u ++ s.extract (x - 4) (min s.size (x + 4))).size = u.size + (s.extract (x - 4) (min s.size (x + 4))).size := by rw [ByteArray.size_append]
      refine Ev.step (fun k => bodkinlaw03_ClusterNear.l0.eq_2 ..) ?_
      rw [near_mx x (by omega), near_mn s.size x (by omega), Int.toNat_natCast, Int.toNat_natCast, e1, e2, e3]
      clear e1 e2 e3
      generalize s.extract (x - 4) (min s.size (x + 4)) = m at *
      generalize hbig : u ++ m ++ v = big at *
      generalize u ++ m = um at *
      generalize hX : x - 4 = X at *
      generalize hY : min s.size (x + 4) = Y at *
      have hss1 := hs
      have hXY : X ≤ Y ∧ Y ≤ s.size ∧ X < x ∧ x < Y ∧ (Y < s.size → Y = x + 4) ∧ (0 < X → X + 4 = x) := by clear hz hz2 hmid hloc hme hnext ih hu hv hs hss1; omega
      clear hX hY
      generalize hus : u.size = us at *
      generalize hvs : v.size = vs at *
      generalize hms : m.size = ms at *
      generalize hss : s.size = ss at *
      generalize hbs : big.size = bs at *
      generalize hums : um.size = ums at *
      refine ev_pos (by omega) (Ev.bind (cboundary_ans s (by omega) x) (ev_pos (by omega) (ev_pos (by omega) (ev_pos (by omega) (Ev.bind (cboundary_ans _ (by omega) _) ?_)))))
      rw [cbB_eq hloc]
      refine ev_neg (by simp) ?_
      by_cases h0 : (X : Int) > 0
      · refine ev_pos h0 ?_
        by_cases h1 : (Y : Int) < (ss : Int)
        · refine ev_pos h1 (ev_pos (by omega) (ev_pos (by omega) (Ev.bind (cboundary_ans _ (by omega) _) ?_)))
          have hl2 := cb_local big (us + (x - X)) us (us + ms) (by omega) (by omega) (by omega) (by omega) (by omega)
          rw [hme, show us + (x - X) - us = x - X by omega] at hl2
          rw [cbB_eq (hl2.symm.trans hloc)]
          exact ev_neg (by simp) hnext
        · exact ev_neg h1 hnext
      · exact ev_neg h0 hnext
    · exact Ev.step (fun k => bodkinlaw03_ClusterNear.l0.eq_2 ..) (ev_neg (by omega) (Ev.now _))
theorem ClusterNear (a0 : ByteArray) (a1 : ByteArray) (a2 : ByteArray) (u0 : a0.size ≤ 1048576) (u1 : a1.size ≤ 1048576) (u2 : a2.size ≤ 1048576) : ∃ k, bodkinlaw03_ClusterNear.f k a0 a1 a2 = some true := by
  apply Ev.rounds
  unfold bodkinlaw03_ClusterNear.f
  exact Ev.bind fixed_ans (ev_pos rfl (near_loop a0 a1 a2 u0 u1 u2 a0.size 1 (by omega) (by omega)))
end Go.Proofs.YtfhnfhgpaoddbaaDoor.Pure
end
section
namespace Go.Proofs.YtfhnfhgpaoddbaaDoor.Lf
open Go.Lib Go.Proofs
theorem own : ownKnob Tryd.prog.godebug = none := by kernel_rfl
theorem extra : U8Extra Tryd.prog Tryd.lays260_ren := {
  n3 := by kernel_rfl
  n4 := by kernel_rfl
  y3 := by kernel_rfl
  y4 := by kernel_rfl
  c5 := by kernel_rfl
  c119 := by kernel_rfl
  c138 := by kernel_rfl }
theorem first_eq : Rows.laid_unicode_utf8_first = Lib.firstData := by kernel_rfl
theorem accept_eq : (Rows.laid_unicode_utf8_acceptRanges : DataW Unit) = Lib.acceptData := by kernel_rfl
abbrev laid : List (String × DataW Unit) := [("unicode/utf8.acceptRanges", Rows.laid_unicode_utf8_acceptRanges), ("unicode/utf8.first", Rows.laid_unicode_utf8_first)]
/-- The two tables lie as the contracts ask. -/
theorem tabs {W : World} (h : laidMetH Tryd.prog laid W) : Lib.Utf8Tabs 0 1 W := by
  rw [MakeChecks.laidMetH_plain _ _ _ (by kernel_rfl)] at h
  have h3 := laidMet.reads h (n := "unicode/utf8.first") (d := Rows.laid_unicode_utf8_first) (List.mem_cons_of_mem _ List.mem_cons_self)
  have h4 := laidMet.reads h (n := "unicode/utf8.acceptRanges") (d := Rows.laid_unicode_utf8_acceptRanges) List.mem_cons_self
  rw [first_eq] at h3
  rw [accept_eq] at h4
  exact utf8Tabs_of_reads Tryd.lays260 extra h3 h4
/-- The world of the witness: the settled one, the tables laid. -/
noncomputable abbrev wit (os : Os) : World := World.laidAll Tryd.prog os laid
theorem wit_laid (os : Os) (args : Array Value) : laidMetH Tryd.prog laid ((wit os).forCall (fun _ _ => 0) ⟨#[], args, []⟩).memory := by
  rw [MakeChecks.laidMetH_plain _ _ _ (by kernel_rfl)]
  exact laidMet_laidAll _ (by kernel_rfl) (by kernel_rfl)
theorem wit_shaped (os : Os) (args : Array Value) : ((wit os).forCall (fun _ _ => 0) ⟨#[], args, []⟩).Shaped Tryd.prog :=
  World.shaped_of_ZipB (by kernel_rfl) (by kernel_rfl)
end Go.Proofs.YtfhnfhgpaoddbaaDoor.Lf
end
