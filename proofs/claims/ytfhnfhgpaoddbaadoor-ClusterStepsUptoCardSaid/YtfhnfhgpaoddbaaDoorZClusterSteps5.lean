/- What the law ClusterSteps reaches of this seat's own texts, merged; what nothing uses is left out. -/
import Derived.Test.YtfhnfhgpaoddbaaDoorProg
import Derived.Below
import Derived.Deep.Draws
import Derived.Deep.AppendLies
import Derived.Maps.AppendAt
import Derived.OwnWalk
import Derived.Laws.BytesArg
import Derived.Laws.MakeOwn
import Derived.Laws.OwnMore
import Derived.Deep.OwnRows
import Derived.Tactics
import Derived.Lib.ConvBytes
import Derived.Laws.Slices
import Derived.WalkKit
import Derived.KernelRfl
import Derived.RowKit3
import Derived.Deep.LoopGhost
import Derived.Deep.QuietTactic
import Derived.BigQuiet
import Derived.WideLaws
import Derived.Deep.DeepCutAuto
import Derived.Deep.CutBlock
import Derived.Deep.RegionHeld3
import Derived.Laws.Rows
import Derived.Lib.AppendStr
import Derived.ArgAppend
import Derived.Laws.IdiomCopy
import Derived.OrdersHeld
import Derived.Laws.BitsLemmas
import Derived.RowKit
import Derived.Shelf.Strings.Builder1
import Derived.Shelf.Small.Utf8
import Derived.Shelf.Strings.BuilderF
import Derived.Shelf.Strings.BuilderK
import Derived.Shelf.Utf8.AppendRunePlain
import Derived.Shelf.Utf8.RuneCount
import Derived.Shelf.Strings.Prefix
import Derived.Shelf.Unicode.Decode
import Derived.Shelf.Strings.RuneCount
import Derived.Shelf.Unicode.DecodeSlow
import Derived.Shelf.Unicode.DecodeAny
import Derived.Shelf.Strings.BuilderCap
import Derived.Lib.LaidU8
import Derived.RangeFuncNested
import Derived.RangeFuncBound
import Derived.RangeFuncCalls
import Derived.RangeFuncLeaves
import Derived.Lib.DecodeN
import Derived.Lib.MapLaws
import Derived.Laws.DeepStrings4
import Derived.Shelf.Unicode.DecodeLastEight
import Derived.Shelf.Abstract
import Derived.Shelf.RegionOpen
import Derived.OwnWalkIn
import Derived.TacticsInMore
import Derived.LoopNIn
import Derived.LoopIn
import Derived.Lib.Hide
import Derived.Sort.BigQuietIn
import Derived.Sort.CutIn
import Derived.Lib.Builder
import Derived.Lib.FrozenHead
import Derived.Test.YtfhnfhgpaoddbaaDoorRows
import Derived.ProofKit
import Derived.Deep.DeepHandedRow
import Derived.LaidMore
import Derived.Lay
import Derived.Test.YtfhnfhgpaoddbaaDoorWWords
import Derived.Test.YtfhnfhgpaoddbaaDoorWLast
import Derived.Test.YtfhnfhgpaoddbaaDoorWTab
import Derived.Test.YtfhnfhgpaoddbaaDoorWQPut
import Derived.Test.YtfhnfhgpaoddbaaDoorWApart
import Derived.Test.YtfhnfhgpaoddbaaDoorWArr
import Derived.Test.YtfhnfhgpaoddbaaDoorWZeros
import Derived.Test.YtfhnfhgpaoddbaaDoorWFoot
import Derived.Test.YtfhnfhgpaoddbaaDoorWKept
import Derived.Test.YtfhnfhgpaoddbaaDoorWShare
import Derived.Test.YtfhnfhgpaoddbaaDoorWN
import Derived.Test.YtfhnfhgpaoddbaaDoorWEqStruct
import Derived.Test.YtfhnfhgpaoddbaaDoorWRepsOne
import Derived.Test.YtfhnfhgpaoddbaaDoorWInv
import Derived.Test.YtfhnfhgpaoddbaaDoorWGuard
import Derived.Test.YtfhnfhgpaoddbaaDoorWNEv
import Derived.Test.YtfhnfhgpaoddbaaDoorWMore
import Derived.Test.YtfhnfhgpaoddbaaDoorZClusterSteps0
import Derived.Test.YtfhnfhgpaoddbaaDoorZClusterSteps2
import Derived.Test.YtfhnfhgpaoddbaaDoorZClusterSteps4
section
namespace Go.Proofs.YtfhnfhgpaoddbaaDoor.U
abbrev uI : Bool := true
abbrev uO : Bool := false
open Go.RowKit Go.Proofs.YtfhnfhgpaoddbaaDoorW.PrintWords Go.Proofs.YtfhnfhgpaoddbaaDoorW.PrintLast Go.Proofs.YtfhnfhgpaoddbaaDoorW.PrintMore
attribute [local go_sem] max2_int min2_int max_two min_two max_three min_three max_four min_four   -- for this text's walks alone
set_option linter.unusedVariables false
set_option linter.unusedSimpArgs false
mutual
def bodkinlaw03_ClusterSteps.l0 : Nat → ByteArray → List (S53) → Int → Int → Option (Bool)
 | 0,_,_,_,_ => none
 | k + 1,x0,x3,x4,x5 => if x5 < (x3.length : Int) then (if 0 ≤ x5 then (if ((rd_T53 x3 x5).f0) = x4 then (if ((rd_T53 x3 x5).f1) ≤ ((rd_T53 x3 x5).f0) then (bodkinlaw03_ClusterSteps.j1 k x0 x3 x5 true ((rd_T53 x3 x5).f0) ((rd_T53 x3 x5).f1) ((rd_T53 x3 x5).f2) ((rd_T53 x3 x5).f3)) else (if ((rd_T53 x3 x5).f1) > (x0.size : Int) then (bodkinlaw03_ClusterSteps.j1 k x0 x3 x5 true ((rd_T53 x3 x5).f0) ((rd_T53 x3 x5).f1) ((rd_T53 x3 x5).f2) ((rd_T53 x3 x5).f3)) else ((cluster_Next.f k x0 x4).bind fun t443 => (if t443 = ((rd_T53 x3 x5).f1) then ((cluster_Prev.f k x0 ((rd_T53 x3 x5).f1)).bind fun t444 => (if t444 = ((rd_T53 x3 x5).f0) then ((cluster_Boundary.f k x0 ((rd_T53 x3 x5).f1)).bind fun t445 => (if t445 = true then ((cluster_Snap.f k x0 ((rd_T53 x3 x5).f1)).bind fun t446 => (bodkinlaw03_ClusterSteps.j1 k x0 x3 x5 (t446 != ((rd_T53 x3 x5).f1)) ((rd_T53 x3 x5).f0) ((rd_T53 x3 x5).f1) ((rd_T53 x3 x5).f2) ((rd_T53 x3 x5).f3))) else (bodkinlaw03_ClusterSteps.j1 k x0 x3 x5 true ((rd_T53 x3 x5).f0) ((rd_T53 x3 x5).f1) ((rd_T53 x3 x5).f2) ((rd_T53 x3 x5).f3)))) else (bodkinlaw03_ClusterSteps.j1 k x0 x3 x5 true ((rd_T53 x3 x5).f0) ((rd_T53 x3 x5).f1) ((rd_T53 x3 x5).f2) ((rd_T53 x3 x5).f3)))) else (bodkinlaw03_ClusterSteps.j1 k x0 x3 x5 true ((rd_T53 x3 x5).f0) ((rd_T53 x3 x5).f1) ((rd_T53 x3 x5).f2) ((rd_T53 x3 x5).f3)))))) else (bodkinlaw03_ClusterSteps.j1 k x0 x3 x5 true ((rd_T53 x3 x5).f0) ((rd_T53 x3 x5).f1) ((rd_T53 x3 x5).f2) ((rd_T53 x3 x5).f3))) else (none)) else (if x4 = (x0.size : Int) then ((cluster_Boundary.f k x0 0).bind fun t451 => (if t451 = true then ((cluster_Boundary.f k x0 (x0.size : Int)).bind fun t452 => (if t452 = true then ((cluster_Boundary.f k x0 (-1)).bind fun t453 => (if t453 = true then (some false) else ((cluster_Boundary.f k x0 (wrap64 ((x0.size : Int) + 1))).bind fun t454 => (if t454 = true then (some false) else ((cluster_Next.f k x0 (x0.size : Int)).bind fun t455 => (if t455 = (x0.size : Int) then ((cluster_Prev.f k x0 0).bind fun t456 => (if t456 = 0 then ((cluster_Count.f x0).bind fun t457 => (some (t457 == (x3.length : Int)))) else (some false))) else (some false))))))) else (some false))) else (some false))) else (some false))
def bodkinlaw03_ClusterSteps.j1 : Nat → ByteArray → List (S53) → Int → Bool → Int → Int → Int → Int → Option (Bool)
 | 0,_,_,_,_,_,_,_,_ => none
 | k + 1,x0,x3,x5,x72,x443000,x443001,x443002,x443003 => if x72 = true then (some false) else (bodkinlaw03_ClusterSteps.l1 k x0 x3 x5 (wrap64 (x443000 + 1)) x443000 x443001 x443002 x443003)
def bodkinlaw03_ClusterSteps.l1 : Nat → ByteArray → List (S53) → Int → Int → Int → Int → Int → Int → Option (Bool)
 | 0,_,_,_,_,_,_,_,_ => none
 | k + 1,x0,x3,x5,x7,x443000,x443001,x443002,x443003 => if x7 < x443001 then (bodkinlaw03_ClusterSteps.j3 k x0 x3 x5 x7 (decide (x7 < (wrap64 (x443000 + 70)))) x443000 x443001 x443002 x443003) else (bodkinlaw03_ClusterSteps.j3 k x0 x3 x5 x7 false x443000 x443001 x443002 x443003)
def bodkinlaw03_ClusterSteps.j3 : Nat → ByteArray → List (S53) → Int → Int → Bool → Int → Int → Int → Int → Option (Bool)
 | 0,_,_,_,_,_,_,_,_,_ => none
 | k + 1,x0,x3,x5,x7,x86,x443000,x443001,x443002,x443003 => if x86 = true then ((cluster_Boundary.f k x0 x7).bind fun t447 => (if t447 = true then (some false) else ((cluster_Next.f k x0 x7).bind fun t448 => (if t448 = x443001 then ((cluster_Prev.f k x0 x7).bind fun t449 => (if t449 = x443000 then ((cluster_Snap.f k x0 x7).bind fun t450 => (if t450 = x443001 then (bodkinlaw03_ClusterSteps.l1 k x0 x3 x5 (wrap64 (x7 + 1)) x443000 x443001 x443002 x443003) else (some false))) else (some false))) else (some false))))) else (bodkinlaw03_ClusterSteps.l0 k x0 x3 x443001 (wrap64 (x5 + 1)))
end
def bodkinlaw03_ClusterSteps.f (k : Nat) (a0 : ByteArray) : Option (Bool) := (bodkinlaw03_fixed.f k).bind fun t437 => (if t437 = true then ((cluster_List.f a0).bind fun t438 => (bodkinlaw03_ClusterSteps.l0 k a0 t438 0 0)) else (some false))
def bodkinlaw03_ClusterSteps.T9 : Bool × List (List Nat × List Nat) := (true,[([],[]),([0],[0]),([],[]),([1,2],[1,2]),([3],[3]),([4],[4]),([5,4],[4,5]),([4],[4]),([7,4],[4,7]),([6,8,4],[4,6,8]),([4,9],[4,9]),([10,4],[10]),([11],[11]),([12,11],[11,12]),([11],[11]),([14,11],[11,14]),([13,15,11],[11,13,15]),([11,16],[11,16]),([17,11],[17]),([18],[18]),([18],[18]),([19,20,18,18],[18,19,20]),([18],[18]),([22,18],[18,22]),([21,23,18],[18,21,23]),([18,24],[18,24]),([25,21],[25]),([26],[26]),([26],[26]),([28,26],[26,28]),([27,29,26,26],[26,27,29]),([26],[26]),([31,26],[26,31]),([30,32,26],[26,30,32]),([26,33],[26,33]),([34,30],[34]),([35],[35]),([35],[35]),([37,35],[35,37]),([36,38,35,35],[35,36,38]),([39,35],[35,39]),([35,40],[35,40]),([41,39],[41]),([42],[42]),([42],[42]),([44,42],[42,44]),([43,45,42,42],[42,43,45]),([42],[42]),([47,42],[42,47]),([46,48,42],[42,46,48]),([42,49],[42,49])])
def bodkinlaw03_ClusterSteps.B9 : List Nat := [0,1,0,7,15,31,63,31,159,511,1023,2047,4095,8191,4095,20479,65535,131071,262143,524287,524287,2097151,524287,4718591,16777215,33554431,67108863,134217727,134217727,402653183,1073741823,134217727,2281701375,8589934591,17179869183,34359738367,68719476735,68719476735,206158430207,549755813887,1099511627775,2199023255551,4398046511103,8796093022207,8796093022207,26388279066623,70368744177663,8796093022207,149533581377535,562949953421311,1125899906842623]
theorem bodkinlaw03_ClusterSteps.tab9 : rtab .any (opsOf Tryd.f19 9) = bodkinlaw03_ClusterSteps.T9 := by kernel_rfl
theorem bodkinlaw03_ClusterSteps.bits9 : waitsOk bodkinlaw03_ClusterSteps.T9.2 bodkinlaw03_ClusterSteps.B9 = true := by kernel_rfl
def bodkinlaw03_ClusterSteps.T14 : Bool × List (List Nat × List Nat) := (true,[([],[]),([],[]),([0,1],[0,1]),([2,2],[2]),([3],[3]),([3],[3]),([4,5,3,3],[3,4,5]),([3],[3]),([7,3],[3,7]),([6,8,3],[3,6,8]),([3,9],[3,9]),([10,6],[10]),([11],[11]),([11],[11]),([12,13,11,11],[11,12,13]),([11],[11]),([15,11],[11,15]),([14,16,11],[11,14,16]),([11,17],[11,17]),([18,14],[18]),([19],[19]),([19],[19]),([20,21,19,19],[19,20,21]),([19],[19]),([23,19],[19,23]),([22,24,19],[19,22,24]),([19,25],[19,25])])
def bodkinlaw03_ClusterSteps.B14 : List Nat := [0,0,3,7,15,15,63,15,143,511,1023,2047,4095,4095,16383,4095,36863,131071,262143,524287,1048575,1048575,4194303,1048575,9437183,33554431,67108863]
theorem bodkinlaw03_ClusterSteps.tab14 : rtab .any (opsOf Tryd.f19 14) = bodkinlaw03_ClusterSteps.T14 := by kernel_rfl
theorem bodkinlaw03_ClusterSteps.bits14 : waitsOk bodkinlaw03_ClusterSteps.T14.2 bodkinlaw03_ClusterSteps.B14 = true := by kernel_rfl
set_option maxHeartbeats 8000000 in
set_option maxRecDepth 100000 in
theorem bodkinlaw03_ClusterSteps.calls (k : Nat) (a0 : ByteArray) (r : Bool) (hr_ : r = true) (w : World) (hT : Lib.Utf8Tabs 0 1 w) (h : bodkinlaw03_ClusterSteps.f k a0 = some r) :
  Calls Tryd.prog 19 #[.string a0] w fun e w' => e = .returned (.bool r) ∧ Below w.heap.size w w' := by
 have hu53 := Tryd.underlying53
 have HT := Aside0.mk hT
 clear hT
 have HB := Aside0.mk (Below.refl w.heap.size w)
 have H : ((bodkinlaw03_fixed.f k).bind fun t437 => (if t437 = true then ((cluster_List.f a0).bind fun t438 => (bodkinlaw03_ClusterSteps.l0 k a0 t438 0 0)) else (some false))) = some r := h
 clear h
 replace H := Option.bind_eq_some_iff.mp H
 obtain ⟨t437,A20,H⟩ := H
 replace H : (if t437 = true then ((cluster_List.f a0).bind fun t438 => (bodkinlaw03_ClusterSteps.l0 k a0 t438 0 0)) else (some false)) = some r := H
 have A2 := Aside0.mk A20
 clear A20
 by_cases c3 : t437 = true
 ·subst c3
  have H1 : ((cluster_List.f a0).bind fun t438 => (bodkinlaw03_ClusterSteps.l0 k a0 t438 0 0)) = some r := by rw [if_pos rfl] at H;exact H
  clear H
  have H := H1
  clear H1
  replace H := Option.bind_eq_some_iff.mp H
  obtain ⟨t438,A40,H⟩ := H
  replace H : (bodkinlaw03_ClusterSteps.l0 k a0 t438 0 0) = some r := H
  have A4 := Aside0.mk A40
  clear A40
  have H' := Aside0.mk H
  clear H
  go_enter Tryd.func19,Tryd.ntmps19
  go_wp2_with (first | ((with_reducible refine gate_callee (f := 39) rfl ?_);refine goesL_ (some 8) rfl rfl Tryd.func39 (by kernel_rfl) rfl #[] rfl (by (try simp only [List.map_toArray,List.map_cons,List.map_nil]);first | done | rfl | (simp only [List.length_drop,List.length_take];rfl)) ?_;(with_reducible refine (bodkinlaw03_fixed.calls k true rfl _ ?side1 A2.out).mono ?_);(case side1 => exact tabs_below HT.out (by repeat (first | (with_reducible first | exact HB.out | apply below_alloc | apply pw_below_drewN | apply below_drew1) | exact HB.out)));rintro e w5 ⟨rfl,hb⟩;refine ⟨_,rfl,?_⟩;have n0_ := Aside0.mk (below_step (by repeat (first | (with_reducible first | exact HB.out | apply below_alloc | apply pw_below_drewN | apply below_drew1) | exact HB.out)) hb);clear HB;have HB := n0_;clear n0_;(try clear hb);(try clear hb2);(try clear hk);(try clear hi)) | ((with_reducible refine gate_callee (f := 43) rfl ?_);refine goesL_ (some 11) rfl rfl Tryd.func43 (by kernel_rfl) rfl #[.string a0] rfl (by (try simp only [List.map_toArray,List.map_cons,List.map_nil]);first | done | rfl | (simp only [List.length_drop,List.length_take];rfl)) ?_;(with_reducible refine (cluster_List.calls a0 t438 _ ?side1 A4.out).mono ?_);(case side1 => exact tabs_below HT.out (by repeat (first | (with_reducible first | exact HB.out | apply below_alloc | apply pw_below_drewN | apply below_drew1) | exact HB.out)));rintro e w6 ⟨v439,rfl,ho0,hb⟩;refine ⟨_,rfl,?_⟩;have n0_ := Aside0.mk (Kd.R_lower ho0 (below_size (by repeat (first | (with_reducible first | exact HB.out | apply below_alloc | apply pw_below_drewN | apply below_drew1) | exact HB.out))));have n1_ := Aside0.mk (below_step (by repeat (first | (with_reducible first | exact HB.out | apply below_alloc | apply pw_below_drewN | apply below_drew1) | exact HB.out)) hb);clear HB;have HO440 := n0_;have HB := n1_;clear n0_ n1_;(try clear hb);(try clear hb2);(try clear hk);(try clear hi);(try clear ho0)))
  go_loopg [4,5] k (fun kq v4 v5 w' => ∃ (x4_1 : Int) (x5_1 : Int),v4 = .int .i64 x4_1 ∧ v5 = .int .i64 x5_1 ∧ Aside0 (bodkinlaw03_ClusterSteps.l0 kq a0 t438 x4_1 x5_1 = some r) ∧ Aside0 (kq ≤ k) ∧ Aside0 (Kd.R k53 53 w' w.heap.size (fun _ => True) v439 t438) ∧ Aside0 (Below w.heap.size w w'))
  case atStart => exact ⟨(0),(0),(by first | rfl | (simp;done) | (simp [*];done)),(by first | rfl | (simp;done) | (simp [*];done)),H',⟨Nat.le_refl _⟩,⟨by (with_reducible repeat (first | apply Kd.R_alloc | apply Kd.R_drewN | apply Kd.R_drew));exact HO440.out⟩,⟨by repeat (first | (with_reducible first | exact HB.out | apply below_alloc | apply pw_below_drewN | apply below_drew1) | exact HB.out)⟩⟩
  case round =>
   clear H'
   try clear c1
   try clear p2
   try clear c3
   try clear c4
   obtain ⟨x4_1,x5_1,rfl,rfl,HA,HK1,HO_3,HB⟩ := hrel
   cases gk with
   | zero => exact absurd HA.out (by simp [bodkinlaw03_ClusterSteps.l0])
   | succ k1 =>
    have H := HA.out
    clear HA
    simp only [bodkinlaw03_ClusterSteps.l0] at H
    by_cases c7 : x5_1 < (t438.length : Int)
    ·rw [if_pos c7] at H
     have c7b0 : decide (x5_1 < (t438.length : Int)) = true := decide_eq_true c7
     clear c7
     by_cases c8 : 0 ≤ x5_1
     ·rw [if_pos c8] at H
      have c8b0 : decide (0 ≤ x5_1) = true := decide_eq_true c8
      clear c8
      have HC9 := Aside0.mk H
      clear H
      obtain ⟨Ao10,co10,eo10⟩ := Kd.R_slice HO_3.out
      subst eo10
      have p441 : 0 ≤ (x5_1 : Int) := of_decide_eq_true (by first | (with_reducible assumption) | assumption)
      have q441 : x5_1 < (t438.length : Int) := of_decide_eq_true (by first | (with_reducible assumption) | assumption)
      obtain ⟨ad441,e441,hx441_0,hx441_1,hx441_2,hx441_3⟩ := at_T53 (Kd.R_reads' HO_3.out).2.2 x5_1 p441 q441
      cases e441
      replace p441 := eq_true p441
      replace q441 := eq_true q441
      go_upto_region 9 with (first | ((with_reducible refine gate_dst (N := 6) rfl ?_);(try (refine gate_guard (by rfl) ?_;dsimp only));refine box_event ?hg (N := 6) ?hd (cs := #[.int .i64 0,.int .i64 0,.int .i64 0,.int .i64 0]) (t := 53) ?hr ?_;(case hd => rfl);(case hg => rfl);(case hr => first | (go_simp;done) | (go_simp;rfl));intro gb442 hg w11 hbox hb;have n0_ := Aside0.mk (Kd.R_below (Kd.R_elderB (by (with_reducible repeat (first | apply Kd.R_alloc | apply Kd.R_drewN | apply Kd.R_drew));exact HO_3.out) gb442 (Nat.le_of_eq hg.symm)) hb);have n1_ := Aside0.mk (below_step (by repeat (first | (with_reducible first | exact HB.out | apply below_alloc | apply pw_below_drewN | apply below_drew1) | exact HB.out)) hb);have n2_ := Aside0.mk (hbox);have n3_ := Aside0.mk ((by rw [hg];exact (below_size (by repeat (first | (with_reducible first | exact HB.out | apply below_alloc | apply pw_below_drewN | apply below_drew1) | exact HB.out))) : w.heap.size ≤ gb442));have n4_ := Aside0.mk ((by rw [hg];exact (below_size (by repeat (first | (with_reducible first | exact HB.out | apply below_alloc | apply pw_below_drewN | apply below_drew1) | exact HB.out))) : w.heap.size ≤ gb442));clear HO_3;clear HB;have HO_3 := n0_;have HB := n1_;have BK442 := n2_;have GW442 := n3_;have GE442 := n4_;clear n0_ n1_ n2_ n3_ n4_;clear hb hbox hg;have hcz12_0 : w11.cell? ⟨gb442,0,none⟩ = some (.int .i64 0) := (blk_cell BK442.out 0).trans rfl;have hcz12_1 : w11.cell? ⟨gb442,1,none⟩ = some (.int .i64 0) := (blk_cell BK442.out 1).trans rfl;have hcz12_2 : w11.cell? ⟨gb442,2,none⟩ = some (.int .i64 0) := (blk_cell BK442.out 2).trans rfl;have hcz12_3 : w11.cell? ⟨gb442,3,none⟩ = some (.int .i64 0) := (blk_cell BK442.out 3).trans rfl;have hfz12_0 := blk_frozen BK442.out 0;have hfz12_1 := blk_frozen BK442.out 1;have hfz12_2 := blk_frozen BK442.out 2;have hfz12_3 := blk_frozen BK442.out 3))
      (try simp only [Act.put,List.setIfInBounds_toArray,List.set_cons_zero,List.set_cons_succ])
      go_cut [72] (fun v72 wc => ∃ (kq : Nat) (x72_8 : Bool),v72 = .bool x72_8 ∧ Aside0 (bodkinlaw03_ClusterSteps.j1 kq a0 t438 x5_1 x72_8 ((rd_T53 t438 x5_1).f0) ((rd_T53 t438 x5_1).f1) ((rd_T53 t438 x5_1).f2) ((rd_T53 t438 x5_1).f3) = some r) ∧ Aside0 (kq ≤ k1) ∧ Aside0 (Kd.R k53 53 wc w.heap.size (fun k_ => k_ ≠ gb442) (.slice (some ad441) t438.length co10) t438) ∧ Aside0 (wc.heap[gb442]? = some (.cells #[.int .i64 ((rd_T53 t438 x5_1).f0),.int .i64 ((rd_T53 t438 x5_1).f1),.int .i64 ((rd_T53 t438 x5_1).f2),.int .i64 ((rd_T53 t438 x5_1).f3)] 53 (0,0))) ∧ Aside0 (Below w.heap.size w wc))
      case first =>
       have H := HC9.out
       clear HC9
       by_cases c13 : ((rd_T53 t438 x5_1).f0) = x4_1
       ·rw [if_pos c13] at H
        have c13b0 : (((rd_T53 t438 x5_1).f0) == x4_1) = true := beq_iff_eq.mpr c13
        have c13b1 : (((rd_T53 t438 x5_1).f0) != x4_1) = false := bne_eq_false_iff_eq.mpr c13
        clear c13
        (first | rw [c13b0] | (simp only [i64_w,i32_w];rw [c13b0]) | skip)
        by_cases c14 : ((rd_T53 t438 x5_1).f1) ≤ ((rd_T53 t438 x5_1).f0)
        ·rw [if_pos c14] at H
         exfalso
         subst hr_
         cases k1 <;> simp [bodkinlaw03_ClusterSteps.j1] at H
        ·rw [if_neg c14] at H
         have c14b0 : decide (((rd_T53 t438 x5_1).f1) ≤ ((rd_T53 t438 x5_1).f0)) = false := decide_eq_false c14
         clear c14
         by_cases c17 : ((rd_T53 t438 x5_1).f1) > (a0.size : Int)
         ·rw [if_pos c17] at H
          exfalso
          subst hr_
          cases k1 <;> simp [bodkinlaw03_ClusterSteps.j1] at H
         ·rw [if_neg c17] at H
          have c17b0 : decide ((a0.size : Int) < ((rd_T53 t438 x5_1).f1)) = false := decide_eq_false c17
          clear c17
          replace H := Option.bind_eq_some_iff.mp H
          obtain ⟨t443,A200,H⟩ := H
          replace H : (if t443 = ((rd_T53 t438 x5_1).f1) then ((cluster_Prev.f k1 a0 ((rd_T53 t438 x5_1).f1)).bind fun t444 => (if t444 = ((rd_T53 t438 x5_1).f0) then ((cluster_Boundary.f k1 a0 ((rd_T53 t438 x5_1).f1)).bind fun t445 => (if t445 = true then ((cluster_Snap.f k1 a0 ((rd_T53 t438 x5_1).f1)).bind fun t446 => (bodkinlaw03_ClusterSteps.j1 k1 a0 t438 x5_1 (t446 != ((rd_T53 t438 x5_1).f1)) ((rd_T53 t438 x5_1).f0) ((rd_T53 t438 x5_1).f1) ((rd_T53 t438 x5_1).f2) ((rd_T53 t438 x5_1).f3))) else (bodkinlaw03_ClusterSteps.j1 k1 a0 t438 x5_1 true ((rd_T53 t438 x5_1).f0) ((rd_T53 t438 x5_1).f1) ((rd_T53 t438 x5_1).f2) ((rd_T53 t438 x5_1).f3)))) else (bodkinlaw03_ClusterSteps.j1 k1 a0 t438 x5_1 true ((rd_T53 t438 x5_1).f0) ((rd_T53 t438 x5_1).f1) ((rd_T53 t438 x5_1).f2) ((rd_T53 t438 x5_1).f3)))) else (bodkinlaw03_ClusterSteps.j1 k1 a0 t438 x5_1 true ((rd_T53 t438 x5_1).f0) ((rd_T53 t438 x5_1).f1) ((rd_T53 t438 x5_1).f2) ((rd_T53 t438 x5_1).f3))) = some r := H
          have A20 := Aside0.mk A200
          clear A200
          by_cases c21 : t443 = ((rd_T53 t438 x5_1).f1)
          ·rw [if_pos c21] at H
           have c21b0 : (t443 == ((rd_T53 t438 x5_1).f1)) = true := beq_iff_eq.mpr c21
           have c21b1 : (t443 != ((rd_T53 t438 x5_1).f1)) = false := bne_eq_false_iff_eq.mpr c21
           clear c21
           replace H := Option.bind_eq_some_iff.mp H
           obtain ⟨t444,A220,H⟩ := H
           replace H : (if t444 = ((rd_T53 t438 x5_1).f0) then ((cluster_Boundary.f k1 a0 ((rd_T53 t438 x5_1).f1)).bind fun t445 => (if t445 = true then ((cluster_Snap.f k1 a0 ((rd_T53 t438 x5_1).f1)).bind fun t446 => (bodkinlaw03_ClusterSteps.j1 k1 a0 t438 x5_1 (t446 != ((rd_T53 t438 x5_1).f1)) ((rd_T53 t438 x5_1).f0) ((rd_T53 t438 x5_1).f1) ((rd_T53 t438 x5_1).f2) ((rd_T53 t438 x5_1).f3))) else (bodkinlaw03_ClusterSteps.j1 k1 a0 t438 x5_1 true ((rd_T53 t438 x5_1).f0) ((rd_T53 t438 x5_1).f1) ((rd_T53 t438 x5_1).f2) ((rd_T53 t438 x5_1).f3)))) else (bodkinlaw03_ClusterSteps.j1 k1 a0 t438 x5_1 true ((rd_T53 t438 x5_1).f0) ((rd_T53 t438 x5_1).f1) ((rd_T53 t438 x5_1).f2) ((rd_T53 t438 x5_1).f3))) = some r := H
           have A22 := Aside0.mk A220
           clear A220
           by_cases c23 : t444 = ((rd_T53 t438 x5_1).f0)
           ·rw [if_pos c23] at H
            have c23b0 : (t444 == ((rd_T53 t438 x5_1).f0)) = true := beq_iff_eq.mpr c23
            have c23b1 : (t444 != ((rd_T53 t438 x5_1).f0)) = false := bne_eq_false_iff_eq.mpr c23
            clear c23
            replace H := Option.bind_eq_some_iff.mp H
            obtain ⟨t445,A240,H⟩ := H
            replace H : (if t445 = true then ((cluster_Snap.f k1 a0 ((rd_T53 t438 x5_1).f1)).bind fun t446 => (bodkinlaw03_ClusterSteps.j1 k1 a0 t438 x5_1 (t446 != ((rd_T53 t438 x5_1).f1)) ((rd_T53 t438 x5_1).f0) ((rd_T53 t438 x5_1).f1) ((rd_T53 t438 x5_1).f2) ((rd_T53 t438 x5_1).f3))) else (bodkinlaw03_ClusterSteps.j1 k1 a0 t438 x5_1 true ((rd_T53 t438 x5_1).f0) ((rd_T53 t438 x5_1).f1) ((rd_T53 t438 x5_1).f2) ((rd_T53 t438 x5_1).f3))) = some r := H
            have A24 := Aside0.mk A240
            clear A240
            by_cases c25 : t445 = true
            ·subst c25
             have H1 : ((cluster_Snap.f k1 a0 ((rd_T53 t438 x5_1).f1)).bind fun t446 => (bodkinlaw03_ClusterSteps.j1 k1 a0 t438 x5_1 (t446 != ((rd_T53 t438 x5_1).f1)) ((rd_T53 t438 x5_1).f0) ((rd_T53 t438 x5_1).f1) ((rd_T53 t438 x5_1).f2) ((rd_T53 t438 x5_1).f3))) = some r := by rw [if_pos rfl] at H;exact H
             clear H
             have H := H1
             clear H1
             replace H := Option.bind_eq_some_iff.mp H
             obtain ⟨t446,A260,H⟩ := H
             replace H : (bodkinlaw03_ClusterSteps.j1 k1 a0 t438 x5_1 (t446 != ((rd_T53 t438 x5_1).f1)) ((rd_T53 t438 x5_1).f0) ((rd_T53 t438 x5_1).f1) ((rd_T53 t438 x5_1).f2) ((rd_T53 t438 x5_1).f3)) = some r := H
             have A26 := Aside0.mk A260
             clear A260
             have H' := Aside0.mk H
             clear H
             try go_wp2
             have n0_ : Aside0 (Kd.R k53 53 ((((w11.setCell ⟨gb442,0,none⟩ (.int .i64 ((rd_T53 t438 x5_1).f0))).setCell ⟨gb442,1,none⟩ (.int .i64 ((rd_T53 t438 x5_1).f1))).setCell ⟨gb442,2,none⟩ (.int .i64 ((rd_T53 t438 x5_1).f2))).setCell ⟨gb442,3,none⟩ (.int .i64 ((rd_T53 t438 x5_1).f3))) w.heap.size (fun k_ => k_ ≠ gb442) (.slice (some ad441) t438.length co10) t438) := ⟨by (with_reducible repeat (first | apply Kd.R_alloc | apply Kd.R_drewN | apply Kd.R_drew));exact Kd.R_mono (Kd.R_far (p := ⟨gb442,3,none⟩) (Kd.R_far (p := ⟨gb442,2,none⟩) (Kd.R_far (p := ⟨gb442,1,none⟩) (Kd.R_far (p := ⟨gb442,0,none⟩) (Kd.R_mono HO_3.out (fun k_ hk => (⟨hk,hk.2⟩ : _ ∧ k_ ≠ gb442))) (fun _ hk => hk.2) (.int .i64 ((rd_T53 t438 x5_1).f0))) (fun _ hk => hk.2) (.int .i64 ((rd_T53 t438 x5_1).f1))) (fun _ hk => hk.2) (.int .i64 ((rd_T53 t438 x5_1).f2))) (fun _ hk => hk.2) (.int .i64 ((rd_T53 t438 x5_1).f3))) (fun _ hk => hk.1.2)⟩
             have n1_ : Aside0 (((((w11.setCell ⟨gb442,0,none⟩ (.int .i64 ((rd_T53 t438 x5_1).f0))).setCell ⟨gb442,1,none⟩ (.int .i64 ((rd_T53 t438 x5_1).f1))).setCell ⟨gb442,2,none⟩ (.int .i64 ((rd_T53 t438 x5_1).f2))).setCell ⟨gb442,3,none⟩ (.int .i64 ((rd_T53 t438 x5_1).f3))).heap[gb442]? = some (.cells #[.int .i64 ((rd_T53 t438 x5_1).f0),.int .i64 ((rd_T53 t438 x5_1).f1),.int .i64 ((rd_T53 t438 x5_1).f2),.int .i64 ((rd_T53 t438 x5_1).f3)] 53 (0,0))) := ⟨by (with_reducible repeat (first | refine blk_drewN ?_ _ | refine blk_drew ?_ | refine blk_alloc ?_ _));refine blk_put (cs := #[.int .i64 ((rd_T53 t438 x5_1).f0),.int .i64 ((rd_T53 t438 x5_1).f1),.int .i64 ((rd_T53 t438 x5_1).f2),.int .i64 0]) ?_ 3 _ rfl;(with_reducible repeat (first | refine blk_drewN ?_ _ | refine blk_drew ?_ | refine blk_alloc ?_ _));refine blk_put (cs := #[.int .i64 ((rd_T53 t438 x5_1).f0),.int .i64 ((rd_T53 t438 x5_1).f1),.int .i64 0,.int .i64 0]) ?_ 2 _ rfl;(with_reducible repeat (first | refine blk_drewN ?_ _ | refine blk_drew ?_ | refine blk_alloc ?_ _));refine blk_put (cs := #[.int .i64 ((rd_T53 t438 x5_1).f0),.int .i64 0,.int .i64 0,.int .i64 0]) ?_ 1 _ rfl;(with_reducible repeat (first | refine blk_drewN ?_ _ | refine blk_drew ?_ | refine blk_alloc ?_ _));refine blk_put (cs := #[.int .i64 0,.int .i64 0,.int .i64 0,.int .i64 0]) ?_ 0 _ rfl;(with_reducible repeat (first | refine blk_drewN ?_ _ | refine blk_drew ?_ | refine blk_alloc ?_ _));exact BK442.out⟩
             have n2_ : Aside0 (Below w.heap.size w ((((w11.setCell ⟨gb442,0,none⟩ (.int .i64 ((rd_T53 t438 x5_1).f0))).setCell ⟨gb442,1,none⟩ (.int .i64 ((rd_T53 t438 x5_1).f1))).setCell ⟨gb442,2,none⟩ (.int .i64 ((rd_T53 t438 x5_1).f2))).setCell ⟨gb442,3,none⟩ (.int .i64 ((rd_T53 t438 x5_1).f3)))) := ⟨by repeat (first | (with_reducible first | exact HB.out | apply below_alloc | apply pw_below_drewN | apply below_drew1 | refine below_set ?_ GE442.out) | exact HB.out)⟩
             (try clear HO_3)
             (try clear BK442)
             (try clear HB)
             generalize ((((w11.setCell ⟨gb442,0,none⟩ (.int .i64 ((rd_T53 t438 x5_1).f0))).setCell ⟨gb442,1,none⟩ (.int .i64 ((rd_T53 t438 x5_1).f1))).setCell ⟨gb442,2,none⟩ (.int .i64 ((rd_T53 t438 x5_1).f2))).setCell ⟨gb442,3,none⟩ (.int .i64 ((rd_T53 t438 x5_1).f3))) = w27 at n0_ n1_ n2_ ⊢
             have HO_3 := n0_
             have BK442 := n1_
             have HB := n2_
             clear n0_ n1_ n2_
             have n0_ := Aside0.mk (Kd.R_drew HO_3.out)
             have n1_ := Aside0.mk (blk_drew BK442.out)
             have n2_ := Aside0.mk (below_drew1 HB.out)
             clear HO_3
             clear BK442
             clear HB
             have HO_3 := n0_
             have BK442 := n1_
             have HB := n2_
             clear n0_ n1_ n2_
             refine start_ (n := 51) (S := fun w' => w'.cell? ⟨gb442,0,none⟩ = some (.int .i64 ((rd_T53 t438 x5_1).f0)) ∧ w'.cell? ⟨gb442,1,none⟩ = some (.int .i64 ((rd_T53 t438 x5_1).f1)) ∧ w'.cell? ⟨gb442,2,none⟩ = some (.int .i64 ((rd_T53 t438 x5_1).f2)) ∧ w'.cell? ⟨gb442,3,none⟩ = some (.int .i64 ((rd_T53 t438 x5_1).f3))) (ds := []) #[uO,uO,uO,uO,uO,uO,uO,uO,uO,uO,uO,uO,uO,uO,uO,uO,uO,uO,uO,uO,uO,uO,uO,uO,uO,uO,uO,uO,uO,uO,uO,uO,uO,uO,uO,uO,uO,uO,uO,uO,uO,uO,uO,uO,uO,uO,uO,uO,uO,uO,uO] (by kernel_rfl) rfl rfl ⟨(blk_cell BK442.out 0).trans rfl,(blk_cell BK442.out 1).trans rfl,(blk_cell BK442.out 2).trans rfl,(blk_cell BK442.out 3).trans rfl⟩ (fun hHeld => ?_);refine with_tabW bodkinlaw03_ClusterSteps.tab9 bodkinlaw03_ClusterSteps.bits9 (fun HT_ HW_ => ?_)
             generalize w27.drew = w28 at HO_3 BK442 HB hHeld ⊢
             refine pure_ (i := 0) (N := some 22) (v := ?_) (a' := ?_) #[uI,uO,uO,uO,uO,uO,uO,uO,uO,uO,uO,uO,uO,uO,uO,uO,uO,uO,uO,uO,uO,uO,uO,uO,uO,uO,uO,uO,uO,uO,uO,uO,uO,uO,uO,uO,uO,uO,uO,uO,uO,uO,uO,uO,uO,uO,uO,uO,uO,uO,uO] rfl rfl (any_of HT_.out (by kernel_rfl)) (fun _ _ _ h => h) (Or.inl ⟨by rfl,?_⟩) ?_ ?_
             rotate_left
             ·intro w'
              go_simp
              with_reducible rfl
             rotate_left
             ·simp only [Act.put,List.setIfInBounds_toArray,List.set_cons_zero,List.set_cons_succ,i64_w,i32_w]
              rfl
             refine pure_ (i := 2) (N := some 24) (v := ?_) (a' := ?_) #[uI,uO,uI,uO,uO,uO,uO,uO,uO,uO,uO,uO,uO,uO,uO,uO,uO,uO,uO,uO,uO,uO,uO,uO,uO,uO,uO,uO,uO,uO,uO,uO,uO,uO,uO,uO,uO,uO,uO,uO,uO,uO,uO,uO,uO,uO,uO,uO,uO,uO,uO] rfl rfl (any_of HT_.out (by kernel_rfl)) (fun _ _ _ h => h) (Or.inl ⟨by rfl,?_⟩) ?_ ?_
             rotate_left
             ·intro w'
              go_simp
              with_reducible rfl
             rotate_left
             ·simp only [Act.put,List.setIfInBounds_toArray,List.set_cons_zero,List.set_cons_succ,i64_w,i32_w]
              rfl
             refine take_ (i := 1) (N := some 23) (v := ?_) (a' := ?_) #[uI,uI,uI,uO,uO,uO,uO,uO,uO,uO,uO,uO,uO,uO,uO,uO,uO,uO,uO,uO,uO,uO,uO,uO,uO,uO,uO,uO,uO,uO,uO,uO,uO,uO,uO,uO,uO,uO,uO,uO,uO,uO,uO,uO,uO,uO,uO,uO,uO,uO,uO] rfl rfl (take_ofW HT_.out HW_.out (by kernel_rfl)) (fun _ _ _ h => h) (Or.inl ⟨by rfl,?_⟩) hHeld ?_ ?_
             rotate_left
             ·rintro w' ⟨s0,s1,s2,s3⟩
              go_simp
              with_reducible rfl
             rotate_left
             ·simp only [Act.put,List.setIfInBounds_toArray,List.set_cons_zero,List.set_cons_succ,i64_w,i32_w]
              rfl
             refine pure_ (i := 3) (N := some 25) (v := ?_) (a' := ?_) #[uI,uI,uI,uI,uO,uO,uO,uO,uO,uO,uO,uO,uO,uO,uO,uO,uO,uO,uO,uO,uO,uO,uO,uO,uO,uO,uO,uO,uO,uO,uO,uO,uO,uO,uO,uO,uO,uO,uO,uO,uO,uO,uO,uO,uO,uO,uO,uO,uO,uO,uO] rfl rfl (any_of HT_.out (by kernel_rfl)) (fun _ _ _ h => h) (Or.inl ⟨by rfl,?_⟩) ?_ ?_
             rotate_left
             ·intro w'
              go_simp
              with_reducible rfl
             rotate_left
             ·simp only [Act.put,List.setIfInBounds_toArray,List.set_cons_zero,List.set_cons_succ,i64_w,i32_w]
              rfl
             refine pure_ (i := 4) (N := some 26) (v := ?_) (a' := ?_) #[uI,uI,uI,uI,uI,uO,uO,uO,uO,uO,uO,uO,uO,uO,uO,uO,uO,uO,uO,uO,uO,uO,uO,uO,uO,uO,uO,uO,uO,uO,uO,uO,uO,uO,uO,uO,uO,uO,uO,uO,uO,uO,uO,uO,uO,uO,uO,uO,uO,uO,uO] rfl rfl (any_of HT_.out (by kernel_rfl)) (fun _ _ _ h => h) (Or.inl ⟨by rfl,?_⟩) ?_ ?_
             rotate_left
             ·intro w'
              go_simp
              with_reducible rfl
             rotate_left
             ·simp only [Act.put,List.setIfInBounds_toArray,List.set_cons_zero,List.set_cons_succ,i64_w,i32_w]
              rfl
             refine pure_ (i := 5) (N := some 27) (v := ?_) (a' := ?_) #[uI,uI,uI,uI,uI,uI,uO,uO,uO,uO,uO,uO,uO,uO,uO,uO,uO,uO,uO,uO,uO,uO,uO,uO,uO,uO,uO,uO,uO,uO,uO,uO,uO,uO,uO,uO,uO,uO,uO,uO,uO,uO,uO,uO,uO,uO,uO,uO,uO,uO,uO] rfl rfl (any_of HT_.out (by kernel_rfl)) (fun _ _ _ h => h) (Or.inl ⟨by rfl,?_⟩) ?_ ?_
             rotate_left
             ·intro w'
              go_simp
              with_reducible rfl
             rotate_left
             ·simp only [Act.put,List.setIfInBounds_toArray,List.set_cons_zero,List.set_cons_succ,i64_w,i32_w]
              rfl
             refine pure_ (i := 7) (N := some 29) (v := ?_) (a' := ?_) #[uI,uI,uI,uI,uI,uI,uO,uI,uO,uO,uO,uO,uO,uO,uO,uO,uO,uO,uO,uO,uO,uO,uO,uO,uO,uO,uO,uO,uO,uO,uO,uO,uO,uO,uO,uO,uO,uO,uO,uO,uO,uO,uO,uO,uO,uO,uO,uO,uO,uO,uO] rfl rfl (any_of HT_.out (by kernel_rfl)) (fun _ _ _ h => h) (Or.inl ⟨by rfl,?_⟩) ?_ ?_
             rotate_left
             ·intro w'
              go_simp
              with_reducible rfl
             rotate_left
             ·simp only [Act.put,List.setIfInBounds_toArray,List.set_cons_zero,List.set_cons_succ,i64_w,i32_w]
              rfl
             refine take_ (i := 6) (N := some 28) (v := ?_) (a' := ?_) #[uI,uI,uI,uI,uI,uI,uI,uI,uO,uO,uO,uO,uO,uO,uO,uO,uO,uO,uO,uO,uO,uO,uO,uO,uO,uO,uO,uO,uO,uO,uO,uO,uO,uO,uO,uO,uO,uO,uO,uO,uO,uO,uO,uO,uO,uO,uO,uO,uO,uO,uO] rfl rfl (take_ofW HT_.out HW_.out (by kernel_rfl)) (fun _ _ _ h => h) (Or.inl ⟨by rfl,?_⟩) hHeld ?_ ?_
             rotate_left
             ·rintro w' ⟨s0,s1,s2,s3⟩
              go_simp
              with_reducible rfl
             rotate_left
             ·simp only [Act.put,List.setIfInBounds_toArray,List.set_cons_zero,List.set_cons_succ,i64_w,i32_w]
              rfl
             refine take_ (i := 8) (N := some 30) (v := ?_) (a' := ?_) #[uI,uI,uI,uI,uI,uI,uI,uI,uI,uO,uO,uO,uO,uO,uO,uO,uO,uO,uO,uO,uO,uO,uO,uO,uO,uO,uO,uO,uO,uO,uO,uO,uO,uO,uO,uO,uO,uO,uO,uO,uO,uO,uO,uO,uO,uO,uO,uO,uO,uO,uO] rfl rfl (take_ofW HT_.out HW_.out (by kernel_rfl)) (fun _ _ _ h => h) (Or.inl ⟨by rfl,?_⟩) hHeld ?_ ?_
             rotate_left
             ·rintro w' ⟨s0,s1,s2,s3⟩
              go_simp
              with_reducible rfl
             rotate_left
             ·simp only [Act.put,List.setIfInBounds_toArray,List.set_cons_zero,List.set_cons_succ,i64_w,i32_w]
              rfl
             refine pure_ (i := 9) (N := some 31) (v := ?_) (a' := ?_) #[uI,uI,uI,uI,uI,uI,uI,uI,uI,uI,uO,uO,uO,uO,uO,uO,uO,uO,uO,uO,uO,uO,uO,uO,uO,uO,uO,uO,uO,uO,uO,uO,uO,uO,uO,uO,uO,uO,uO,uO,uO,uO,uO,uO,uO,uO,uO,uO,uO,uO,uO] rfl rfl (any_of HT_.out (by kernel_rfl)) (fun _ _ _ h => h) (Or.inl ⟨by rfl,?_⟩) ?_ ?_
             rotate_left
             ·intro w'
              go_simp
              with_reducible rfl
             rotate_left
             ·simp only [Act.put,List.setIfInBounds_toArray,List.set_cons_zero,List.set_cons_succ,i64_w,i32_w]
              rfl
             refine pure_ (i := 10) (N := some 32) (v := ?_) (a' := ?_) #[uI,uI,uI,uI,uI,uI,uI,uI,uI,uI,uI,uO,uO,uO,uO,uO,uO,uO,uO,uO,uO,uO,uO,uO,uO,uO,uO,uO,uO,uO,uO,uO,uO,uO,uO,uO,uO,uO,uO,uO,uO,uO,uO,uO,uO,uO,uO,uO,uO,uO,uO] rfl rfl (any_of HT_.out (by kernel_rfl)) (fun _ _ _ h => h) (Or.inl ⟨by rfl,?_⟩) ?_ ?_
             rotate_left
             ·intro w'
              go_simp
              with_reducible rfl
             rotate_left
             ·simp only [Act.put,List.setIfInBounds_toArray,List.set_cons_zero,List.set_cons_succ,i64_w,i32_w]
              rfl
             refine pure_ (i := 11) (N := some 33) (v := ?_) (a' := ?_) #[uI,uI,uI,uI,uI,uI,uI,uI,uI,uI,uI,uI,uO,uO,uO,uO,uO,uO,uO,uO,uO,uO,uO,uO,uO,uO,uO,uO,uO,uO,uO,uO,uO,uO,uO,uO,uO,uO,uO,uO,uO,uO,uO,uO,uO,uO,uO,uO,uO,uO,uO] rfl rfl (any_of HT_.out (by kernel_rfl)) (fun _ _ _ h => h) (Or.inl ⟨by rfl,?_⟩) ?_ ?_
             rotate_left
             ·intro w'
              go_simp
              with_reducible rfl
             rotate_left
             ·simp only [Act.put,List.setIfInBounds_toArray,List.set_cons_zero,List.set_cons_succ,i64_w,i32_w]
              rfl
             refine pure_ (i := 12) (N := some 34) (v := ?_) (a' := ?_) #[uI,uI,uI,uI,uI,uI,uI,uI,uI,uI,uI,uI,uI,uO,uO,uO,uO,uO,uO,uO,uO,uO,uO,uO,uO,uO,uO,uO,uO,uO,uO,uO,uO,uO,uO,uO,uO,uO,uO,uO,uO,uO,uO,uO,uO,uO,uO,uO,uO,uO,uO] rfl rfl (any_of HT_.out (by kernel_rfl)) (fun _ _ _ h => h) (Or.inl ⟨by rfl,?_⟩) ?_ ?_
             rotate_left
             ·intro w'
              go_simp
              with_reducible rfl
             rotate_left
             ·simp only [Act.put,List.setIfInBounds_toArray,List.set_cons_zero,List.set_cons_succ,i64_w,i32_w]
              rfl
             refine pure_ (i := 14) (N := some 36) (v := ?_) (a' := ?_) #[uI,uI,uI,uI,uI,uI,uI,uI,uI,uI,uI,uI,uI,uO,uI,uO,uO,uO,uO,uO,uO,uO,uO,uO,uO,uO,uO,uO,uO,uO,uO,uO,uO,uO,uO,uO,uO,uO,uO,uO,uO,uO,uO,uO,uO,uO,uO,uO,uO,uO,uO] rfl rfl (any_of HT_.out (by kernel_rfl)) (fun _ _ _ h => h) (Or.inl ⟨by rfl,?_⟩) ?_ ?_
             rotate_left
             ·intro w'
              go_simp
              with_reducible rfl
             rotate_left
             ·simp only [Act.put,List.setIfInBounds_toArray,List.set_cons_zero,List.set_cons_succ,i64_w,i32_w]
              rfl
             refine pure_ (i := 15) (N := some 37) (v := ?_) (a' := ?_) #[uI,uI,uI,uI,uI,uI,uI,uI,uI,uI,uI,uI,uI,uO,uI,uI,uO,uO,uO,uO,uO,uO,uO,uO,uO,uO,uO,uO,uO,uO,uO,uO,uO,uO,uO,uO,uO,uO,uO,uO,uO,uO,uO,uO,uO,uO,uO,uO,uO,uO,uO] rfl rfl (any_of HT_.out (by kernel_rfl)) (fun _ _ _ h => h) (Or.inl ⟨by rfl,?_⟩) ?_ ?_
             rotate_left
             ·intro w'
              go_simp
              with_reducible rfl
             rotate_left
             ·simp only [Act.put,List.setIfInBounds_toArray,List.set_cons_zero,List.set_cons_succ,i64_w,i32_w]
              rfl
             refine take_ (i := 13) (N := some 35) (v := ?_) (a' := ?_) #[uI,uI,uI,uI,uI,uI,uI,uI,uI,uI,uI,uI,uI,uI,uI,uI,uO,uO,uO,uO,uO,uO,uO,uO,uO,uO,uO,uO,uO,uO,uO,uO,uO,uO,uO,uO,uO,uO,uO,uO,uO,uO,uO,uO,uO,uO,uO,uO,uO,uO,uO] rfl rfl (take_ofW HT_.out HW_.out (by kernel_rfl)) (fun _ _ _ h => h) (Or.inl ⟨by rfl,?_⟩) hHeld ?_ ?_
             rotate_left
             ·rintro w' ⟨s0,s1,s2,s3⟩
              go_simp
              with_reducible rfl
             rotate_left
             ·simp only [Act.put,List.setIfInBounds_toArray,List.set_cons_zero,List.set_cons_succ,i64_w,i32_w]
              rfl
             refine pure_ (i := 16) (N := some 38) (v := ?_) (a' := ?_) #[uI,uI,uI,uI,uI,uI,uI,uI,uI,uI,uI,uI,uI,uI,uI,uI,uI,uO,uO,uO,uO,uO,uO,uO,uO,uO,uO,uO,uO,uO,uO,uO,uO,uO,uO,uO,uO,uO,uO,uO,uO,uO,uO,uO,uO,uO,uO,uO,uO,uO,uO] rfl rfl (any_of HT_.out (by kernel_rfl)) (fun _ _ _ h => h) (Or.inl ⟨by rfl,?_⟩) ?_ ?_
             rotate_left
             ·intro w'
              go_simp
              with_reducible rfl
             rotate_left
             ·simp only [Act.put,List.setIfInBounds_toArray,List.set_cons_zero,List.set_cons_succ,i64_w,i32_w]
              rfl
             refine pure_ (i := 17) (N := some 39) (v := ?_) (a' := ?_) #[uI,uI,uI,uI,uI,uI,uI,uI,uI,uI,uI,uI,uI,uI,uI,uI,uI,uI,uO,uO,uO,uO,uO,uO,uO,uO,uO,uO,uO,uO,uO,uO,uO,uO,uO,uO,uO,uO,uO,uO,uO,uO,uO,uO,uO,uO,uO,uO,uO,uO,uO] rfl rfl (any_of HT_.out (by kernel_rfl)) (fun _ _ _ h => h) (Or.inl ⟨by rfl,?_⟩) ?_ ?_
             rotate_left
             ·intro w'
              go_simp
              with_reducible rfl
             rotate_left
             ·simp only [Act.put,List.setIfInBounds_toArray,List.set_cons_zero,List.set_cons_succ,i64_w,i32_w]
              rfl
             refine pure_ (i := 18) (N := some 40) (v := ?_) (a' := ?_) #[uI,uI,uI,uI,uI,uI,uI,uI,uI,uI,uI,uI,uI,uI,uI,uI,uI,uI,uI,uO,uO,uO,uO,uO,uO,uO,uO,uO,uO,uO,uO,uO,uO,uO,uO,uO,uO,uO,uO,uO,uO,uO,uO,uO,uO,uO,uO,uO,uO,uO,uO] rfl rfl (any_of HT_.out (by kernel_rfl)) (fun _ _ _ h => h) (Or.inl ⟨by rfl,?_⟩) ?_ ?_
             rotate_left
             ·intro w'
              go_simp
              with_reducible rfl
             rotate_left
             ·simp only [Act.put,List.setIfInBounds_toArray,List.set_cons_zero,List.set_cons_succ,i64_w,i32_w]
              rfl
             refine pure_ (i := 19) (N := some 41) (v := ?_) (a' := ?_) #[uI,uI,uI,uI,uI,uI,uI,uI,uI,uI,uI,uI,uI,uI,uI,uI,uI,uI,uI,uI,uO,uO,uO,uO,uO,uO,uO,uO,uO,uO,uO,uO,uO,uO,uO,uO,uO,uO,uO,uO,uO,uO,uO,uO,uO,uO,uO,uO,uO,uO,uO] rfl rfl (any_of HT_.out (by kernel_rfl)) (fun _ _ _ h => h) (Or.inl ⟨by rfl,?_⟩) ?_ ?_
             rotate_left
             ·intro w'
              go_simp
              with_reducible rfl
             rotate_left
             ·simp only [Act.put,List.setIfInBounds_toArray,List.set_cons_zero,List.set_cons_succ,i64_w,i32_w]
              rfl
             refine pure_ (i := 20) (N := some 42) (v := ?_) (a' := ?_) #[uI,uI,uI,uI,uI,uI,uI,uI,uI,uI,uI,uI,uI,uI,uI,uI,uI,uI,uI,uI,uI,uO,uO,uO,uO,uO,uO,uO,uO,uO,uO,uO,uO,uO,uO,uO,uO,uO,uO,uO,uO,uO,uO,uO,uO,uO,uO,uO,uO,uO,uO] rfl rfl (any_of HT_.out (by kernel_rfl)) (fun _ _ _ h => h) (Or.inl ⟨by rfl,?_⟩) ?_ ?_
             rotate_left
             ·intro w'
              go_simp
              with_reducible rfl
             rotate_left
             ·simp only [Act.put,List.setIfInBounds_toArray,List.set_cons_zero,List.set_cons_succ,i64_w,i32_w]
              rfl
             refine pure_ (i := 22) (N := some 44) (v := ?_) (a' := ?_) #[uI,uI,uI,uI,uI,uI,uI,uI,uI,uI,uI,uI,uI,uI,uI,uI,uI,uI,uI,uI,uI,uO,uI,uO,uO,uO,uO,uO,uO,uO,uO,uO,uO,uO,uO,uO,uO,uO,uO,uO,uO,uO,uO,uO,uO,uO,uO,uO,uO,uO,uO] rfl rfl (any_of HT_.out (by kernel_rfl)) (fun _ _ _ h => h) (Or.inl ⟨by rfl,?_⟩) ?_ ?_
             rotate_left
             ·intro w'
              go_simp
              with_reducible rfl
             rotate_left
             ·simp only [Act.put,List.setIfInBounds_toArray,List.set_cons_zero,List.set_cons_succ,i64_w,i32_w]
              rfl
             refine take_ (i := 23) (N := some 45) (v := ?_) (a' := ?_) #[uI,uI,uI,uI,uI,uI,uI,uI,uI,uI,uI,uI,uI,uI,uI,uI,uI,uI,uI,uI,uI,uO,uI,uI,uO,uO,uO,uO,uO,uO,uO,uO,uO,uO,uO,uO,uO,uO,uO,uO,uO,uO,uO,uO,uO,uO,uO,uO,uO,uO,uO] rfl rfl (take_ofW HT_.out HW_.out (by kernel_rfl)) (fun _ _ _ h => h) (Or.inl ⟨by rfl,?_⟩) hHeld ?_ ?_
             rotate_left
             ·rintro w' ⟨s0,s1,s2,s3⟩
              go_simp
              with_reducible rfl
             rotate_left
             ·simp only [Act.put,List.setIfInBounds_toArray,List.set_cons_zero,List.set_cons_succ,i64_w,i32_w]
              rfl
             refine one_ (i := 21) (N := some 43) #[uI,uI,uI,uI,uI,uI,uI,uI,uI,uI,uI,uI,uI,uI,uI,uI,uI,uI,uI,uI,uI,uI,uI,uI,uO,uO,uO,uO,uO,uO,uO,uO,uO,uO,uO,uO,uO,uO,uO,uO,uO,uO,uO,uO,uO,uO,uO,uO,uO,uO,uO] rfl rfl (one_of HT_.out (by kernel_rfl)) (by decide) (fun K hK => ?_)
             refine goes_ Tryd.func46 (by kernel_rfl) rfl #[.string a0,.int .i64 x4_1] (by rfl) rfl rfl (by (try simp only [List.map_toArray,List.map_cons,List.map_nil]);first | done | rfl | (simp only [List.length_drop,List.length_take];rfl)) ?_
             with_reducible refine (cluster_Next.calls k1 a0 x4_1 t443 _ ?side1 A20.out).mono ?_
             (case side1 => exact tabs_below HT.out (by repeat (first | (with_reducible first | exact HB.out | apply below_alloc | apply pw_below_drewN | apply below_drew1 | refine below_set ?_ GE442.out) | exact HB.out)))
             rintro e w29 ⟨rfl,hb⟩
             refine ⟨_,rfl,?_⟩
             have n0_ := Aside0.mk (Kd.R_below (by (with_reducible repeat (first | apply Kd.R_alloc | apply Kd.R_drewN | apply Kd.R_drew));exact HO_3.out) hb)
             have n1_ := Aside0.mk (blk_below (g := gb442) (o := .cells #[.int .i64 ((rd_T53 t438 x5_1).f0),.int .i64 ((rd_T53 t438 x5_1).f1),.int .i64 ((rd_T53 t438 x5_1).f2),.int .i64 ((rd_T53 t438 x5_1).f3)] 53 (0,0)) (by (with_reducible repeat (first | refine blk_drewN ?_ _ | refine blk_drew ?_ | refine blk_alloc ?_ _));exact BK442.out) hb)
             have n2_ := Aside0.mk (below_step (by repeat (first | (with_reducible first | exact HB.out | apply below_alloc | apply pw_below_drewN | apply below_drew1 | refine below_set ?_ GE442.out) | exact HB.out)) hb)
             clear HO_3
             clear BK442
             clear HB
             have HO_3 := n0_
             have BK442 := n1_
             have HB := n2_
             clear n0_ n1_ n2_
             (try clear hb)
             (try clear hb2)
             (try clear hk)
             (try clear hi)
             refine hK.out _ _ ⟨(blk_cell BK442.out 0).trans rfl,(blk_cell BK442.out 1).trans rfl,(blk_cell BK442.out 2).trans rfl,(blk_cell BK442.out 3).trans rfl⟩ (fun hHeld => ?_)
             clear hK K
             refine norm_ (a' := ?_) ?_ ?_
             rotate_left
             ·show Act.put _ (some 43) _ = _
              simp only [Act.put,List.setIfInBounds_toArray,List.set_cons_zero,List.set_cons_succ,i64_w,i32_w]
              rfl
             refine pure_ (i := 24) (N := some 46) (v := ?_) (a' := ?_) #[uI,uI,uI,uI,uI,uI,uI,uI,uI,uI,uI,uI,uI,uI,uI,uI,uI,uI,uI,uI,uI,uI,uI,uI,uI,uO,uO,uO,uO,uO,uO,uO,uO,uO,uO,uO,uO,uO,uO,uO,uO,uO,uO,uO,uO,uO,uO,uO,uO,uO,uO] rfl rfl (any_of HT_.out (by kernel_rfl)) (fun _ _ _ h => h) (Or.inl ⟨by rfl,?_⟩) ?_ ?_
             rotate_left
             ·intro w'
              go_simp
              with_reducible rfl
             rotate_left
             ·simp only [Act.put,List.setIfInBounds_toArray,List.set_cons_zero,List.set_cons_succ,i64_w,i32_w]
              rfl
             refine pure_ (i := 25) (N := some 47) (v := ?_) (a' := ?_) #[uI,uI,uI,uI,uI,uI,uI,uI,uI,uI,uI,uI,uI,uI,uI,uI,uI,uI,uI,uI,uI,uI,uI,uI,uI,uI,uO,uO,uO,uO,uO,uO,uO,uO,uO,uO,uO,uO,uO,uO,uO,uO,uO,uO,uO,uO,uO,uO,uO,uO,uO] rfl rfl (any_of HT_.out (by kernel_rfl)) (fun _ _ _ h => h) (Or.inl ⟨by rfl,?_⟩) ?_ ?_
             rotate_left
             ·intro w'
              go_simp
              with_reducible rfl
             rotate_left
             ·simp only [Act.put,List.setIfInBounds_toArray,List.set_cons_zero,List.set_cons_succ,i64_w,i32_w]
              rfl
             refine pure_ (i := 26) (N := some 48) (v := ?_) (a' := ?_) #[uI,uI,uI,uI,uI,uI,uI,uI,uI,uI,uI,uI,uI,uI,uI,uI,uI,uI,uI,uI,uI,uI,uI,uI,uI,uI,uI,uO,uO,uO,uO,uO,uO,uO,uO,uO,uO,uO,uO,uO,uO,uO,uO,uO,uO,uO,uO,uO,uO,uO,uO] rfl rfl (any_of HT_.out (by kernel_rfl)) (fun _ _ _ h => h) (Or.inl ⟨by rfl,?_⟩) ?_ ?_
             rotate_left
             ·intro w'
              go_simp
              with_reducible rfl
             rotate_left
             ·simp only [Act.put,List.setIfInBounds_toArray,List.set_cons_zero,List.set_cons_succ,i64_w,i32_w]
              rfl
             refine pure_ (i := 27) (N := some 49) (v := ?_) (a' := ?_) #[uI,uI,uI,uI,uI,uI,uI,uI,uI,uI,uI,uI,uI,uI,uI,uI,uI,uI,uI,uI,uI,uI,uI,uI,uI,uI,uI,uI,uO,uO,uO,uO,uO,uO,uO,uO,uO,uO,uO,uO,uO,uO,uO,uO,uO,uO,uO,uO,uO,uO,uO] rfl rfl (any_of HT_.out (by kernel_rfl)) (fun _ _ _ h => h) (Or.inl ⟨by rfl,?_⟩) ?_ ?_
             rotate_left
             ·intro w'
              go_simp
              with_reducible rfl
             rotate_left
             ·simp only [Act.put,List.setIfInBounds_toArray,List.set_cons_zero,List.set_cons_succ,i64_w,i32_w]
              rfl
             refine pure_ (i := 28) (N := some 50) (v := ?_) (a' := ?_) #[uI,uI,uI,uI,uI,uI,uI,uI,uI,uI,uI,uI,uI,uI,uI,uI,uI,uI,uI,uI,uI,uI,uI,uI,uI,uI,uI,uI,uI,uO,uO,uO,uO,uO,uO,uO,uO,uO,uO,uO,uO,uO,uO,uO,uO,uO,uO,uO,uO,uO,uO] rfl rfl (any_of HT_.out (by kernel_rfl)) (fun _ _ _ h => h) (Or.inl ⟨by rfl,?_⟩) ?_ ?_
             rotate_left
             ·intro w'
              go_simp
              with_reducible rfl
             rotate_left
             ·simp only [Act.put,List.setIfInBounds_toArray,List.set_cons_zero,List.set_cons_succ,i64_w,i32_w]
              rfl
             refine pure_ (i := 31) (N := some 53) (v := ?_) (a' := ?_) #[uI,uI,uI,uI,uI,uI,uI,uI,uI,uI,uI,uI,uI,uI,uI,uI,uI,uI,uI,uI,uI,uI,uI,uI,uI,uI,uI,uI,uI,uO,uO,uI,uO,uO,uO,uO,uO,uO,uO,uO,uO,uO,uO,uO,uO,uO,uO,uO,uO,uO,uO] rfl rfl (any_of HT_.out (by kernel_rfl)) (fun _ _ _ h => h) (Or.inl ⟨by rfl,?_⟩) ?_ ?_
             rotate_left
             ·intro w'
              go_simp
              with_reducible rfl
             rotate_left
             ·simp only [Act.put,List.setIfInBounds_toArray,List.set_cons_zero,List.set_cons_succ,i64_w,i32_w]
              rfl
             refine take_ (i := 29) (N := some 51) (v := ?_) (a' := ?_) #[uI,uI,uI,uI,uI,uI,uI,uI,uI,uI,uI,uI,uI,uI,uI,uI,uI,uI,uI,uI,uI,uI,uI,uI,uI,uI,uI,uI,uI,uI,uO,uI,uO,uO,uO,uO,uO,uO,uO,uO,uO,uO,uO,uO,uO,uO,uO,uO,uO,uO,uO] rfl rfl (take_ofW HT_.out HW_.out (by kernel_rfl)) (fun _ _ _ h => h) (Or.inl ⟨by rfl,?_⟩) hHeld ?_ ?_
             rotate_left
             ·rintro w' ⟨s0,s1,s2,s3⟩
              go_simp
              with_reducible rfl
             rotate_left
             ·simp only [Act.put,List.setIfInBounds_toArray,List.set_cons_zero,List.set_cons_succ,i64_w,i32_w]
              rfl
             refine take_ (i := 32) (N := some 54) (v := ?_) (a' := ?_) #[uI,uI,uI,uI,uI,uI,uI,uI,uI,uI,uI,uI,uI,uI,uI,uI,uI,uI,uI,uI,uI,uI,uI,uI,uI,uI,uI,uI,uI,uI,uO,uI,uI,uO,uO,uO,uO,uO,uO,uO,uO,uO,uO,uO,uO,uO,uO,uO,uO,uO,uO] rfl rfl (take_ofW HT_.out HW_.out (by kernel_rfl)) (fun _ _ _ h => h) (Or.inl ⟨by rfl,?_⟩) hHeld ?_ ?_
             rotate_left
             ·rintro w' ⟨s0,s1,s2,s3⟩
              go_simp
              with_reducible rfl
             rotate_left
             ·simp only [Act.put,List.setIfInBounds_toArray,List.set_cons_zero,List.set_cons_succ,i64_w,i32_w]
              rfl
             refine one_ (i := 30) (N := some 52) #[uI,uI,uI,uI,uI,uI,uI,uI,uI,uI,uI,uI,uI,uI,uI,uI,uI,uI,uI,uI,uI,uI,uI,uI,uI,uI,uI,uI,uI,uI,uI,uI,uI,uO,uO,uO,uO,uO,uO,uO,uO,uO,uO,uO,uO,uO,uO,uO,uO,uO,uO] rfl rfl (one_of HT_.out (by kernel_rfl)) (by decide) (fun K hK => ?_)
             refine goes_ Tryd.func48 (by kernel_rfl) rfl #[.string a0,.int .i64 ((rd_T53 t438 x5_1).f1)] (by rfl) rfl rfl (by (try simp only [List.map_toArray,List.map_cons,List.map_nil]);first | done | rfl | (simp only [List.length_drop,List.length_take];rfl)) ?_
             with_reducible refine (cluster_Prev.calls k1 a0 ((rd_T53 t438 x5_1).f1) t444 _ ?side1 A22.out).mono ?_
             (case side1 => exact tabs_below HT.out (by repeat (first | (with_reducible first | exact HB.out | apply below_alloc | apply pw_below_drewN | apply below_drew1 | refine below_set ?_ GE442.out) | exact HB.out)))
             rintro e w30 ⟨rfl,hb⟩
             refine ⟨_,rfl,?_⟩
             have n0_ := Aside0.mk (Kd.R_below (by (with_reducible repeat (first | apply Kd.R_alloc | apply Kd.R_drewN | apply Kd.R_drew));exact HO_3.out) hb)
             have n1_ := Aside0.mk (blk_below (g := gb442) (o := .cells #[.int .i64 ((rd_T53 t438 x5_1).f0),.int .i64 ((rd_T53 t438 x5_1).f1),.int .i64 ((rd_T53 t438 x5_1).f2),.int .i64 ((rd_T53 t438 x5_1).f3)] 53 (0,0)) (by (with_reducible repeat (first | refine blk_drewN ?_ _ | refine blk_drew ?_ | refine blk_alloc ?_ _));exact BK442.out) hb)
             have n2_ := Aside0.mk (below_step (by repeat (first | (with_reducible first | exact HB.out | apply below_alloc | apply pw_below_drewN | apply below_drew1 | refine below_set ?_ GE442.out) | exact HB.out)) hb)
             clear HO_3
             clear BK442
             clear HB
             have HO_3 := n0_
             have BK442 := n1_
             have HB := n2_
             clear n0_ n1_ n2_
             (try clear hb)
             (try clear hb2)
             (try clear hk)
             (try clear hi)
             refine hK.out _ _ ⟨(blk_cell BK442.out 0).trans rfl,(blk_cell BK442.out 1).trans rfl,(blk_cell BK442.out 2).trans rfl,(blk_cell BK442.out 3).trans rfl⟩ (fun hHeld => ?_)
             clear hK K
             refine norm_ (a' := ?_) ?_ ?_
             rotate_left
             ·show Act.put _ (some 52) _ = _
              simp only [Act.put,List.setIfInBounds_toArray,List.set_cons_zero,List.set_cons_succ,i64_w,i32_w]
              rfl
             refine pure_ (i := 33) (N := some 55) (v := ?_) (a' := ?_) #[uI,uI,uI,uI,uI,uI,uI,uI,uI,uI,uI,uI,uI,uI,uI,uI,uI,uI,uI,uI,uI,uI,uI,uI,uI,uI,uI,uI,uI,uI,uI,uI,uI,uI,uO,uO,uO,uO,uO,uO,uO,uO,uO,uO,uO,uO,uO,uO,uO,uO,uO] rfl rfl (any_of HT_.out (by kernel_rfl)) (fun _ _ _ h => h) (Or.inl ⟨by rfl,?_⟩) ?_ ?_
             rotate_left
             ·intro w'
              go_simp
              with_reducible rfl
             rotate_left
             ·simp only [Act.put,List.setIfInBounds_toArray,List.set_cons_zero,List.set_cons_succ,i64_w,i32_w]
              rfl
             refine pure_ (i := 34) (N := some 56) (v := ?_) (a' := ?_) #[uI,uI,uI,uI,uI,uI,uI,uI,uI,uI,uI,uI,uI,uI,uI,uI,uI,uI,uI,uI,uI,uI,uI,uI,uI,uI,uI,uI,uI,uI,uI,uI,uI,uI,uI,uO,uO,uO,uO,uO,uO,uO,uO,uO,uO,uO,uO,uO,uO,uO,uO] rfl rfl (any_of HT_.out (by kernel_rfl)) (fun _ _ _ h => h) (Or.inl ⟨by rfl,?_⟩) ?_ ?_
             rotate_left
             ·intro w'
              go_simp
              with_reducible rfl
             rotate_left
             ·simp only [Act.put,List.setIfInBounds_toArray,List.set_cons_zero,List.set_cons_succ,i64_w,i32_w]
              rfl
             refine pure_ (i := 35) (N := some 57) (v := ?_) (a' := ?_) #[uI,uI,uI,uI,uI,uI,uI,uI,uI,uI,uI,uI,uI,uI,uI,uI,uI,uI,uI,uI,uI,uI,uI,uI,uI,uI,uI,uI,uI,uI,uI,uI,uI,uI,uI,uI,uO,uO,uO,uO,uO,uO,uO,uO,uO,uO,uO,uO,uO,uO,uO] rfl rfl (any_of HT_.out (by kernel_rfl)) (fun _ _ _ h => h) (Or.inl ⟨by rfl,?_⟩) ?_ ?_
             rotate_left
             ·intro w'
              go_simp
              with_reducible rfl
             rotate_left
             ·simp only [Act.put,List.setIfInBounds_toArray,List.set_cons_zero,List.set_cons_succ,i64_w,i32_w]
              rfl
             refine pure_ (i := 36) (N := some 58) (v := ?_) (a' := ?_) #[uI,uI,uI,uI,uI,uI,uI,uI,uI,uI,uI,uI,uI,uI,uI,uI,uI,uI,uI,uI,uI,uI,uI,uI,uI,uI,uI,uI,uI,uI,uI,uI,uI,uI,uI,uI,uI,uO,uO,uO,uO,uO,uO,uO,uO,uO,uO,uO,uO,uO,uO] rfl rfl (any_of HT_.out (by kernel_rfl)) (fun _ _ _ h => h) (Or.inl ⟨by rfl,?_⟩) ?_ ?_
             rotate_left
             ·intro w'
              go_simp
              with_reducible rfl
             rotate_left
             ·simp only [Act.put,List.setIfInBounds_toArray,List.set_cons_zero,List.set_cons_succ,i64_w,i32_w]
              rfl
             refine pure_ (i := 37) (N := some 59) (v := ?_) (a' := ?_) #[uI,uI,uI,uI,uI,uI,uI,uI,uI,uI,uI,uI,uI,uI,uI,uI,uI,uI,uI,uI,uI,uI,uI,uI,uI,uI,uI,uI,uI,uI,uI,uI,uI,uI,uI,uI,uI,uI,uO,uO,uO,uO,uO,uO,uO,uO,uO,uO,uO,uO,uO] rfl rfl (any_of HT_.out (by kernel_rfl)) (fun _ _ _ h => h) (Or.inl ⟨by rfl,?_⟩) ?_ ?_
             rotate_left
             ·intro w'
              go_simp
              with_reducible rfl
             rotate_left
             ·simp only [Act.put,List.setIfInBounds_toArray,List.set_cons_zero,List.set_cons_succ,i64_w,i32_w]
              rfl
             refine take_ (i := 38) (N := some 60) (v := ?_) (a' := ?_) #[uI,uI,uI,uI,uI,uI,uI,uI,uI,uI,uI,uI,uI,uI,uI,uI,uI,uI,uI,uI,uI,uI,uI,uI,uI,uI,uI,uI,uI,uI,uI,uI,uI,uI,uI,uI,uI,uI,uI,uO,uO,uO,uO,uO,uO,uO,uO,uO,uO,uO,uO] rfl rfl (take_ofW HT_.out HW_.out (by kernel_rfl)) (fun _ _ _ h => h) (Or.inl ⟨by rfl,?_⟩) hHeld ?_ ?_
             rotate_left
             ·rintro w' ⟨s0,s1,s2,s3⟩
              go_simp
              with_reducible rfl
             rotate_left
             ·simp only [Act.put,List.setIfInBounds_toArray,List.set_cons_zero,List.set_cons_succ,i64_w,i32_w]
              rfl
             refine one_ (i := 39) (N := some 61) #[uI,uI,uI,uI,uI,uI,uI,uI,uI,uI,uI,uI,uI,uI,uI,uI,uI,uI,uI,uI,uI,uI,uI,uI,uI,uI,uI,uI,uI,uI,uI,uI,uI,uI,uI,uI,uI,uI,uI,uI,uO,uO,uO,uO,uO,uO,uO,uO,uO,uO,uO] rfl rfl (one_of HT_.out (by kernel_rfl)) (by decide) (fun K hK => ?_)
             refine goes_ Tryd.func42 (by kernel_rfl) rfl #[.string a0,.int .i64 ((rd_T53 t438 x5_1).f1)] (by rfl) rfl rfl (by (try simp only [List.map_toArray,List.map_cons,List.map_nil]);first | done | rfl | (simp only [List.length_drop,List.length_take];rfl)) ?_
             with_reducible refine (cluster_Boundary.calls k1 a0 ((rd_T53 t438 x5_1).f1) true _ ?side1 A24.out).mono ?_
             (case side1 => exact tabs_below HT.out (by repeat (first | (with_reducible first | exact HB.out | apply below_alloc | apply pw_below_drewN | apply below_drew1 | refine below_set ?_ GE442.out) | exact HB.out)))
             rintro e w31 ⟨rfl,hb⟩
             refine ⟨_,rfl,?_⟩
             have n0_ := Aside0.mk (Kd.R_below (by (with_reducible repeat (first | apply Kd.R_alloc | apply Kd.R_drewN | apply Kd.R_drew));exact HO_3.out) hb)
             have n1_ := Aside0.mk (blk_below (g := gb442) (o := .cells #[.int .i64 ((rd_T53 t438 x5_1).f0),.int .i64 ((rd_T53 t438 x5_1).f1),.int .i64 ((rd_T53 t438 x5_1).f2),.int .i64 ((rd_T53 t438 x5_1).f3)] 53 (0,0)) (by (with_reducible repeat (first | refine blk_drewN ?_ _ | refine blk_drew ?_ | refine blk_alloc ?_ _));exact BK442.out) hb)
             have n2_ := Aside0.mk (below_step (by repeat (first | (with_reducible first | exact HB.out | apply below_alloc | apply pw_below_drewN | apply below_drew1 | refine below_set ?_ GE442.out) | exact HB.out)) hb)
             clear HO_3
             clear BK442
             clear HB
             have HO_3 := n0_
             have BK442 := n1_
             have HB := n2_
             clear n0_ n1_ n2_
             (try clear hb)
             (try clear hb2)
             (try clear hk)
             (try clear hi)
             refine hK.out _ _ ⟨(blk_cell BK442.out 0).trans rfl,(blk_cell BK442.out 1).trans rfl,(blk_cell BK442.out 2).trans rfl,(blk_cell BK442.out 3).trans rfl⟩ (fun hHeld => ?_)
             clear hK K
             refine norm_ (a' := ?_) ?_ ?_
             rotate_left
             ·show Act.put _ (some 61) _ = _
              simp only [Act.put,List.setIfInBounds_toArray,List.set_cons_zero,List.set_cons_succ,i64_w,i32_w]
              rfl
             refine pure_ (i := 40) (N := some 62) (v := ?_) (a' := ?_) #[uI,uI,uI,uI,uI,uI,uI,uI,uI,uI,uI,uI,uI,uI,uI,uI,uI,uI,uI,uI,uI,uI,uI,uI,uI,uI,uI,uI,uI,uI,uI,uI,uI,uI,uI,uI,uI,uI,uI,uI,uI,uO,uO,uO,uO,uO,uO,uO,uO,uO,uO] rfl rfl (any_of HT_.out (by kernel_rfl)) (fun _ _ _ h => h) (Or.inl ⟨by rfl,?_⟩) ?_ ?_
             rotate_left
             ·intro w'
              go_simp
              with_reducible rfl
             rotate_left
             ·simp only [Act.put,List.setIfInBounds_toArray,List.set_cons_zero,List.set_cons_succ,i64_w,i32_w]
              rfl
             refine pure_ (i := 41) (N := some 63) (v := ?_) (a' := ?_) #[uI,uI,uI,uI,uI,uI,uI,uI,uI,uI,uI,uI,uI,uI,uI,uI,uI,uI,uI,uI,uI,uI,uI,uI,uI,uI,uI,uI,uI,uI,uI,uI,uI,uI,uI,uI,uI,uI,uI,uI,uI,uI,uO,uO,uO,uO,uO,uO,uO,uO,uO] rfl rfl (any_of HT_.out (by kernel_rfl)) (fun _ _ _ h => h) (Or.inl ⟨by rfl,?_⟩) ?_ ?_
             rotate_left
             ·intro w'
              go_simp
              with_reducible rfl
             rotate_left
             ·simp only [Act.put,List.setIfInBounds_toArray,List.set_cons_zero,List.set_cons_succ,i64_w,i32_w]
              rfl
             refine pure_ (i := 42) (N := some 64) (v := ?_) (a' := ?_) #[uI,uI,uI,uI,uI,uI,uI,uI,uI,uI,uI,uI,uI,uI,uI,uI,uI,uI,uI,uI,uI,uI,uI,uI,uI,uI,uI,uI,uI,uI,uI,uI,uI,uI,uI,uI,uI,uI,uI,uI,uI,uI,uI,uO,uO,uO,uO,uO,uO,uO,uO] rfl rfl (any_of HT_.out (by kernel_rfl)) (fun _ _ _ h => h) (Or.inl ⟨by rfl,?_⟩) ?_ ?_
             rotate_left
             ·intro w'
              go_simp
              with_reducible rfl
             rotate_left
             ·simp only [Act.put,List.setIfInBounds_toArray,List.set_cons_zero,List.set_cons_succ,i64_w,i32_w]
              rfl
             refine pure_ (i := 43) (N := some 65) (v := ?_) (a' := ?_) #[uI,uI,uI,uI,uI,uI,uI,uI,uI,uI,uI,uI,uI,uI,uI,uI,uI,uI,uI,uI,uI,uI,uI,uI,uI,uI,uI,uI,uI,uI,uI,uI,uI,uI,uI,uI,uI,uI,uI,uI,uI,uI,uI,uI,uO,uO,uO,uO,uO,uO,uO] rfl rfl (any_of HT_.out (by kernel_rfl)) (fun _ _ _ h => h) (Or.inl ⟨by rfl,?_⟩) ?_ ?_
             rotate_left
             ·intro w'
              go_simp
              with_reducible rfl
             rotate_left
             ·simp only [Act.put,List.setIfInBounds_toArray,List.set_cons_zero,List.set_cons_succ,i64_w,i32_w]
              rfl
             refine pure_ (i := 44) (N := some 66) (v := ?_) (a' := ?_) #[uI,uI,uI,uI,uI,uI,uI,uI,uI,uI,uI,uI,uI,uI,uI,uI,uI,uI,uI,uI,uI,uI,uI,uI,uI,uI,uI,uI,uI,uI,uI,uI,uI,uI,uI,uI,uI,uI,uI,uI,uI,uI,uI,uI,uI,uO,uO,uO,uO,uO,uO] rfl rfl (any_of HT_.out (by kernel_rfl)) (fun _ _ _ h => h) (Or.inl ⟨by rfl,?_⟩) ?_ ?_
             rotate_left
             ·intro w'
              go_simp
              with_reducible rfl
             rotate_left
             ·simp only [Act.put,List.setIfInBounds_toArray,List.set_cons_zero,List.set_cons_succ,i64_w,i32_w]
              rfl
             refine pure_ (i := 47) (N := some 69) (v := ?_) (a' := ?_) #[uI,uI,uI,uI,uI,uI,uI,uI,uI,uI,uI,uI,uI,uI,uI,uI,uI,uI,uI,uI,uI,uI,uI,uI,uI,uI,uI,uI,uI,uI,uI,uI,uI,uI,uI,uI,uI,uI,uI,uI,uI,uI,uI,uI,uI,uO,uO,uI,uO,uO,uO] rfl rfl (any_of HT_.out (by kernel_rfl)) (fun _ _ _ h => h) (Or.inl ⟨by rfl,?_⟩) ?_ ?_
             rotate_left
             ·intro w'
              go_simp
              with_reducible rfl
             rotate_left
             ·simp only [Act.put,List.setIfInBounds_toArray,List.set_cons_zero,List.set_cons_succ,i64_w,i32_w]
              rfl
             refine take_ (i := 45) (N := some 67) (v := ?_) (a' := ?_) #[uI,uI,uI,uI,uI,uI,uI,uI,uI,uI,uI,uI,uI,uI,uI,uI,uI,uI,uI,uI,uI,uI,uI,uI,uI,uI,uI,uI,uI,uI,uI,uI,uI,uI,uI,uI,uI,uI,uI,uI,uI,uI,uI,uI,uI,uI,uO,uI,uO,uO,uO] rfl rfl (take_ofW HT_.out HW_.out (by kernel_rfl)) (fun _ _ _ h => h) (Or.inl ⟨by rfl,?_⟩) hHeld ?_ ?_
             rotate_left
             ·rintro w' ⟨s0,s1,s2,s3⟩
              go_simp
              with_reducible rfl
             rotate_left
             ·simp only [Act.put,List.setIfInBounds_toArray,List.set_cons_zero,List.set_cons_succ,i64_w,i32_w]
              rfl
             refine take_ (i := 48) (N := some 70) (v := ?_) (a' := ?_) #[uI,uI,uI,uI,uI,uI,uI,uI,uI,uI,uI,uI,uI,uI,uI,uI,uI,uI,uI,uI,uI,uI,uI,uI,uI,uI,uI,uI,uI,uI,uI,uI,uI,uI,uI,uI,uI,uI,uI,uI,uI,uI,uI,uI,uI,uI,uO,uI,uI,uO,uO] rfl rfl (take_ofW HT_.out HW_.out (by kernel_rfl)) (fun _ _ _ h => h) (Or.inl ⟨by rfl,?_⟩) hHeld ?_ ?_
             rotate_left
             ·rintro w' ⟨s0,s1,s2,s3⟩
              go_simp
              with_reducible rfl
             rotate_left
             ·simp only [Act.put,List.setIfInBounds_toArray,List.set_cons_zero,List.set_cons_succ,i64_w,i32_w]
              rfl
             refine one_ (i := 46) (N := some 68) #[uI,uI,uI,uI,uI,uI,uI,uI,uI,uI,uI,uI,uI,uI,uI,uI,uI,uI,uI,uI,uI,uI,uI,uI,uI,uI,uI,uI,uI,uI,uI,uI,uI,uI,uI,uI,uI,uI,uI,uI,uI,uI,uI,uI,uI,uI,uI,uI,uI,uO,uO] rfl rfl (one_of HT_.out (by kernel_rfl)) (by decide) (fun K hK => ?_)
             refine goes_ Tryd.func50 (by kernel_rfl) rfl #[.string a0,.int .i64 ((rd_T53 t438 x5_1).f1)] (by rfl) rfl rfl (by (try simp only [List.map_toArray,List.map_cons,List.map_nil]);first | done | rfl | (simp only [List.length_drop,List.length_take];rfl)) ?_
             with_reducible refine (cluster_Snap.calls k1 a0 ((rd_T53 t438 x5_1).f1) t446 _ ?side1 A26.out).mono ?_
             (case side1 => exact tabs_below HT.out (by repeat (first | (with_reducible first | exact HB.out | apply below_alloc | apply pw_below_drewN | apply below_drew1 | refine below_set ?_ GE442.out) | exact HB.out)))
             rintro e w32 ⟨rfl,hb⟩
             refine ⟨_,rfl,?_⟩
             have n0_ := Aside0.mk (Kd.R_below (by (with_reducible repeat (first | apply Kd.R_alloc | apply Kd.R_drewN | apply Kd.R_drew));exact HO_3.out) hb)
             have n1_ := Aside0.mk (blk_below (g := gb442) (o := .cells #[.int .i64 ((rd_T53 t438 x5_1).f0),.int .i64 ((rd_T53 t438 x5_1).f1),.int .i64 ((rd_T53 t438 x5_1).f2),.int .i64 ((rd_T53 t438 x5_1).f3)] 53 (0,0)) (by (with_reducible repeat (first | refine blk_drewN ?_ _ | refine blk_drew ?_ | refine blk_alloc ?_ _));exact BK442.out) hb)
             have n2_ := Aside0.mk (below_step (by repeat (first | (with_reducible first | exact HB.out | apply below_alloc | apply pw_below_drewN | apply below_drew1 | refine below_set ?_ GE442.out) | exact HB.out)) hb)
             clear HO_3
             clear BK442
             clear HB
             have HO_3 := n0_
             have BK442 := n1_
             have HB := n2_
             clear n0_ n1_ n2_
             (try clear hb)
             (try clear hb2)
             (try clear hk)
             (try clear hi)
             refine hK.out _ _ ⟨(blk_cell BK442.out 0).trans rfl,(blk_cell BK442.out 1).trans rfl,(blk_cell BK442.out 2).trans rfl,(blk_cell BK442.out 3).trans rfl⟩ (fun hHeld => ?_)
             clear hK K
             refine norm_ (a' := ?_) ?_ ?_
             rotate_left
             ·show Act.put _ (some 68) _ = _
              simp only [Act.put,List.setIfInBounds_toArray,List.set_cons_zero,List.set_cons_succ,i64_w,i32_w]
              rfl
             refine pure_ (i := 49) (N := some 71) (v := ?_) (a' := ?_) #[uI,uI,uI,uI,uI,uI,uI,uI,uI,uI,uI,uI,uI,uI,uI,uI,uI,uI,uI,uI,uI,uI,uI,uI,uI,uI,uI,uI,uI,uI,uI,uI,uI,uI,uI,uI,uI,uI,uI,uI,uI,uI,uI,uI,uI,uI,uI,uI,uI,uI,uO] rfl rfl (any_of HT_.out (by kernel_rfl)) (fun _ _ _ h => h) (Or.inl ⟨by rfl,?_⟩) ?_ ?_
             rotate_left
             ·intro w'
              go_simp
              with_reducible rfl
             rotate_left
             ·simp only [Act.put,List.setIfInBounds_toArray,List.set_cons_zero,List.set_cons_succ,i64_w,i32_w]
              rfl
             refine pure_ (i := 50) (N := some 72) (v := ?_) (a' := ?_) #[uI,uI,uI,uI,uI,uI,uI,uI,uI,uI,uI,uI,uI,uI,uI,uI,uI,uI,uI,uI,uI,uI,uI,uI,uI,uI,uI,uI,uI,uI,uI,uI,uI,uI,uI,uI,uI,uI,uI,uI,uI,uI,uI,uI,uI,uI,uI,uI,uI,uI,uI] rfl rfl (any_of HT_.out (by kernel_rfl)) (fun _ _ _ h => h) (Or.inl ⟨by rfl,?_⟩) ?_ ?_
             rotate_left
             ·intro w'
              go_simp
              with_reducible rfl
             rotate_left
             ·simp only [Act.put,List.setIfInBounds_toArray,List.set_cons_zero,List.set_cons_succ,i64_w,i32_w]
              rfl
             refine done_ (done_of HT_.out (by kernel_rfl)) ?_
             try go_wp2
             go_meet
             case rel => exact ⟨_,((t446 != ((rd_T53 t438 x5_1).f1))),(by first | rfl | (simp;done) | (simp [*];done)),H',⟨by have := HK1.out;first | omega | exact Nat.le_refl _⟩,⟨by (with_reducible repeat (first | apply Kd.R_alloc | apply Kd.R_drewN | apply Kd.R_drew));exact HO_3.out⟩,⟨by (with_reducible repeat (first | refine blk_drewN ?_ _ | refine blk_drew ?_ | refine blk_alloc ?_ _));exact BK442.out⟩,⟨by repeat (first | (with_reducible first | exact HB.out | apply below_alloc | apply pw_below_drewN | apply below_drew1 | refine below_set ?_ GE442.out) | exact HB.out)⟩⟩
            ·replace c25 := Bool.eq_false_iff.mpr c25
             subst c25
             have H1 : (bodkinlaw03_ClusterSteps.j1 k1 a0 t438 x5_1 true ((rd_T53 t438 x5_1).f0) ((rd_T53 t438 x5_1).f1) ((rd_T53 t438 x5_1).f2) ((rd_T53 t438 x5_1).f3)) = some r := by rw [if_neg (show ¬ (false = true) by decide)] at H;exact H
             clear H
             have H := H1
             clear H1
             exfalso
             subst hr_
             cases k1 <;> simp [bodkinlaw03_ClusterSteps.j1] at H
           ·rw [if_neg c23] at H
            exfalso
            subst hr_
            cases k1 <;> simp [bodkinlaw03_ClusterSteps.j1] at H
          ·rw [if_neg c21] at H
           exfalso
           subst hr_
           cases k1 <;> simp [bodkinlaw03_ClusterSteps.j1] at H
       ·rw [if_neg c13] at H
        exfalso
        subst hr_
        cases k1 <;> simp [bodkinlaw03_ClusterSteps.j1] at H
      case rest =>
       clear HC9
       try clear c1
       try clear p2
       try clear c4
       try clear c13
       try clear c13b0
       try clear c13b1
       try clear c46
       obtain ⟨kq,x72_8,rfl,HA,HJ8,HO_3,BK442,HB⟩ := hcut
       cases kq with
       | zero => exact absurd HA.out (by simp [bodkinlaw03_ClusterSteps.j1])
       | succ kj8 =>
        have H := HA.out
        clear HA
        simp only [bodkinlaw03_ClusterSteps.j1] at H
        by_cases c47 : x72_8 = true
        ·subst c47
         have H1 : (some false) = some r := by rw [if_pos rfl] at H;exact H
         clear H
         have H := H1
         clear H1
         obtain rfl := Option.some.inj H
         cases hr_
        ·replace c47 := Bool.eq_false_iff.mpr c47
         subst c47
         have H1 : (bodkinlaw03_ClusterSteps.l1 kj8 a0 t438 x5_1 (wrap64 (((rd_T53 t438 x5_1).f0) + 1)) ((rd_T53 t438 x5_1).f0) ((rd_T53 t438 x5_1).f1) ((rd_T53 t438 x5_1).f2) ((rd_T53 t438 x5_1).f3)) = some r := by rw [if_neg (show ¬ (false = true) by decide)] at H;exact H
         clear H
         have H := H1
         clear H1
         have H' := Aside0.mk H
         clear H
         have hcz48_0 : wc.cell? ⟨gb442,0,none⟩ = some (.int .i64 ((rd_T53 t438 x5_1).f0)) := (blk_cell BK442.out 0).trans rfl
         have hcz48_1 : wc.cell? ⟨gb442,1,none⟩ = some (.int .i64 ((rd_T53 t438 x5_1).f1)) := (blk_cell BK442.out 1).trans rfl
         have hcz48_2 : wc.cell? ⟨gb442,2,none⟩ = some (.int .i64 ((rd_T53 t438 x5_1).f2)) := (blk_cell BK442.out 2).trans rfl
         have hcz48_3 : wc.cell? ⟨gb442,3,none⟩ = some (.int .i64 ((rd_T53 t438 x5_1).f3)) := (blk_cell BK442.out 3).trans rfl
         have hfz48_0 := blk_frozen BK442.out 0
         have hfz48_1 := blk_frozen BK442.out 1
         have hfz48_2 := blk_frozen BK442.out 2
         have hfz48_3 := blk_frozen BK442.out 3
         go_wp2
         go_loopg [7] kj8 (fun kq v7 w' => ∃ (x7_3 : Int),v7 = .int .i64 x7_3 ∧ Aside0 (bodkinlaw03_ClusterSteps.l1 kq a0 t438 x5_1 x7_3 ((rd_T53 t438 x5_1).f0) ((rd_T53 t438 x5_1).f1) ((rd_T53 t438 x5_1).f2) ((rd_T53 t438 x5_1).f3) = some r) ∧ Aside0 (kq ≤ kj8) ∧ Aside0 (Kd.R k53 53 w' w.heap.size (fun k_ => k_ ≠ gb442) (.slice (some ad441) t438.length co10) t438) ∧ Aside0 (w'.heap[gb442]? = some (.cells #[.int .i64 ((rd_T53 t438 x5_1).f0),.int .i64 ((rd_T53 t438 x5_1).f1),.int .i64 ((rd_T53 t438 x5_1).f2),.int .i64 ((rd_T53 t438 x5_1).f3)] 53 (0,0))) ∧ Aside0 (Below w.heap.size w w'))
         case atStart => exact ⟨(wrap64 (((rd_T53 t438 x5_1).f0) + 1)),(by first | rfl | (simp;done) | (simp [*];done)),H',⟨Nat.le_refl _⟩,⟨by (with_reducible repeat (first | apply Kd.R_alloc | apply Kd.R_drewN | apply Kd.R_drew));exact HO_3.out⟩,⟨by (with_reducible repeat (first | refine blk_drewN ?_ _ | refine blk_drew ?_ | refine blk_alloc ?_ _));exact BK442.out⟩,⟨by repeat (first | (with_reducible first | exact HB.out | apply below_alloc | apply pw_below_drewN | apply below_drew1 | refine below_set ?_ GE442.out) | exact HB.out)⟩⟩
         case round =>
          clear H'
          try clear c1
          try clear p2
          try clear c4
          try clear p6
          try clear c13
          try clear c13b0
          try clear c13b1
          try clear c46
          try clear c47
          try clear hcz48_0
          try clear hcz48_1
          try clear hcz48_2
          try clear hcz48_3
          try clear hfz48_0
          try clear hfz48_1
          try clear hfz48_2
          try clear hfz48_3
          try clear p2
          obtain ⟨x7_3,rfl,HA,HK3,HO_3,BK442,HB⟩ := hrel
          cases gk with
          | zero => exact absurd HA.out (by simp [bodkinlaw03_ClusterSteps.l1])
          | succ k3 =>
           have H := HA.out
           clear HA
           simp only [bodkinlaw03_ClusterSteps.l1] at H
           have HC49 := Aside0.mk H
           clear H
           go_upto_region 12 with (fail)
           go_cut [86] (fun v86 wc => ∃ (kq : Nat) (x86_48 : Bool),v86 = .bool x86_48 ∧ Aside0 (bodkinlaw03_ClusterSteps.j3 kq a0 t438 x5_1 x7_3 x86_48 ((rd_T53 t438 x5_1).f0) ((rd_T53 t438 x5_1).f1) ((rd_T53 t438 x5_1).f2) ((rd_T53 t438 x5_1).f3) = some r) ∧ Aside0 (kq ≤ k3) ∧ Aside0 (Kd.R k53 53 wc w.heap.size (fun k_ => k_ ≠ gb442) (.slice (some ad441) t438.length co10) t438) ∧ Aside0 (wc.heap[gb442]? = some (.cells #[.int .i64 ((rd_T53 t438 x5_1).f0),.int .i64 ((rd_T53 t438 x5_1).f1),.int .i64 ((rd_T53 t438 x5_1).f2),.int .i64 ((rd_T53 t438 x5_1).f3)] 53 (0,0))) ∧ Aside0 (Below w.heap.size w wc))
           case first =>
            have H := HC49.out
            clear HC49
            by_cases c50 : x7_3 < ((rd_T53 t438 x5_1).f1)
            ·rw [if_pos c50] at H
             have c50b0 : decide (x7_3 < ((rd_T53 t438 x5_1).f1)) = true := decide_eq_true c50
             clear c50
             (first | rw [c50b0] | (simp only [i64_w,i32_w];rw [c50b0]) | skip)
             have H' := Aside0.mk H
             clear H
             have hcz51_0 : wr.cell? ⟨gb442,0,none⟩ = some (.int .i64 ((rd_T53 t438 x5_1).f0)) := (blk_cell BK442.out 0).trans rfl
             have hcz51_1 : wr.cell? ⟨gb442,1,none⟩ = some (.int .i64 ((rd_T53 t438 x5_1).f1)) := (blk_cell BK442.out 1).trans rfl
             have hcz51_2 : wr.cell? ⟨gb442,2,none⟩ = some (.int .i64 ((rd_T53 t438 x5_1).f2)) := (blk_cell BK442.out 2).trans rfl
             have hcz51_3 : wr.cell? ⟨gb442,3,none⟩ = some (.int .i64 ((rd_T53 t438 x5_1).f3)) := (blk_cell BK442.out 3).trans rfl
             have hfz51_0 := blk_frozen BK442.out 0
             have hfz51_1 := blk_frozen BK442.out 1
             have hfz51_2 := blk_frozen BK442.out 2
             have hfz51_3 := blk_frozen BK442.out 3
             go_wp2
             go_meet
             case rel => exact ⟨_,(decide (x7_3 < (wrap64 (((rd_T53 t438 x5_1).f0) + 70)))),(by first | rfl | (simp;done) | (simp [*];done)),H',⟨by have := HK1.out;have := HJ8.out;have := HK3.out;first | omega | exact Nat.le_refl _⟩,⟨by (with_reducible repeat (first | apply Kd.R_alloc | apply Kd.R_drewN | apply Kd.R_drew));exact HO_3.out⟩,⟨by (with_reducible repeat (first | refine blk_drewN ?_ _ | refine blk_drew ?_ | refine blk_alloc ?_ _));exact BK442.out⟩,⟨by repeat (first | (with_reducible first | exact HB.out | apply below_alloc | apply pw_below_drewN | apply below_drew1 | refine below_set ?_ GE442.out) | exact HB.out)⟩⟩
            ·rw [if_neg c50] at H
             have c50b0 : decide (x7_3 < ((rd_T53 t438 x5_1).f1)) = false := decide_eq_false c50
             clear c50
             (first | rw [c50b0] | (simp only [i64_w,i32_w];rw [c50b0]) | skip)
             have H' := Aside0.mk H
             clear H
             have hcz52_0 : wr.cell? ⟨gb442,0,none⟩ = some (.int .i64 ((rd_T53 t438 x5_1).f0)) := (blk_cell BK442.out 0).trans rfl
             have hcz52_1 : wr.cell? ⟨gb442,1,none⟩ = some (.int .i64 ((rd_T53 t438 x5_1).f1)) := (blk_cell BK442.out 1).trans rfl
             have hcz52_2 : wr.cell? ⟨gb442,2,none⟩ = some (.int .i64 ((rd_T53 t438 x5_1).f2)) := (blk_cell BK442.out 2).trans rfl
             have hcz52_3 : wr.cell? ⟨gb442,3,none⟩ = some (.int .i64 ((rd_T53 t438 x5_1).f3)) := (blk_cell BK442.out 3).trans rfl
             have hfz52_0 := blk_frozen BK442.out 0
             have hfz52_1 := blk_frozen BK442.out 1
             have hfz52_2 := blk_frozen BK442.out 2
             have hfz52_3 := blk_frozen BK442.out 3
             go_wp2
             go_meet
             case rel => exact ⟨_,(false),(by first | rfl | (simp;done) | (simp [*];done)),H',⟨by have := HK1.out;have := HJ8.out;have := HK3.out;first | omega | exact Nat.le_refl _⟩,⟨by (with_reducible repeat (first | apply Kd.R_alloc | apply Kd.R_drewN | apply Kd.R_drew));exact HO_3.out⟩,⟨by (with_reducible repeat (first | refine blk_drewN ?_ _ | refine blk_drew ?_ | refine blk_alloc ?_ _));exact BK442.out⟩,⟨by repeat (first | (with_reducible first | exact HB.out | apply below_alloc | apply pw_below_drewN | apply below_drew1 | refine below_set ?_ GE442.out) | exact HB.out)⟩⟩
           case rest =>
            clear HC49
            try clear c1
            try clear p2
            try clear c4
            try clear c5
            try clear p6
            try clear c13
            try clear c13b0
            try clear c13b1
            try clear c46
            try clear c47
            try clear c50
            try clear c50b0
            try clear hcz48_0
            try clear hcz48_1
            try clear hcz48_2
            try clear hcz48_3
            try clear hcz51_0
            try clear hcz51_1
            try clear hcz51_2
            try clear hcz51_3
            try clear hcz52_0
            try clear hcz52_1
            try clear hcz52_2
            try clear hcz52_3
            try clear hfz48_0
            try clear hfz48_1
            try clear hfz48_2
            try clear hfz48_3
            try clear hfz51_0
            try clear hfz51_1
            try clear hfz51_2
            try clear hfz51_3
            try clear hfz52_0
            try clear hfz52_1
            try clear hfz52_2
            try clear hfz52_3
            try clear p2
            try clear p6
            obtain ⟨kq,x86_48,rfl,HA,HJ48,HO_3,BK442,HB⟩ := hcut
            cases kq with
            | zero => exact absurd HA.out (by simp [bodkinlaw03_ClusterSteps.j3])
            | succ kj48 =>
             have H := HA.out
             clear HA
             simp only [bodkinlaw03_ClusterSteps.j3] at H
             by_cases c53 : x86_48 = true
             ·subst c53
              have H1 : ((cluster_Boundary.f kj48 a0 x7_3).bind fun t447 => (if t447 = true then (some false) else ((cluster_Next.f kj48 a0 x7_3).bind fun t448 => (if t448 = ((rd_T53 t438 x5_1).f1) then ((cluster_Prev.f kj48 a0 x7_3).bind fun t449 => (if t449 = ((rd_T53 t438 x5_1).f0) then ((cluster_Snap.f kj48 a0 x7_3).bind fun t450 => (if t450 = ((rd_T53 t438 x5_1).f1) then (bodkinlaw03_ClusterSteps.l1 kj48 a0 t438 x5_1 (wrap64 (x7_3 + 1)) ((rd_T53 t438 x5_1).f0) ((rd_T53 t438 x5_1).f1) ((rd_T53 t438 x5_1).f2) ((rd_T53 t438 x5_1).f3)) else (some false))) else (some false))) else (some false))))) = some r := by rw [if_pos rfl] at H;exact H
              clear H
              have H := H1
              clear H1
              replace H := Option.bind_eq_some_iff.mp H
              obtain ⟨t447,A540,H⟩ := H
              replace H : (if t447 = true then (some false) else ((cluster_Next.f kj48 a0 x7_3).bind fun t448 => (if t448 = ((rd_T53 t438 x5_1).f1) then ((cluster_Prev.f kj48 a0 x7_3).bind fun t449 => (if t449 = ((rd_T53 t438 x5_1).f0) then ((cluster_Snap.f kj48 a0 x7_3).bind fun t450 => (if t450 = ((rd_T53 t438 x5_1).f1) then (bodkinlaw03_ClusterSteps.l1 kj48 a0 t438 x5_1 (wrap64 (x7_3 + 1)) ((rd_T53 t438 x5_1).f0) ((rd_T53 t438 x5_1).f1) ((rd_T53 t438 x5_1).f2) ((rd_T53 t438 x5_1).f3)) else (some false))) else (some false))) else (some false)))) = some r := H
              have A54 := Aside0.mk A540
              clear A540
              by_cases c55 : t447 = true
              ·subst c55
               have H1 : (some false) = some r := by rw [if_pos rfl] at H;exact H
               clear H
               have H := H1
               clear H1
               obtain rfl := Option.some.inj H
               cases hr_
              ·replace c55 := Bool.eq_false_iff.mpr c55
               subst c55
               have H1 : ((cluster_Next.f kj48 a0 x7_3).bind fun t448 => (if t448 = ((rd_T53 t438 x5_1).f1) then ((cluster_Prev.f kj48 a0 x7_3).bind fun t449 => (if t449 = ((rd_T53 t438 x5_1).f0) then ((cluster_Snap.f kj48 a0 x7_3).bind fun t450 => (if t450 = ((rd_T53 t438 x5_1).f1) then (bodkinlaw03_ClusterSteps.l1 kj48 a0 t438 x5_1 (wrap64 (x7_3 + 1)) ((rd_T53 t438 x5_1).f0) ((rd_T53 t438 x5_1).f1) ((rd_T53 t438 x5_1).f2) ((rd_T53 t438 x5_1).f3)) else (some false))) else (some false))) else (some false))) = some r := by rw [if_neg (show ¬ (false = true) by decide)] at H;exact H
               clear H
               have H := H1
               clear H1
               replace H := Option.bind_eq_some_iff.mp H
               obtain ⟨t448,A580,H⟩ := H
               replace H : (if t448 = ((rd_T53 t438 x5_1).f1) then ((cluster_Prev.f kj48 a0 x7_3).bind fun t449 => (if t449 = ((rd_T53 t438 x5_1).f0) then ((cluster_Snap.f kj48 a0 x7_3).bind fun t450 => (if t450 = ((rd_T53 t438 x5_1).f1) then (bodkinlaw03_ClusterSteps.l1 kj48 a0 t438 x5_1 (wrap64 (x7_3 + 1)) ((rd_T53 t438 x5_1).f0) ((rd_T53 t438 x5_1).f1) ((rd_T53 t438 x5_1).f2) ((rd_T53 t438 x5_1).f3)) else (some false))) else (some false))) else (some false)) = some r := H
               have A58 := Aside0.mk A580
               clear A580
               by_cases c59 : t448 = ((rd_T53 t438 x5_1).f1)
               ·rw [if_pos c59] at H
                have c59b0 : (t448 == ((rd_T53 t438 x5_1).f1)) = true := beq_iff_eq.mpr c59
                have c59b1 : (t448 != ((rd_T53 t438 x5_1).f1)) = false := bne_eq_false_iff_eq.mpr c59
                clear c59
                replace H := Option.bind_eq_some_iff.mp H
                obtain ⟨t449,A600,H⟩ := H
                replace H : (if t449 = ((rd_T53 t438 x5_1).f0) then ((cluster_Snap.f kj48 a0 x7_3).bind fun t450 => (if t450 = ((rd_T53 t438 x5_1).f1) then (bodkinlaw03_ClusterSteps.l1 kj48 a0 t438 x5_1 (wrap64 (x7_3 + 1)) ((rd_T53 t438 x5_1).f0) ((rd_T53 t438 x5_1).f1) ((rd_T53 t438 x5_1).f2) ((rd_T53 t438 x5_1).f3)) else (some false))) else (some false)) = some r := H
                have A60 := Aside0.mk A600
                clear A600
                by_cases c61 : t449 = ((rd_T53 t438 x5_1).f0)
                ·rw [if_pos c61] at H
                 have c61b0 : (t449 == ((rd_T53 t438 x5_1).f0)) = true := beq_iff_eq.mpr c61
                 have c61b1 : (t449 != ((rd_T53 t438 x5_1).f0)) = false := bne_eq_false_iff_eq.mpr c61
                 clear c61
                 replace H := Option.bind_eq_some_iff.mp H
                 obtain ⟨t450,A620,H⟩ := H
                 replace H : (if t450 = ((rd_T53 t438 x5_1).f1) then (bodkinlaw03_ClusterSteps.l1 kj48 a0 t438 x5_1 (wrap64 (x7_3 + 1)) ((rd_T53 t438 x5_1).f0) ((rd_T53 t438 x5_1).f1) ((rd_T53 t438 x5_1).f2) ((rd_T53 t438 x5_1).f3)) else (some false)) = some r := H
                 have A62 := Aside0.mk A620
                 clear A620
                 by_cases c63 : t450 = ((rd_T53 t438 x5_1).f1)
                 ·rw [if_pos c63] at H
                  have c63b0 : (t450 == ((rd_T53 t438 x5_1).f1)) = true := beq_iff_eq.mpr c63
                  have c63b1 : (t450 != ((rd_T53 t438 x5_1).f1)) = false := bne_eq_false_iff_eq.mpr c63
                  clear c63
                  have H' := Aside0.mk H
                  clear H
                  try go_wp2
                  have n0_ := Aside0.mk (Kd.R_drew HO_3.out)
                  have n1_ := Aside0.mk (blk_drew BK442.out)
                  have n2_ := Aside0.mk (below_drew1 HB.out)
                  clear HO_3
                  clear BK442
                  clear HB
                  have HO_3 := n0_
                  have BK442 := n1_
                  have HB := n2_
                  clear n0_ n1_ n2_
                  refine start_ (n := 27) (S := fun w' => w'.cell? ⟨gb442,0,none⟩ = some (.int .i64 ((rd_T53 t438 x5_1).f0)) ∧ w'.cell? ⟨gb442,1,none⟩ = some (.int .i64 ((rd_T53 t438 x5_1).f1)) ∧ w'.cell? ⟨gb442,2,none⟩ = some (.int .i64 ((rd_T53 t438 x5_1).f2)) ∧ w'.cell? ⟨gb442,3,none⟩ = some (.int .i64 ((rd_T53 t438 x5_1).f3))) (ds := []) #[uO,uO,uO,uO,uO,uO,uO,uO,uO,uO,uO,uO,uO,uO,uO,uO,uO,uO,uO,uO,uO,uO,uO,uO,uO,uO,uO] (by kernel_rfl) rfl rfl ⟨(blk_cell BK442.out 0).trans rfl,(blk_cell BK442.out 1).trans rfl,(blk_cell BK442.out 2).trans rfl,(blk_cell BK442.out 3).trans rfl⟩ (fun hHeld => ?_);refine with_tabW bodkinlaw03_ClusterSteps.tab14 bodkinlaw03_ClusterSteps.bits14 (fun HT_ HW_ => ?_)
                  generalize wc.drew = w64 at HO_3 BK442 HB hHeld ⊢
                  refine pure_ (i := 0) (N := some 89) (v := ?_) (a' := ?_) #[uI,uO,uO,uO,uO,uO,uO,uO,uO,uO,uO,uO,uO,uO,uO,uO,uO,uO,uO,uO,uO,uO,uO,uO,uO,uO,uO] rfl rfl (any_of HT_.out (by kernel_rfl)) (fun _ _ _ h => h) (Or.inl ⟨by rfl,?_⟩) ?_ ?_
                  rotate_left
                  ·intro w'
                   go_simp
                   with_reducible rfl
                  rotate_left
                  ·simp only [Act.put,List.setIfInBounds_toArray,List.set_cons_zero,List.set_cons_succ,i64_w,i32_w]
                   rfl
                  refine pure_ (i := 1) (N := some 90) (v := ?_) (a' := ?_) #[uI,uI,uO,uO,uO,uO,uO,uO,uO,uO,uO,uO,uO,uO,uO,uO,uO,uO,uO,uO,uO,uO,uO,uO,uO,uO,uO] rfl rfl (any_of HT_.out (by kernel_rfl)) (fun _ _ _ h => h) (Or.inl ⟨by rfl,?_⟩) ?_ ?_
                  rotate_left
                  ·intro w'
                   go_simp
                   with_reducible rfl
                  rotate_left
                  ·simp only [Act.put,List.setIfInBounds_toArray,List.set_cons_zero,List.set_cons_succ,i64_w,i32_w]
                   rfl
                  refine one_ (i := 2) (N := some 91) #[uI,uI,uI,uO,uO,uO,uO,uO,uO,uO,uO,uO,uO,uO,uO,uO,uO,uO,uO,uO,uO,uO,uO,uO,uO,uO,uO] rfl rfl (one_of HT_.out (by kernel_rfl)) (by decide) (fun K hK => ?_)
                  refine goes_ Tryd.func42 (by kernel_rfl) rfl #[.string a0,.int .i64 x7_3] (by rfl) rfl rfl (by (try simp only [List.map_toArray,List.map_cons,List.map_nil]);first | done | rfl | (simp only [List.length_drop,List.length_take];rfl)) ?_
                  with_reducible refine (cluster_Boundary.calls kj48 a0 x7_3 false _ ?side1 A54.out).mono ?_
                  (case side1 => exact tabs_below HT.out (by repeat (first | (with_reducible first | exact HB.out | apply below_alloc | apply pw_below_drewN | apply below_drew1 | refine below_set ?_ GE442.out) | exact HB.out)))
                  rintro e w65 ⟨rfl,hb⟩
                  refine ⟨_,rfl,?_⟩
                  have n0_ := Aside0.mk (Kd.R_below (by (with_reducible repeat (first | apply Kd.R_alloc | apply Kd.R_drewN | apply Kd.R_drew));exact HO_3.out) hb)
                  have n1_ := Aside0.mk (blk_below (g := gb442) (o := .cells #[.int .i64 ((rd_T53 t438 x5_1).f0),.int .i64 ((rd_T53 t438 x5_1).f1),.int .i64 ((rd_T53 t438 x5_1).f2),.int .i64 ((rd_T53 t438 x5_1).f3)] 53 (0,0)) (by (with_reducible repeat (first | refine blk_drewN ?_ _ | refine blk_drew ?_ | refine blk_alloc ?_ _));exact BK442.out) hb)
                  have n2_ := Aside0.mk (below_step (by repeat (first | (with_reducible first | exact HB.out | apply below_alloc | apply pw_below_drewN | apply below_drew1 | refine below_set ?_ GE442.out) | exact HB.out)) hb)
                  clear HO_3
                  clear BK442
                  clear HB
                  have HO_3 := n0_
                  have BK442 := n1_
                  have HB := n2_
                  clear n0_ n1_ n2_
                  (try clear hb)
                  (try clear hb2)
                  (try clear hk)
                  (try clear hi)
                  refine hK.out _ _ ⟨(blk_cell BK442.out 0).trans rfl,(blk_cell BK442.out 1).trans rfl,(blk_cell BK442.out 2).trans rfl,(blk_cell BK442.out 3).trans rfl⟩ (fun hHeld => ?_)
                  clear hK K
                  refine norm_ (a' := ?_) ?_ ?_
                  rotate_left
                  ·show Act.put _ (some 91) _ = _
                   simp only [Act.put,List.setIfInBounds_toArray,List.set_cons_zero,List.set_cons_succ,i64_w,i32_w]
                   rfl
                  refine pure_ (i := 3) (N := some 92) (v := ?_) (a' := ?_) #[uI,uI,uI,uI,uO,uO,uO,uO,uO,uO,uO,uO,uO,uO,uO,uO,uO,uO,uO,uO,uO,uO,uO,uO,uO,uO,uO] rfl rfl (any_of HT_.out (by kernel_rfl)) (fun _ _ _ h => h) (Or.inl ⟨by rfl,?_⟩) ?_ ?_
                  rotate_left
                  ·intro w'
                   go_simp
                   with_reducible rfl
                  rotate_left
                  ·simp only [Act.put,List.setIfInBounds_toArray,List.set_cons_zero,List.set_cons_succ,i64_w,i32_w]
                   rfl
                  refine pure_ (i := 4) (N := some 93) (v := ?_) (a' := ?_) #[uI,uI,uI,uI,uI,uO,uO,uO,uO,uO,uO,uO,uO,uO,uO,uO,uO,uO,uO,uO,uO,uO,uO,uO,uO,uO,uO] rfl rfl (any_of HT_.out (by kernel_rfl)) (fun _ _ _ h => h) (Or.inl ⟨by rfl,?_⟩) ?_ ?_
                  rotate_left
                  ·intro w'
                   go_simp
                   with_reducible rfl
                  rotate_left
                  ·simp only [Act.put,List.setIfInBounds_toArray,List.set_cons_zero,List.set_cons_succ,i64_w,i32_w]
                   rfl
                  refine pure_ (i := 5) (N := some 94) (v := ?_) (a' := ?_) #[uI,uI,uI,uI,uI,uI,uO,uO,uO,uO,uO,uO,uO,uO,uO,uO,uO,uO,uO,uO,uO,uO,uO,uO,uO,uO,uO] rfl rfl (any_of HT_.out (by kernel_rfl)) (fun _ _ _ h => h) (Or.inl ⟨by rfl,?_⟩) ?_ ?_
                  rotate_left
                  ·intro w'
                   go_simp
                   with_reducible rfl
                  rotate_left
                  ·simp only [Act.put,List.setIfInBounds_toArray,List.set_cons_zero,List.set_cons_succ,i64_w,i32_w]
                   rfl
                  refine pure_ (i := 7) (N := some 96) (v := ?_) (a' := ?_) #[uI,uI,uI,uI,uI,uI,uO,uI,uO,uO,uO,uO,uO,uO,uO,uO,uO,uO,uO,uO,uO,uO,uO,uO,uO,uO,uO] rfl rfl (any_of HT_.out (by kernel_rfl)) (fun _ _ _ h => h) (Or.inl ⟨by rfl,?_⟩) ?_ ?_
                  rotate_left
                  ·intro w'
                   go_simp
                   with_reducible rfl
                  rotate_left
                  ·simp only [Act.put,List.setIfInBounds_toArray,List.set_cons_zero,List.set_cons_succ,i64_w,i32_w]
                   rfl
                  refine take_ (i := 8) (N := some 97) (v := ?_) (a' := ?_) #[uI,uI,uI,uI,uI,uI,uO,uI,uI,uO,uO,uO,uO,uO,uO,uO,uO,uO,uO,uO,uO,uO,uO,uO,uO,uO,uO] rfl rfl (take_ofW HT_.out HW_.out (by kernel_rfl)) (fun _ _ _ h => h) (Or.inl ⟨by rfl,?_⟩) hHeld ?_ ?_
                  rotate_left
                  ·rintro w' ⟨s0,s1,s2,s3⟩
                   go_simp
                   with_reducible rfl
                  rotate_left
                  ·simp only [Act.put,List.setIfInBounds_toArray,List.set_cons_zero,List.set_cons_succ,i64_w,i32_w]
                   rfl
                  refine one_ (i := 6) (N := some 95) #[uI,uI,uI,uI,uI,uI,uI,uI,uI,uO,uO,uO,uO,uO,uO,uO,uO,uO,uO,uO,uO,uO,uO,uO,uO,uO,uO] rfl rfl (one_of HT_.out (by kernel_rfl)) (by decide) (fun K hK => ?_)
                  refine goes_ Tryd.func46 (by kernel_rfl) rfl #[.string a0,.int .i64 x7_3] (by rfl) rfl rfl (by (try simp only [List.map_toArray,List.map_cons,List.map_nil]);first | done | rfl | (simp only [List.length_drop,List.length_take];rfl)) ?_
                  with_reducible refine (cluster_Next.calls kj48 a0 x7_3 t448 _ ?side1 A58.out).mono ?_
                  (case side1 => exact tabs_below HT.out (by repeat (first | (with_reducible first | exact HB.out | apply below_alloc | apply pw_below_drewN | apply below_drew1 | refine below_set ?_ GE442.out) | exact HB.out)))
                  rintro e w66 ⟨rfl,hb⟩
                  refine ⟨_,rfl,?_⟩
                  have n0_ := Aside0.mk (Kd.R_below (by (with_reducible repeat (first | apply Kd.R_alloc | apply Kd.R_drewN | apply Kd.R_drew));exact HO_3.out) hb)
                  have n1_ := Aside0.mk (blk_below (g := gb442) (o := .cells #[.int .i64 ((rd_T53 t438 x5_1).f0),.int .i64 ((rd_T53 t438 x5_1).f1),.int .i64 ((rd_T53 t438 x5_1).f2),.int .i64 ((rd_T53 t438 x5_1).f3)] 53 (0,0)) (by (with_reducible repeat (first | refine blk_drewN ?_ _ | refine blk_drew ?_ | refine blk_alloc ?_ _));exact BK442.out) hb)
                  have n2_ := Aside0.mk (below_step (by repeat (first | (with_reducible first | exact HB.out | apply below_alloc | apply pw_below_drewN | apply below_drew1 | refine below_set ?_ GE442.out) | exact HB.out)) hb)
                  clear HO_3
                  clear BK442
                  clear HB
                  have HO_3 := n0_
                  have BK442 := n1_
                  have HB := n2_
                  clear n0_ n1_ n2_
                  (try clear hb)
                  (try clear hb2)
                  (try clear hk)
                  (try clear hi)
                  refine hK.out _ _ ⟨(blk_cell BK442.out 0).trans rfl,(blk_cell BK442.out 1).trans rfl,(blk_cell BK442.out 2).trans rfl,(blk_cell BK442.out 3).trans rfl⟩ (fun hHeld => ?_)
                  clear hK K
                  refine norm_ (a' := ?_) ?_ ?_
                  rotate_left
                  ·show Act.put _ (some 95) _ = _
                   simp only [Act.put,List.setIfInBounds_toArray,List.set_cons_zero,List.set_cons_succ,i64_w,i32_w]
                   rfl
                  refine pure_ (i := 9) (N := some 98) (v := ?_) (a' := ?_) #[uI,uI,uI,uI,uI,uI,uI,uI,uI,uI,uO,uO,uO,uO,uO,uO,uO,uO,uO,uO,uO,uO,uO,uO,uO,uO,uO] rfl rfl (any_of HT_.out (by kernel_rfl)) (fun _ _ _ h => h) (Or.inl ⟨by rfl,?_⟩) ?_ ?_
                  rotate_left
                  ·intro w'
                   go_simp
                   with_reducible rfl
                  rotate_left
                  ·simp only [Act.put,List.setIfInBounds_toArray,List.set_cons_zero,List.set_cons_succ,i64_w,i32_w]
                   rfl
                  refine pure_ (i := 10) (N := some 99) (v := ?_) (a' := ?_) #[uI,uI,uI,uI,uI,uI,uI,uI,uI,uI,uI,uO,uO,uO,uO,uO,uO,uO,uO,uO,uO,uO,uO,uO,uO,uO,uO] rfl rfl (any_of HT_.out (by kernel_rfl)) (fun _ _ _ h => h) (Or.inl ⟨by rfl,?_⟩) ?_ ?_
                  rotate_left
                  ·intro w'
                   go_simp
                   with_reducible rfl
                  rotate_left
                  ·simp only [Act.put,List.setIfInBounds_toArray,List.set_cons_zero,List.set_cons_succ,i64_w,i32_w]
                   rfl
                  refine pure_ (i := 11) (N := some 100) (v := ?_) (a' := ?_) #[uI,uI,uI,uI,uI,uI,uI,uI,uI,uI,uI,uI,uO,uO,uO,uO,uO,uO,uO,uO,uO,uO,uO,uO,uO,uO,uO] rfl rfl (any_of HT_.out (by kernel_rfl)) (fun _ _ _ h => h) (Or.inl ⟨by rfl,?_⟩) ?_ ?_
                  rotate_left
                  ·intro w'
                   go_simp
                   with_reducible rfl
                  rotate_left
                  ·simp only [Act.put,List.setIfInBounds_toArray,List.set_cons_zero,List.set_cons_succ,i64_w,i32_w]
                   rfl
                  refine pure_ (i := 12) (N := some 101) (v := ?_) (a' := ?_) #[uI,uI,uI,uI,uI,uI,uI,uI,uI,uI,uI,uI,uI,uO,uO,uO,uO,uO,uO,uO,uO,uO,uO,uO,uO,uO,uO] rfl rfl (any_of HT_.out (by kernel_rfl)) (fun _ _ _ h => h) (Or.inl ⟨by rfl,?_⟩) ?_ ?_
                  rotate_left
                  ·intro w'
                   go_simp
                   with_reducible rfl
                  rotate_left
                  ·simp only [Act.put,List.setIfInBounds_toArray,List.set_cons_zero,List.set_cons_succ,i64_w,i32_w]
                   rfl
                  refine pure_ (i := 13) (N := some 102) (v := ?_) (a' := ?_) #[uI,uI,uI,uI,uI,uI,uI,uI,uI,uI,uI,uI,uI,uI,uO,uO,uO,uO,uO,uO,uO,uO,uO,uO,uO,uO,uO] rfl rfl (any_of HT_.out (by kernel_rfl)) (fun _ _ _ h => h) (Or.inl ⟨by rfl,?_⟩) ?_ ?_
                  rotate_left
                  ·intro w'
                   go_simp
                   with_reducible rfl
                  rotate_left
                  ·simp only [Act.put,List.setIfInBounds_toArray,List.set_cons_zero,List.set_cons_succ,i64_w,i32_w]
                   rfl
                  refine pure_ (i := 15) (N := some 104) (v := ?_) (a' := ?_) #[uI,uI,uI,uI,uI,uI,uI,uI,uI,uI,uI,uI,uI,uI,uO,uI,uO,uO,uO,uO,uO,uO,uO,uO,uO,uO,uO] rfl rfl (any_of HT_.out (by kernel_rfl)) (fun _ _ _ h => h) (Or.inl ⟨by rfl,?_⟩) ?_ ?_
                  rotate_left
                  ·intro w'
                   go_simp
                   with_reducible rfl
                  rotate_left
                  ·simp only [Act.put,List.setIfInBounds_toArray,List.set_cons_zero,List.set_cons_succ,i64_w,i32_w]
                   rfl
                  refine take_ (i := 16) (N := some 105) (v := ?_) (a' := ?_) #[uI,uI,uI,uI,uI,uI,uI,uI,uI,uI,uI,uI,uI,uI,uO,uI,uI,uO,uO,uO,uO,uO,uO,uO,uO,uO,uO] rfl rfl (take_ofW HT_.out HW_.out (by kernel_rfl)) (fun _ _ _ h => h) (Or.inl ⟨by rfl,?_⟩) hHeld ?_ ?_
                  rotate_left
                  ·rintro w' ⟨s0,s1,s2,s3⟩
                   go_simp
                   with_reducible rfl
                  rotate_left
                  ·simp only [Act.put,List.setIfInBounds_toArray,List.set_cons_zero,List.set_cons_succ,i64_w,i32_w]
                   rfl
                  refine one_ (i := 14) (N := some 103) #[uI,uI,uI,uI,uI,uI,uI,uI,uI,uI,uI,uI,uI,uI,uI,uI,uI,uO,uO,uO,uO,uO,uO,uO,uO,uO,uO] rfl rfl (one_of HT_.out (by kernel_rfl)) (by decide) (fun K hK => ?_)
                  refine goes_ Tryd.func48 (by kernel_rfl) rfl #[.string a0,.int .i64 x7_3] (by rfl) rfl rfl (by (try simp only [List.map_toArray,List.map_cons,List.map_nil]);first | done | rfl | (simp only [List.length_drop,List.length_take];rfl)) ?_
                  with_reducible refine (cluster_Prev.calls kj48 a0 x7_3 t449 _ ?side1 A60.out).mono ?_
                  (case side1 => exact tabs_below HT.out (by repeat (first | (with_reducible first | exact HB.out | apply below_alloc | apply pw_below_drewN | apply below_drew1 | refine below_set ?_ GE442.out) | exact HB.out)))
                  rintro e w67 ⟨rfl,hb⟩
                  refine ⟨_,rfl,?_⟩
                  have n0_ := Aside0.mk (Kd.R_below (by (with_reducible repeat (first | apply Kd.R_alloc | apply Kd.R_drewN | apply Kd.R_drew));exact HO_3.out) hb)
                  have n1_ := Aside0.mk (blk_below (g := gb442) (o := .cells #[.int .i64 ((rd_T53 t438 x5_1).f0),.int .i64 ((rd_T53 t438 x5_1).f1),.int .i64 ((rd_T53 t438 x5_1).f2),.int .i64 ((rd_T53 t438 x5_1).f3)] 53 (0,0)) (by (with_reducible repeat (first | refine blk_drewN ?_ _ | refine blk_drew ?_ | refine blk_alloc ?_ _));exact BK442.out) hb)
                  have n2_ := Aside0.mk (below_step (by repeat (first | (with_reducible first | exact HB.out | apply below_alloc | apply pw_below_drewN | apply below_drew1 | refine below_set ?_ GE442.out) | exact HB.out)) hb)
                  clear HO_3
                  clear BK442
                  clear HB
                  have HO_3 := n0_
                  have BK442 := n1_
                  have HB := n2_
                  clear n0_ n1_ n2_
                  (try clear hb)
                  (try clear hb2)
                  (try clear hk)
                  (try clear hi)
                  refine hK.out _ _ ⟨(blk_cell BK442.out 0).trans rfl,(blk_cell BK442.out 1).trans rfl,(blk_cell BK442.out 2).trans rfl,(blk_cell BK442.out 3).trans rfl⟩ (fun hHeld => ?_)
                  clear hK K
                  refine norm_ (a' := ?_) ?_ ?_
                  rotate_left
                  ·show Act.put _ (some 103) _ = _
                   simp only [Act.put,List.setIfInBounds_toArray,List.set_cons_zero,List.set_cons_succ,i64_w,i32_w]
                   rfl
                  refine pure_ (i := 17) (N := some 106) (v := ?_) (a' := ?_) #[uI,uI,uI,uI,uI,uI,uI,uI,uI,uI,uI,uI,uI,uI,uI,uI,uI,uI,uO,uO,uO,uO,uO,uO,uO,uO,uO] rfl rfl (any_of HT_.out (by kernel_rfl)) (fun _ _ _ h => h) (Or.inl ⟨by rfl,?_⟩) ?_ ?_
                  rotate_left
                  ·intro w'
                   go_simp
                   with_reducible rfl
                  rotate_left
                  ·simp only [Act.put,List.setIfInBounds_toArray,List.set_cons_zero,List.set_cons_succ,i64_w,i32_w]
                   rfl
                  refine pure_ (i := 18) (N := some 107) (v := ?_) (a' := ?_) #[uI,uI,uI,uI,uI,uI,uI,uI,uI,uI,uI,uI,uI,uI,uI,uI,uI,uI,uI,uO,uO,uO,uO,uO,uO,uO,uO] rfl rfl (any_of HT_.out (by kernel_rfl)) (fun _ _ _ h => h) (Or.inl ⟨by rfl,?_⟩) ?_ ?_
                  rotate_left
                  ·intro w'
                   go_simp
                   with_reducible rfl
                  rotate_left
                  ·simp only [Act.put,List.setIfInBounds_toArray,List.set_cons_zero,List.set_cons_succ,i64_w,i32_w]
                   rfl
                  refine pure_ (i := 19) (N := some 108) (v := ?_) (a' := ?_) #[uI,uI,uI,uI,uI,uI,uI,uI,uI,uI,uI,uI,uI,uI,uI,uI,uI,uI,uI,uI,uO,uO,uO,uO,uO,uO,uO] rfl rfl (any_of HT_.out (by kernel_rfl)) (fun _ _ _ h => h) (Or.inl ⟨by rfl,?_⟩) ?_ ?_
                  rotate_left
                  ·intro w'
                   go_simp
                   with_reducible rfl
                  rotate_left
                  ·simp only [Act.put,List.setIfInBounds_toArray,List.set_cons_zero,List.set_cons_succ,i64_w,i32_w]
                   rfl
                  refine pure_ (i := 20) (N := some 109) (v := ?_) (a' := ?_) #[uI,uI,uI,uI,uI,uI,uI,uI,uI,uI,uI,uI,uI,uI,uI,uI,uI,uI,uI,uI,uI,uO,uO,uO,uO,uO,uO] rfl rfl (any_of HT_.out (by kernel_rfl)) (fun _ _ _ h => h) (Or.inl ⟨by rfl,?_⟩) ?_ ?_
                  rotate_left
                  ·intro w'
                   go_simp
                   with_reducible rfl
                  rotate_left
                  ·simp only [Act.put,List.setIfInBounds_toArray,List.set_cons_zero,List.set_cons_succ,i64_w,i32_w]
                   rfl
                  refine pure_ (i := 21) (N := some 110) (v := ?_) (a' := ?_) #[uI,uI,uI,uI,uI,uI,uI,uI,uI,uI,uI,uI,uI,uI,uI,uI,uI,uI,uI,uI,uI,uI,uO,uO,uO,uO,uO] rfl rfl (any_of HT_.out (by kernel_rfl)) (fun _ _ _ h => h) (Or.inl ⟨by rfl,?_⟩) ?_ ?_
                  rotate_left
                  ·intro w'
                   go_simp
                   with_reducible rfl
                  rotate_left
                  ·simp only [Act.put,List.setIfInBounds_toArray,List.set_cons_zero,List.set_cons_succ,i64_w,i32_w]
                   rfl
                  refine pure_ (i := 23) (N := some 112) (v := ?_) (a' := ?_) #[uI,uI,uI,uI,uI,uI,uI,uI,uI,uI,uI,uI,uI,uI,uI,uI,uI,uI,uI,uI,uI,uI,uO,uI,uO,uO,uO] rfl rfl (any_of HT_.out (by kernel_rfl)) (fun _ _ _ h => h) (Or.inl ⟨by rfl,?_⟩) ?_ ?_
                  rotate_left
                  ·intro w'
                   go_simp
                   with_reducible rfl
                  rotate_left
                  ·simp only [Act.put,List.setIfInBounds_toArray,List.set_cons_zero,List.set_cons_succ,i64_w,i32_w]
                   rfl
                  refine take_ (i := 24) (N := some 113) (v := ?_) (a' := ?_) #[uI,uI,uI,uI,uI,uI,uI,uI,uI,uI,uI,uI,uI,uI,uI,uI,uI,uI,uI,uI,uI,uI,uO,uI,uI,uO,uO] rfl rfl (take_ofW HT_.out HW_.out (by kernel_rfl)) (fun _ _ _ h => h) (Or.inl ⟨by rfl,?_⟩) hHeld ?_ ?_
                  rotate_left
                  ·rintro w' ⟨s0,s1,s2,s3⟩
                   go_simp
                   with_reducible rfl
                  rotate_left
                  ·simp only [Act.put,List.setIfInBounds_toArray,List.set_cons_zero,List.set_cons_succ,i64_w,i32_w]
                   rfl
                  refine one_ (i := 22) (N := some 111) #[uI,uI,uI,uI,uI,uI,uI,uI,uI,uI,uI,uI,uI,uI,uI,uI,uI,uI,uI,uI,uI,uI,uI,uI,uI,uO,uO] rfl rfl (one_of HT_.out (by kernel_rfl)) (by decide) (fun K hK => ?_)
                  refine goes_ Tryd.func50 (by kernel_rfl) rfl #[.string a0,.int .i64 x7_3] (by rfl) rfl rfl (by (try simp only [List.map_toArray,List.map_cons,List.map_nil]);first | done | rfl | (simp only [List.length_drop,List.length_take];rfl)) ?_
                  with_reducible refine (cluster_Snap.calls kj48 a0 x7_3 t450 _ ?side1 A62.out).mono ?_
                  (case side1 => exact tabs_below HT.out (by repeat (first | (with_reducible first | exact HB.out | apply below_alloc | apply pw_below_drewN | apply below_drew1 | refine below_set ?_ GE442.out) | exact HB.out)))
                  rintro e w68 ⟨rfl,hb⟩
                  refine ⟨_,rfl,?_⟩
                  have n0_ := Aside0.mk (Kd.R_below (by (with_reducible repeat (first | apply Kd.R_alloc | apply Kd.R_drewN | apply Kd.R_drew));exact HO_3.out) hb)
                  have n1_ := Aside0.mk (blk_below (g := gb442) (o := .cells #[.int .i64 ((rd_T53 t438 x5_1).f0),.int .i64 ((rd_T53 t438 x5_1).f1),.int .i64 ((rd_T53 t438 x5_1).f2),.int .i64 ((rd_T53 t438 x5_1).f3)] 53 (0,0)) (by (with_reducible repeat (first | refine blk_drewN ?_ _ | refine blk_drew ?_ | refine blk_alloc ?_ _));exact BK442.out) hb)
                  have n2_ := Aside0.mk (below_step (by repeat (first | (with_reducible first | exact HB.out | apply below_alloc | apply pw_below_drewN | apply below_drew1 | refine below_set ?_ GE442.out) | exact HB.out)) hb)
                  clear HO_3
                  clear BK442
                  clear HB
                  have HO_3 := n0_
                  have BK442 := n1_
                  have HB := n2_
                  clear n0_ n1_ n2_
                  (try clear hb)
                  (try clear hb2)
                  (try clear hk)
                  (try clear hi)
                  refine hK.out _ _ ⟨(blk_cell BK442.out 0).trans rfl,(blk_cell BK442.out 1).trans rfl,(blk_cell BK442.out 2).trans rfl,(blk_cell BK442.out 3).trans rfl⟩ (fun hHeld => ?_)
                  clear hK K
                  refine norm_ (a' := ?_) ?_ ?_
                  rotate_left
                  ·show Act.put _ (some 111) _ = _
                   simp only [Act.put,List.setIfInBounds_toArray,List.set_cons_zero,List.set_cons_succ,i64_w,i32_w]
                   rfl
                  refine pure_ (i := 25) (N := some 114) (v := ?_) (a' := ?_) #[uI,uI,uI,uI,uI,uI,uI,uI,uI,uI,uI,uI,uI,uI,uI,uI,uI,uI,uI,uI,uI,uI,uI,uI,uI,uI,uO] rfl rfl (any_of HT_.out (by kernel_rfl)) (fun _ _ _ h => h) (Or.inl ⟨by rfl,?_⟩) ?_ ?_
                  rotate_left
                  ·intro w'
                   go_simp
                   with_reducible rfl
                  rotate_left
                  ·simp only [Act.put,List.setIfInBounds_toArray,List.set_cons_zero,List.set_cons_succ,i64_w,i32_w]
                   rfl
                  refine pure_ (i := 26) (N := some 115) (v := ?_) (a' := ?_) #[uI,uI,uI,uI,uI,uI,uI,uI,uI,uI,uI,uI,uI,uI,uI,uI,uI,uI,uI,uI,uI,uI,uI,uI,uI,uI,uI] rfl rfl (any_of HT_.out (by kernel_rfl)) (fun _ _ _ h => h) (Or.inl ⟨by rfl,?_⟩) ?_ ?_
                  rotate_left
                  ·intro w'
                   go_simp
                   with_reducible rfl
                  rotate_left
                  ·simp only [Act.put,List.setIfInBounds_toArray,List.set_cons_zero,List.set_cons_succ,i64_w,i32_w]
                   rfl
                  refine done_ (done_of HT_.out (by kernel_rfl)) ?_
                  try go_wp2
                  go_roundg kj48
                  case measure => have := HK1.out;have := HJ8.out;have := HK3.out;have := HJ48.out;omega
                  case rel => exact ⟨(wrap64 (x7_3 + 1)),(by first | rfl | (simp;done) | (simp [*];done)),H',⟨by have := HK1.out;have := HJ8.out;have := HK3.out;have := HJ48.out;omega⟩,⟨by (with_reducible repeat (first | apply Kd.R_alloc | apply Kd.R_drewN | apply Kd.R_drew));exact HO_3.out⟩,⟨by (with_reducible repeat (first | refine blk_drewN ?_ _ | refine blk_drew ?_ | refine blk_alloc ?_ _));exact BK442.out⟩,⟨by repeat (first | (with_reducible first | exact HB.out | apply below_alloc | apply pw_below_drewN | apply below_drew1 | refine below_set ?_ GE442.out) | exact HB.out)⟩⟩
                 ·rw [if_neg c63] at H
                  have c63b0 : (t450 == ((rd_T53 t438 x5_1).f1)) = false := beq_eq_false_iff_ne.mpr c63
                  have c63b1 : (t450 != ((rd_T53 t438 x5_1).f1)) = true := bne_iff_ne.mpr c63
                  obtain rfl := Option.some.inj H
                  cases hr_
                ·rw [if_neg c61] at H
                 have c61b0 : (t449 == ((rd_T53 t438 x5_1).f0)) = false := beq_eq_false_iff_ne.mpr c61
                 have c61b1 : (t449 != ((rd_T53 t438 x5_1).f0)) = true := bne_iff_ne.mpr c61
                 obtain rfl := Option.some.inj H
                 cases hr_
               ·rw [if_neg c59] at H
                have c59b0 : (t448 == ((rd_T53 t438 x5_1).f1)) = false := beq_eq_false_iff_ne.mpr c59
                have c59b1 : (t448 != ((rd_T53 t438 x5_1).f1)) = true := bne_iff_ne.mpr c59
                obtain rfl := Option.some.inj H
                cases hr_
             ·replace c53 := Bool.eq_false_iff.mpr c53
              subst c53
              have H1 : (bodkinlaw03_ClusterSteps.l0 kj48 a0 t438 ((rd_T53 t438 x5_1).f1) (wrap64 (x5_1 + 1))) = some r := by rw [if_neg (show ¬ (false = true) by decide)] at H;exact H
              clear H
              have H := H1
              clear H1
              have H' := Aside0.mk H
              clear H
              have hcz81_0 : wc.cell? ⟨gb442,0,none⟩ = some (.int .i64 ((rd_T53 t438 x5_1).f0)) := (blk_cell BK442.out 0).trans rfl
              have hcz81_1 : wc.cell? ⟨gb442,1,none⟩ = some (.int .i64 ((rd_T53 t438 x5_1).f1)) := (blk_cell BK442.out 1).trans rfl
              have hcz81_2 : wc.cell? ⟨gb442,2,none⟩ = some (.int .i64 ((rd_T53 t438 x5_1).f2)) := (blk_cell BK442.out 2).trans rfl
              have hcz81_3 : wc.cell? ⟨gb442,3,none⟩ = some (.int .i64 ((rd_T53 t438 x5_1).f3)) := (blk_cell BK442.out 3).trans rfl
              have hfz81_0 := blk_frozen BK442.out 0
              have hfz81_1 := blk_frozen BK442.out 1
              have hfz81_2 := blk_frozen BK442.out 2
              have hfz81_3 := blk_frozen BK442.out 3
              go_wp2
              go_roundg kj48
              case measure => have := HK1.out;have := HJ8.out;have := HK3.out;have := HJ48.out;omega
              case rel => exact ⟨(((rd_T53 t438 x5_1).f1)),(wrap64 (x5_1 + 1)),(by first | rfl | (simp;done) | (simp [*];done)),(by first | rfl | (simp;done) | (simp [*];done)),H',⟨by have := HK1.out;have := HJ8.out;have := HK3.out;have := HJ48.out;omega⟩,⟨by (with_reducible repeat (first | apply Kd.R_alloc | apply Kd.R_drewN | apply Kd.R_drew));exact Kd.R_mono HO_3.out (fun _ hk => trivial)⟩,⟨by repeat (first | (with_reducible first | exact HB.out | apply below_alloc | apply pw_below_drewN | apply below_drew1 | refine below_set ?_ GE442.out) | exact HB.out)⟩⟩
     ·rw [if_neg c8] at H
      exact absurd H (by simp)
    ·rw [if_neg c7] at H
     have c7b0 : decide (x5_1 < (t438.length : Int)) = false := decide_eq_false c7
     clear c7
     by_cases c82 : x4_1 = (a0.size : Int)
     ·rw [if_pos c82] at H
      have c82b0 : (x4_1 == (a0.size : Int)) = true := beq_iff_eq.mpr c82
      have c82b1 : (x4_1 != (a0.size : Int)) = false := bne_eq_false_iff_eq.mpr c82
      clear c82
      replace H := Option.bind_eq_some_iff.mp H
      obtain ⟨t451,A830,H⟩ := H
      replace H : (if t451 = true then ((cluster_Boundary.f k1 a0 (a0.size : Int)).bind fun t452 => (if t452 = true then ((cluster_Boundary.f k1 a0 (-1)).bind fun t453 => (if t453 = true then (some false) else ((cluster_Boundary.f k1 a0 (wrap64 ((a0.size : Int) + 1))).bind fun t454 => (if t454 = true then (some false) else ((cluster_Next.f k1 a0 (a0.size : Int)).bind fun t455 => (if t455 = (a0.size : Int) then ((cluster_Prev.f k1 a0 0).bind fun t456 => (if t456 = 0 then ((cluster_Count.f a0).bind fun t457 => (some (t457 == (t438.length : Int)))) else (some false))) else (some false))))))) else (some false))) else (some false)) = some r := H
      have A83 := Aside0.mk A830
      clear A830
      by_cases c84 : t451 = true
      ·subst c84
       have H1 : ((cluster_Boundary.f k1 a0 (a0.size : Int)).bind fun t452 => (if t452 = true then ((cluster_Boundary.f k1 a0 (-1)).bind fun t453 => (if t453 = true then (some false) else ((cluster_Boundary.f k1 a0 (wrap64 ((a0.size : Int) + 1))).bind fun t454 => (if t454 = true then (some false) else ((cluster_Next.f k1 a0 (a0.size : Int)).bind fun t455 => (if t455 = (a0.size : Int) then ((cluster_Prev.f k1 a0 0).bind fun t456 => (if t456 = 0 then ((cluster_Count.f a0).bind fun t457 => (some (t457 == (t438.length : Int)))) else (some false))) else (some false))))))) else (some false))) = some r := by rw [if_pos rfl] at H;exact H
       clear H
       have H := H1
       clear H1
       replace H := Option.bind_eq_some_iff.mp H
       obtain ⟨t452,A850,H⟩ := H
       replace H : (if t452 = true then ((cluster_Boundary.f k1 a0 (-1)).bind fun t453 => (if t453 = true then (some false) else ((cluster_Boundary.f k1 a0 (wrap64 ((a0.size : Int) + 1))).bind fun t454 => (if t454 = true then (some false) else ((cluster_Next.f k1 a0 (a0.size : Int)).bind fun t455 => (if t455 = (a0.size : Int) then ((cluster_Prev.f k1 a0 0).bind fun t456 => (if t456 = 0 then ((cluster_Count.f a0).bind fun t457 => (some (t457 == (t438.length : Int)))) else (some false))) else (some false))))))) else (some false)) = some r := H
       have A85 := Aside0.mk A850
       clear A850
       by_cases c86 : t452 = true
       ·subst c86
        have H1 : ((cluster_Boundary.f k1 a0 (-1)).bind fun t453 => (if t453 = true then (some false) else ((cluster_Boundary.f k1 a0 (wrap64 ((a0.size : Int) + 1))).bind fun t454 => (if t454 = true then (some false) else ((cluster_Next.f k1 a0 (a0.size : Int)).bind fun t455 => (if t455 = (a0.size : Int) then ((cluster_Prev.f k1 a0 0).bind fun t456 => (if t456 = 0 then ((cluster_Count.f a0).bind fun t457 => (some (t457 == (t438.length : Int)))) else (some false))) else (some false))))))) = some r := by rw [if_pos rfl] at H;exact H
        clear H
        have H := H1
        clear H1
        replace H := Option.bind_eq_some_iff.mp H
        obtain ⟨t453,A870,H⟩ := H
        replace H : (if t453 = true then (some false) else ((cluster_Boundary.f k1 a0 (wrap64 ((a0.size : Int) + 1))).bind fun t454 => (if t454 = true then (some false) else ((cluster_Next.f k1 a0 (a0.size : Int)).bind fun t455 => (if t455 = (a0.size : Int) then ((cluster_Prev.f k1 a0 0).bind fun t456 => (if t456 = 0 then ((cluster_Count.f a0).bind fun t457 => (some (t457 == (t438.length : Int)))) else (some false))) else (some false)))))) = some r := H
        have A87 := Aside0.mk A870
        clear A870
        by_cases c88 : t453 = true
        ·subst c88
         have H1 : (some false) = some r := by rw [if_pos rfl] at H;exact H
         clear H
         have H := H1
         clear H1
         obtain rfl := Option.some.inj H
         cases hr_
        ·replace c88 := Bool.eq_false_iff.mpr c88
         subst c88
         have H1 : ((cluster_Boundary.f k1 a0 (wrap64 ((a0.size : Int) + 1))).bind fun t454 => (if t454 = true then (some false) else ((cluster_Next.f k1 a0 (a0.size : Int)).bind fun t455 => (if t455 = (a0.size : Int) then ((cluster_Prev.f k1 a0 0).bind fun t456 => (if t456 = 0 then ((cluster_Count.f a0).bind fun t457 => (some (t457 == (t438.length : Int)))) else (some false))) else (some false))))) = some r := by rw [if_neg (show ¬ (false = true) by decide)] at H;exact H
         clear H
         have H := H1
         clear H1
         replace H := Option.bind_eq_some_iff.mp H
         obtain ⟨t454,A930,H⟩ := H
         replace H : (if t454 = true then (some false) else ((cluster_Next.f k1 a0 (a0.size : Int)).bind fun t455 => (if t455 = (a0.size : Int) then ((cluster_Prev.f k1 a0 0).bind fun t456 => (if t456 = 0 then ((cluster_Count.f a0).bind fun t457 => (some (t457 == (t438.length : Int)))) else (some false))) else (some false)))) = some r := H
         have A93 := Aside0.mk A930
         clear A930
         by_cases c94 : t454 = true
         ·subst c94
          have H1 : (some false) = some r := by rw [if_pos rfl] at H;exact H
          clear H
          have H := H1
          clear H1
          obtain rfl := Option.some.inj H
          cases hr_
         ·replace c94 := Bool.eq_false_iff.mpr c94
          subst c94
          have H1 : ((cluster_Next.f k1 a0 (a0.size : Int)).bind fun t455 => (if t455 = (a0.size : Int) then ((cluster_Prev.f k1 a0 0).bind fun t456 => (if t456 = 0 then ((cluster_Count.f a0).bind fun t457 => (some (t457 == (t438.length : Int)))) else (some false))) else (some false))) = some r := by rw [if_neg (show ¬ (false = true) by decide)] at H;exact H
          clear H
          have H := H1
          clear H1
          replace H := Option.bind_eq_some_iff.mp H
          obtain ⟨t455,A1000,H⟩ := H
          replace H : (if t455 = (a0.size : Int) then ((cluster_Prev.f k1 a0 0).bind fun t456 => (if t456 = 0 then ((cluster_Count.f a0).bind fun t457 => (some (t457 == (t438.length : Int)))) else (some false))) else (some false)) = some r := H
          have A100 := Aside0.mk A1000
          clear A1000
          by_cases c101 : t455 = (a0.size : Int)
          ·rw [if_pos c101] at H
           have c101b0 : (t455 == (a0.size : Int)) = true := beq_iff_eq.mpr c101
           have c101b1 : (t455 != (a0.size : Int)) = false := bne_eq_false_iff_eq.mpr c101
           clear c101
           replace H := Option.bind_eq_some_iff.mp H
           obtain ⟨t456,A1020,H⟩ := H
           replace H : (if t456 = 0 then ((cluster_Count.f a0).bind fun t457 => (some (t457 == (t438.length : Int)))) else (some false)) = some r := H
           have A102 := Aside0.mk A1020
           clear A1020
           by_cases c103 : t456 = 0
           ·rw [if_pos c103] at H
            have c103b0 : (t456 == 0) = true := beq_iff_eq.mpr c103
            have c103b1 : (t456 != 0) = false := bne_eq_false_iff_eq.mpr c103
            clear c103
            replace H := Option.bind_eq_some_iff.mp H
            obtain ⟨t457,A1040,H⟩ := H
            replace H : (some (t457 == (t438.length : Int))) = some r := H
            have A104 := Aside0.mk A1040
            clear A1040
            obtain rfl := Option.some.inj H
            obtain ⟨Ao105,co105,eo105⟩ := Kd.R_slice HO_3.out
            subst eo105
            go_wp2_with (first | (go_at_call 42;(with_reducible refine (cluster_Boundary.calls k1 a0 0 true _ ?side1 A83.out).mono ?_);(case side1 => exact tabs_below HT.out (by repeat (first | (with_reducible first | exact HB.out | apply below_alloc | apply pw_below_drewN | apply below_drew1) | exact HB.out)));rintro e w106 ⟨rfl,hb⟩;have n0_ := Aside0.mk (Kd.R_below (by (with_reducible repeat (first | apply Kd.R_alloc | apply Kd.R_drewN | apply Kd.R_drew));exact HO_3.out) hb);have n1_ := Aside0.mk (below_step (by repeat (first | (with_reducible first | exact HB.out | apply below_alloc | apply pw_below_drewN | apply below_drew1) | exact HB.out)) hb);clear HO_3;clear HB;have HO_3 := n0_;have HB := n1_;clear n0_ n1_;(try clear hb);(try clear hb2);(try clear hk);(try clear hi)) | (go_at_call 42;(with_reducible refine (cluster_Boundary.calls k1 a0 (a0.size : Int) true _ ?side1 A85.out).mono ?_);(case side1 => exact tabs_below HT.out (by repeat (first | (with_reducible first | exact HB.out | apply below_alloc | apply pw_below_drewN | apply below_drew1) | exact HB.out)));rintro e w107 ⟨rfl,hb⟩;have n0_ := Aside0.mk (Kd.R_below (by (with_reducible repeat (first | apply Kd.R_alloc | apply Kd.R_drewN | apply Kd.R_drew));exact HO_3.out) hb);have n1_ := Aside0.mk (below_step (by repeat (first | (with_reducible first | exact HB.out | apply below_alloc | apply pw_below_drewN | apply below_drew1) | exact HB.out)) hb);clear HO_3;clear HB;have HO_3 := n0_;have HB := n1_;clear n0_ n1_;(try clear hb);(try clear hb2);(try clear hk);(try clear hi)) | (go_at_call 42;(with_reducible refine (cluster_Boundary.calls k1 a0 (-1) false _ ?side1 A87.out).mono ?_);(case side1 => exact tabs_below HT.out (by repeat (first | (with_reducible first | exact HB.out | apply below_alloc | apply pw_below_drewN | apply below_drew1) | exact HB.out)));rintro e w108 ⟨rfl,hb⟩;have n0_ := Aside0.mk (Kd.R_below (by (with_reducible repeat (first | apply Kd.R_alloc | apply Kd.R_drewN | apply Kd.R_drew));exact HO_3.out) hb);have n1_ := Aside0.mk (below_step (by repeat (first | (with_reducible first | exact HB.out | apply below_alloc | apply pw_below_drewN | apply below_drew1) | exact HB.out)) hb);clear HO_3;clear HB;have HO_3 := n0_;have HB := n1_;clear n0_ n1_;(try clear hb);(try clear hb2);(try clear hk);(try clear hi)) | (go_at_call 42;(with_reducible refine (cluster_Boundary.calls k1 a0 (wrap64 ((a0.size : Int) + 1)) false _ ?side1 A93.out).mono ?_);(case side1 => exact tabs_below HT.out (by repeat (first | (with_reducible first | exact HB.out | apply below_alloc | apply pw_below_drewN | apply below_drew1) | exact HB.out)));rintro e w109 ⟨rfl,hb⟩;have n0_ := Aside0.mk (Kd.R_below (by (with_reducible repeat (first | apply Kd.R_alloc | apply Kd.R_drewN | apply Kd.R_drew));exact HO_3.out) hb);have n1_ := Aside0.mk (below_step (by repeat (first | (with_reducible first | exact HB.out | apply below_alloc | apply pw_below_drewN | apply below_drew1) | exact HB.out)) hb);clear HO_3;clear HB;have HO_3 := n0_;have HB := n1_;clear n0_ n1_;(try clear hb);(try clear hb2);(try clear hk);(try clear hi)) | (go_at_call 46;(with_reducible refine (cluster_Next.calls k1 a0 (a0.size : Int) t455 _ ?side1 A100.out).mono ?_);(case side1 => exact tabs_below HT.out (by repeat (first | (with_reducible first | exact HB.out | apply below_alloc | apply pw_below_drewN | apply below_drew1) | exact HB.out)));rintro e w110 ⟨rfl,hb⟩;have n0_ := Aside0.mk (Kd.R_below (by (with_reducible repeat (first | apply Kd.R_alloc | apply Kd.R_drewN | apply Kd.R_drew));exact HO_3.out) hb);have n1_ := Aside0.mk (below_step (by repeat (first | (with_reducible first | exact HB.out | apply below_alloc | apply pw_below_drewN | apply below_drew1) | exact HB.out)) hb);clear HO_3;clear HB;have HO_3 := n0_;have HB := n1_;clear n0_ n1_;(try clear hb);(try clear hb2);(try clear hk);(try clear hi)) | (go_at_call 48;(with_reducible refine (cluster_Prev.calls k1 a0 0 t456 _ ?side1 A102.out).mono ?_);(case side1 => exact tabs_below HT.out (by repeat (first | (with_reducible first | exact HB.out | apply below_alloc | apply pw_below_drewN | apply below_drew1) | exact HB.out)));rintro e w111 ⟨rfl,hb⟩;have n0_ := Aside0.mk (Kd.R_below (by (with_reducible repeat (first | apply Kd.R_alloc | apply Kd.R_drewN | apply Kd.R_drew));exact HO_3.out) hb);have n1_ := Aside0.mk (below_step (by repeat (first | (with_reducible first | exact HB.out | apply below_alloc | apply pw_below_drewN | apply below_drew1) | exact HB.out)) hb);clear HO_3;clear HB;have HO_3 := n0_;have HB := n1_;clear n0_ n1_;(try clear hb);(try clear hb2);(try clear hk);(try clear hi)) | (go_at_call 52;(with_reducible refine (cluster_Count.calls a0 t457 _ ?side1 A104.out).mono ?_);(case side1 => exact tabs_below HT.out (by repeat (first | (with_reducible first | exact HB.out | apply below_alloc | apply pw_below_drewN | apply below_drew1) | exact HB.out)));rintro e w112 ⟨rfl,hb⟩;have n0_ := Aside0.mk (Kd.R_below (by (with_reducible repeat (first | apply Kd.R_alloc | apply Kd.R_drewN | apply Kd.R_drew));exact HO_3.out) hb);have n1_ := Aside0.mk (below_step (by repeat (first | (with_reducible first | exact HB.out | apply below_alloc | apply pw_below_drewN | apply below_drew1) | exact HB.out)) hb);clear HO_3;clear HB;have HO_3 := n0_;have HB := n1_;clear n0_ n1_;(try clear hb);(try clear hb2);(try clear hk);(try clear hi)))
            go_ret
            exact ⟨by first | rfl | (simp [errW_none,errW_some] <;> rfl) | (simp [*,errW_none,errW_some] <;> rfl),by repeat (first | (with_reducible first | exact HB.out | apply below_alloc | apply pw_below_drewN | apply below_drew1) | exact HB.out)⟩
           ·rw [if_neg c103] at H
            have c103b0 : (t456 == 0) = false := beq_eq_false_iff_ne.mpr c103
            have c103b1 : (t456 != 0) = true := bne_iff_ne.mpr c103
            obtain rfl := Option.some.inj H
            cases hr_
          ·rw [if_neg c101] at H
           have c101b0 : (t455 == (a0.size : Int)) = false := beq_eq_false_iff_ne.mpr c101
           have c101b1 : (t455 != (a0.size : Int)) = true := bne_iff_ne.mpr c101
           obtain rfl := Option.some.inj H
           cases hr_
       ·replace c86 := Bool.eq_false_iff.mpr c86
        subst c86
        have H1 : (some false) = some r := by rw [if_neg (show ¬ (false = true) by decide)] at H;exact H
        clear H
        have H := H1
        clear H1
        obtain rfl := Option.some.inj H
        cases hr_
      ·replace c84 := Bool.eq_false_iff.mpr c84
       subst c84
       have H1 : (some false) = some r := by rw [if_neg (show ¬ (false = true) by decide)] at H;exact H
       clear H
       have H := H1
       clear H1
       obtain rfl := Option.some.inj H
       cases hr_
     ·rw [if_neg c82] at H
      have c82b0 : (x4_1 == (a0.size : Int)) = false := beq_eq_false_iff_ne.mpr c82
      have c82b1 : (x4_1 != (a0.size : Int)) = true := bne_iff_ne.mpr c82
      obtain rfl := Option.some.inj H
      cases hr_
 ·replace c3 := Bool.eq_false_iff.mpr c3
  subst c3
  have H1 : (some false) = some r := by rw [if_neg (show ¬ (false = true) by decide)] at H;exact H
  clear H
  have H := H1
  clear H1
  obtain rfl := Option.some.inj H
  cases hr_
end Go.Proofs.YtfhnfhgpaoddbaaDoor.U
end
