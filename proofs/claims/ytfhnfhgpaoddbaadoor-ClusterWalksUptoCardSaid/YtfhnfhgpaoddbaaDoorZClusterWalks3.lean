/- What the law ClusterWalks reaches of this seat's own texts, merged; what nothing uses is left out. -/
import Derived.Test.YtfhnfhgpaoddbaaDoorProg
import Derived.Below
import Derived.Deep.Draws
import Derived.Deep.AppendLies
import Derived.Maps.AppendAt
import Derived.OwnWalk
import Derived.Laws.BytesArg
import Derived.Laws.MakeOwn
import Derived.Laws.OwnMore
import Derived.Deep.OwnRows
import Derived.Tactics
import Derived.Lib.ConvBytes
import Derived.Laws.Slices
import Derived.WalkKit
import Derived.KernelRfl
import Derived.RowKit3
import Derived.Deep.LoopGhost
import Derived.Deep.QuietTactic
import Derived.BigQuiet
import Derived.WideLaws
import Derived.Deep.DeepCutAuto
import Derived.Deep.CutBlock
import Derived.Deep.RegionHeld3
import Derived.Laws.Rows
import Derived.Lib.AppendStr
import Derived.ArgAppend
import Derived.Laws.IdiomCopy
import Derived.OrdersHeld
import Derived.Laws.BitsLemmas
import Derived.RowKit
import Derived.Shelf.Strings.Builder1
import Derived.Shelf.Small.Utf8
import Derived.Shelf.Strings.BuilderF
import Derived.Shelf.Strings.BuilderK
import Derived.Shelf.Utf8.AppendRunePlain
import Derived.Shelf.Utf8.RuneCount
import Derived.Shelf.Strings.Prefix
import Derived.Shelf.Unicode.Decode
import Derived.Shelf.Strings.RuneCount
import Derived.Shelf.Unicode.DecodeSlow
import Derived.Shelf.Unicode.DecodeAny
import Derived.Shelf.Strings.BuilderCap
import Derived.Lib.LaidU8
import Derived.RangeFuncNested
import Derived.RangeFuncBound
import Derived.RangeFuncCalls
import Derived.RangeFuncLeaves
import Derived.Lib.DecodeN
import Derived.Lib.MapLaws
import Derived.Laws.DeepStrings4
import Derived.Shelf.Unicode.DecodeLastEight
import Derived.Shelf.Abstract
import Derived.Shelf.RegionOpen
import Derived.OwnWalkIn
import Derived.TacticsInMore
import Derived.LoopNIn
import Derived.LoopIn
import Derived.Lib.Hide
import Derived.Sort.BigQuietIn
import Derived.Sort.CutIn
import Derived.Lib.Builder
import Derived.Lib.FrozenHead
import Derived.Test.YtfhnfhgpaoddbaaDoorRows
import Derived.ProofKit
import Derived.Deep.DeepHandedRow
import Derived.LaidMore
import Derived.Lay
import Derived.Test.YtfhnfhgpaoddbaaDoorWWords
import Derived.Test.YtfhnfhgpaoddbaaDoorWLast
import Derived.Test.YtfhnfhgpaoddbaaDoorWTab
import Derived.Test.YtfhnfhgpaoddbaaDoorWQPut
import Derived.Test.YtfhnfhgpaoddbaaDoorWApart
import Derived.Test.YtfhnfhgpaoddbaaDoorWArr
import Derived.Test.YtfhnfhgpaoddbaaDoorWZeros
import Derived.Test.YtfhnfhgpaoddbaaDoorWFoot
import Derived.Test.YtfhnfhgpaoddbaaDoorWKept
import Derived.Test.YtfhnfhgpaoddbaaDoorWShare
import Derived.Test.YtfhnfhgpaoddbaaDoorWN
import Derived.Test.YtfhnfhgpaoddbaaDoorWEqStruct
import Derived.Test.YtfhnfhgpaoddbaaDoorWRepsOne
import Derived.Test.YtfhnfhgpaoddbaaDoorWInv
import Derived.Test.YtfhnfhgpaoddbaaDoorWGuard
import Derived.Test.YtfhnfhgpaoddbaaDoorWNEv
import Derived.Test.YtfhnfhgpaoddbaaDoorWMore
import Derived.Test.YtfhnfhgpaoddbaaDoorZClusterWalks0
section
namespace Go.Proofs.YtfhnfhgpaoddbaaDoor.U
open Go.RowKit Go.Proofs.YtfhnfhgpaoddbaaDoorW.PrintWords Go.Proofs.YtfhnfhgpaoddbaaDoorW.PrintLast Go.Proofs.YtfhnfhgpaoddbaaDoorW.PrintMore
attribute [local go_sem] max2_int min2_int max_two min_two max_three min_three max_four min_four   -- for this text's walks alone
set_option linter.unusedVariables false
set_option linter.unusedSimpArgs false
mutual
def bodkinref02_Table.l0 : Nat → ByteArray → List Int → Int → Bool → Int → Option ((List (S106)))
 | 0,_,_,_,_,_ => none
 | k + 1,x0,x3,x4,x5,x6 => if x6 ≤ (x0.size : Int) then (if x6 < (x0.size : Int) then (if 0 ≤ x6 then ((bodkinref02_digit.f k (bt x0 x6)).bind fun t272 => (bodkinref02_Table.j1 k x0 x3 x4 x5 x6 t272)) else (none)) else (bodkinref02_Table.j1 k x0 x3 x4 x5 x6 (-1))) else (bodkinref02_Table.l1 k x3 ([] : List (S106)) 0)
def bodkinref02_Table.j1 : Nat → ByteArray → List Int → Int → Bool → Int → Int → Option ((List (S106)))
 | 0,_,_,_,_,_,_ => none
 | k + 1,x0,x3,x4,x5,x6,x7 => if x7 ≥ 0 then (bodkinref02_Table.l0 k x0 x3 (wrap32 ((wrap32 (x4 * 16)) + x7)) true (wrap64 (x6 + 1))) else (if x5 = true then (if x3.length < 35184372088832 then (bodkinref02_Table.l0 k x0 (x3 ++ [x4]) 0 false (wrap64 (x6 + 1))) else (none)) else (bodkinref02_Table.l0 k x0 x3 0 false (wrap64 (x6 + 1))))
def bodkinref02_Table.l1 : Nat → List Int → List (S106) → Int → Option ((List (S106)))
 | 0,_,_,_ => none
 | k + 1,x3,x8,x9 => if (wrap64 (x9 + 1)) < (x3.length : Int) then (if 0 ≤ x9 then (if x9 < (x3.length : Int) then (if 0 ≤ (wrap64 (x9 + 1)) then (if x8.length < 17592186044416 then (bodkinref02_Table.l1 k x3 (x8 ++ [(⟨rd x3 x9,rd x3 (wrap64 (x9 + 1))⟩ : S106)]) (wrap64 (x9 + 2))) else (none)) else (none)) else (none)) else (none)) else (some x8)
end
def bodkinref02_Table.f (k : Nat) (a0 : ByteArray) : Option ((List (S106))) := bodkinref02_Table.l0 k a0 ([] : List Int) 0 false 0
theorem bodkinref02_Table.mono_l : ∀ k,(∀ y0 y1 y2 y3 y4,LeO (bodkinref02_Table.l0 k y0 y1 y2 y3 y4) (bodkinref02_Table.l0 (k + 1) y0 y1 y2 y3 y4)) ∧ (∀ y0 y1 y2 y3 y4 y5,LeO (bodkinref02_Table.j1 k y0 y1 y2 y3 y4 y5) (bodkinref02_Table.j1 (k + 1) y0 y1 y2 y3 y4 y5)) ∧ (∀ y0 y1 y2,LeO (bodkinref02_Table.l1 k y0 y1 y2) (bodkinref02_Table.l1 (k + 1) y0 y1 y2))
 | 0 => ⟨fun _ _ _ _ _ r h => by simp [bodkinref02_Table.l0] at h,fun _ _ _ _ _ _ r h => by simp [bodkinref02_Table.j1] at h,fun _ _ _ r h => by simp [bodkinref02_Table.l1] at h⟩
 | k + 1 => by
  obtain ⟨ih0,ih1,ih2⟩ := bodkinref02_Table.mono_l k
  refine ⟨?_,?_,?_⟩
  ·intro y0 y1 y2 y3 y4
   unfold bodkinref02_Table.l0
   repeat' first
   | (with_reducible exact ih0 _ _ _ _ _)
   | (with_reducible exact ih1 _ _ _ _ _ _)
   | (with_reducible exact ih2 _ _ _)
   | (with_reducible exact bodkinref02_digit.mono _ _)
   | (with_reducible exact LeO.refl _)
   | (with_reducible exact LeO.none _)
   | (with_reducible refine LeO.ite ?_ ?_)
   | (with_reducible refine LeO.bind ?_ (fun _ => ?_))
   | exact ih0 _ _ _ _ _
   | exact ih1 _ _ _ _ _ _
   | exact ih2 _ _ _
   | exact bodkinref02_digit.mono _ _
   | exact LeO.none _
   | refine LeO.ite ?_ ?_
   | refine LeO.bind ?_ (fun _ => ?_)
  ·intro y0 y1 y2 y3 y4 y5
   unfold bodkinref02_Table.j1
   repeat' first
   | (with_reducible exact ih0 _ _ _ _ _)
   | (with_reducible exact ih1 _ _ _ _ _ _)
   | (with_reducible exact ih2 _ _ _)
   | (with_reducible exact bodkinref02_digit.mono _ _)
   | (with_reducible exact LeO.refl _)
   | (with_reducible exact LeO.none _)
   | (with_reducible refine LeO.ite ?_ ?_)
   | (with_reducible refine LeO.bind ?_ (fun _ => ?_))
   | exact ih0 _ _ _ _ _
   | exact ih1 _ _ _ _ _ _
   | exact ih2 _ _ _
   | exact bodkinref02_digit.mono _ _
   | exact LeO.none _
   | refine LeO.ite ?_ ?_
   | refine LeO.bind ?_ (fun _ => ?_)
  ·intro y0 y1 y2
   unfold bodkinref02_Table.l1
   repeat' first
   | (with_reducible exact ih0 _ _ _ _ _)
   | (with_reducible exact ih1 _ _ _ _ _ _)
   | (with_reducible exact ih2 _ _ _)
   | (with_reducible exact bodkinref02_digit.mono _ _)
   | (with_reducible exact LeO.refl _)
   | (with_reducible exact LeO.none _)
   | (with_reducible refine LeO.ite ?_ ?_)
   | (with_reducible refine LeO.bind ?_ (fun _ => ?_))
   | exact ih0 _ _ _ _ _
   | exact ih1 _ _ _ _ _ _
   | exact ih2 _ _ _
   | exact bodkinref02_digit.mono _ _
   | exact LeO.none _
   | refine LeO.ite ?_ ?_
   | refine LeO.bind ?_ (fun _ => ?_)
theorem bodkinref02_Table.mono : ∀ a0 k,LeO (bodkinref02_Table.f k a0) (bodkinref02_Table.f (k + 1) a0) := by
 intro a0 k
 obtain ⟨ih0,ih1,ih2⟩ := bodkinref02_Table.mono_l k
 unfold bodkinref02_Table.f
 repeat' first
   | (with_reducible exact ih0 _ _ _ _ _)
   | (with_reducible exact ih1 _ _ _ _ _ _)
   | (with_reducible exact ih2 _ _ _)
   | (with_reducible exact bodkinref02_digit.mono _ _)
   | (with_reducible exact LeO.refl _)
   | (with_reducible exact LeO.none _)
   | (with_reducible refine LeO.ite ?_ ?_)
   | (with_reducible refine LeO.bind ?_ (fun _ => ?_))
   | exact ih0 _ _ _ _ _
   | exact ih1 _ _ _ _ _ _
   | exact ih2 _ _ _
   | exact bodkinref02_digit.mono _ _
   | exact LeO.none _
   | refine LeO.ite ?_ ?_
   | refine LeO.bind ?_ (fun _ => ?_)
def bodkinref02_Table.T21 : Bool × List (List Nat × List Nat) := (true,[([],[]),([],[]),([],[]),([1,2],[1,2]),([3],[3]),([],[]),([],[]),([6],[6]),([5,7],[5,7]),([8],[8]),([4,9],[4,9]),([10],[10]),([0,11],[0,11]),([12,12,0,1,2,3,4,5,6,7,8,9,10,11,12],[0,12])])
def bodkinref02_Table.B21 : List Nat := [0,0,0,6,14,0,0,64,224,480,1022,2046,4095,8191]
theorem bodkinref02_Table.tab21 : rtab .any (opsOf Tryd.f95 21) = bodkinref02_Table.T21 := by kernel_rfl
theorem bodkinref02_Table.bits21 : waitsOk bodkinref02_Table.T21.2 bodkinref02_Table.B21 = true := by kernel_rfl
set_option maxHeartbeats 8000000 in
set_option maxRecDepth 100000 in
theorem bodkinref02_Table.calls (k : Nat) (a0 : ByteArray) (r : List (S106)) (w : World) (h : bodkinref02_Table.f k a0 = some r) :
  Calls Tryd.prog 95 #[.string a0] w fun e w' => ∃ v0_ : Value,e = .returned (v0_) ∧ Kd.R k106 106 w' w.heap.size (fun _ => True) v0_ r ∧ Below w.heap.size w w' := by
 have hu106 := Tryd.underlying106
 have HB := Aside0.mk (Below.refl w.heap.size w)
 have H : (bodkinref02_Table.l0 k a0 ([] : List Int) 0 false 0) = some r := h
 clear h
 have H' := Aside0.mk H
 clear H
 go_enter Tryd.func95,Tryd.ntmps95
 go_wp2
 go_loopg [3,4,5,6] k (fun kq v3 v4 v5 v6 w' => ∃ (x3_1 : List Int) (x4_1 : Int) (x5_1 : Bool) (x6_1 : Int),v4 = .int .i32 x4_1 ∧ v5 = .bool x5_1 ∧ v6 = .int .i64 x6_1 ∧ Aside0 (bodkinref02_Table.l0 kq a0 x3_1 x4_1 x5_1 x6_1 = some r) ∧ Aside0 (kq ≤ k) ∧ Aside0 (Kd.R (Kd.int .i32) 21 w' w.heap.size (fun _ => True) v3 x3_1) ∧ Aside0 (Below w.heap.size w w'))
 case atStart => exact ⟨(([] : List Int)),(0),(false),(0),(by first | rfl | (simp;done) | (simp [*];done)),(by first | rfl | (simp;done) | (simp [*];done)),(by first | rfl | (simp;done) | (simp [*];done)),H',⟨Nat.le_refl _⟩,⟨by first | exact Kd.R_nil _ _ _ _ _ | exact Kd.N_nil _ _ _ _ _ | exact Kd.V_nil _ _ _ _ _ | exact Kd.Q_nil _ _ _ _ _ | exact Kd.S_nil _ _ _ _ _⟩,⟨by repeat (first | (with_reducible first | exact HB.out | apply below_alloc | apply pw_below_drewN | apply below_drew1) | exact HB.out)⟩⟩
 case round =>
  clear H'
  obtain ⟨x3_1,x4_1,x5_1,x6_1,rfl,rfl,rfl,HA,HK1,HO_3,HB⟩ := hrel
  cases gk with
  | zero => exact absurd HA.out (by simp [bodkinref02_Table.l0])
  | succ k1 =>
   have H := HA.out
   clear HA
   simp only [bodkinref02_Table.l0] at H
   by_cases c2 : x6_1 ≤ (a0.size : Int)
   ·rw [if_pos c2] at H
    have c2b0 : decide (x6_1 ≤ (a0.size : Int)) = true := decide_eq_true c2
    clear c2
    have HC3 := Aside0.mk H
    clear H
    go_upto_if 19 with (fail)
    go_cut [7] (fun v7 wc => ∃ (kq : Nat) (x7_2 : Int),v7 = .int .i32 x7_2 ∧ Aside0 (bodkinref02_Table.j1 kq a0 x3_1 x4_1 x5_1 x6_1 x7_2 = some r) ∧ Aside0 (kq ≤ k1) ∧ Aside0 (Kd.R (Kd.int .i32) 21 wc w.heap.size (fun _ => True) u3 x3_1) ∧ Aside0 (Below w.heap.size w wc))
    case first =>
     have H := HC3.out
     clear HC3
     by_cases c4 : x6_1 < (a0.size : Int)
     ·rw [if_pos c4] at H
      have c4b0 : decide (x6_1 < (a0.size : Int)) = true := decide_eq_true c4
      clear c4
      (first | rw [c4b0] | (simp only [i64_w,i32_w];rw [c4b0]) | skip)
      by_cases c5 : 0 ≤ x6_1
      ·rw [if_pos c5] at H
       have c5b0 : decide (0 ≤ x6_1) = true := decide_eq_true c5
       clear c5
       replace H := Option.bind_eq_some_iff.mp H
       obtain ⟨t272,A70,H⟩ := H
       replace H : (bodkinref02_Table.j1 k1 a0 x3_1 x4_1 x5_1 x6_1 t272) = some r := H
       have A7 := Aside0.mk A70
       clear A70
       have H' := Aside0.mk H
       clear H
       have p6 : 0 ≤ (x6_1 : Int) := of_decide_eq_true (by first | (with_reducible assumption) | assumption)
       have q6 : x6_1 < (a0.size : Int) := of_decide_eq_true (by first | (with_reducible assumption) | assumption)
       have hx6 := bt_at a0 x6_1
       replace p6 := eq_true p6
       replace q6 := eq_true q6
       go_wp2_with (first | ((with_reducible refine gate_callee (f := 101) rfl ?_);refine goesL_ (some 23) rfl rfl Tryd.func101 (by kernel_rfl) rfl #[.int .u8 (bt a0 x6_1)] rfl (by (try simp only [List.map_toArray,List.map_cons,List.map_nil]);first | done | rfl | (simp only [List.length_drop,List.length_take];rfl)) ?_;(with_reducible refine (bodkinref02_digit.calls k1 (bt a0 x6_1) t272 _ A7.out).mono ?_);rintro e w' ⟨rfl,⟨nd,rfl⟩⟩;refine ⟨_,rfl,?_⟩))
       go_meet
       case rel => exact ⟨_,(t272),(by first | rfl | (simp;done) | (simp [*];done)),H',⟨by have := HK1.out;first | omega | exact Nat.le_refl _⟩,⟨by (with_reducible repeat (first | apply Kd.R_alloc | apply Kd.R_drewN | apply Kd.R_drew));exact HO_3.out⟩,⟨by repeat (first | (with_reducible first | exact HB.out | apply below_alloc | apply pw_below_drewN | apply below_drew1) | exact HB.out)⟩⟩
      ·rw [if_neg c5] at H
       exact absurd H (by simp)
     ·rw [if_neg c4] at H
      have c4b0 : decide (x6_1 < (a0.size : Int)) = false := decide_eq_false c4
      clear c4
      (first | rw [c4b0] | (simp only [i64_w,i32_w];rw [c4b0]) | skip)
      have H' := Aside0.mk H
      clear H
      go_wp2
      go_meet
      case rel => exact ⟨_,((-1)),(by first | rfl | (simp;done) | (simp [*];done)),H',⟨by have := HK1.out;first | omega | exact Nat.le_refl _⟩,⟨by (with_reducible repeat (first | apply Kd.R_alloc | apply Kd.R_drewN | apply Kd.R_drew));exact HO_3.out⟩,⟨by repeat (first | (with_reducible first | exact HB.out | apply below_alloc | apply pw_below_drewN | apply below_drew1) | exact HB.out)⟩⟩
    case rest =>
     clear HC3
     try clear c1
     try clear c2
     try clear c2b0
     try clear p2
     try clear c4
     try clear c4b0
     try clear c5
     try clear c5b0
     try clear p6
     try clear q6
     try clear hx6
     try clear p6
     try clear q6
     obtain ⟨kq,x7_2,rfl,HA,HJ2,HO_3,HB⟩ := hcut
     cases kq with
     | zero => exact absurd HA.out (by simp [bodkinref02_Table.j1])
     | succ kj2 =>
      have H := HA.out
      clear HA
      simp only [bodkinref02_Table.j1] at H
      by_cases c8 : x7_2 ≥ 0
      ·rw [if_pos c8] at H
       have c8b0 : decide (0 ≤ x7_2) = true := decide_eq_true c8
       clear c8
       have H' := Aside0.mk H
       clear H
       go_wp2
       go_roundg kj2
       case measure => have := HK1.out;have := HJ2.out;omega
       case rel => exact ⟨(x3_1),(wrap32 ((wrap32 (x4_1 * 16)) + x7_2)),(true),(wrap64 (x6_1 + 1)),(by first | rfl | (simp;done) | (simp [*];done)),(by first | rfl | (simp;done) | (simp [*];done)),(by first | rfl | (simp;done) | (simp [*];done)),H',⟨by have := HK1.out;have := HJ2.out;omega⟩,⟨by (with_reducible repeat (first | apply Kd.R_alloc | apply Kd.R_drewN | apply Kd.R_drew));exact HO_3.out⟩,⟨by repeat (first | (with_reducible first | exact HB.out | apply below_alloc | apply pw_below_drewN | apply below_drew1) | exact HB.out)⟩⟩
      ·rw [if_neg c8] at H
       have c8b0 : decide (0 ≤ x7_2) = false := decide_eq_false c8
       clear c8
       by_cases c9 : x5_1 = true
       ·subst c9
        have H1 : (if x3_1.length < 35184372088832 then (bodkinref02_Table.l0 kj2 a0 (x3_1 ++ [x4_1]) 0 false (wrap64 (x6_1 + 1))) else (none)) = some r := by rw [if_pos rfl] at H;exact H
        clear H
        have H := H1
        clear H1
        by_cases c10 : x3_1.length < 35184372088832
        ·rw [if_pos c10] at H
         have LMc10 := Aside0.mk c10
         clear c10
         obtain ⟨y273,hy273⟩ : ∃ y_ : List Int,y_ = (x3_1 ++ [x4_1]) := ⟨_,rfl⟩
         replace H : (bodkinref02_Table.l0 kj2 a0 y273 0 false (wrap64 (x6_1 + 1))) = some r := by first | (rw [hy273];with_reducible exact H) | (have H2_ := (Option.bind_some _ _).symm.trans H;rw [hy273];with_reducible exact H2_) | (have H2_ := (Option.bind_some _ _).symm.trans H;with_reducible exact H2_) | with_reducible exact H | (rw [hy273];exact H) | exact H
         have Ny273 := Aside0.mk hy273
         clear hy273
         have H' := Aside0.mk H
         clear H
         go_wp2_with (first | ((with_reducible refine gate_builtin (b := .append) (xs := #[.tmp 31,.tmp 33]) rfl ?_);at_builtin;refine Kd.R_append (Kd.int .i32) (w0 := w) w.heap.size rfl (.tmp 31) (.tmp 33) 42 21 (.int .i32 0) 4 rfl Tryd.underlying42 info21 rfl (by decide) (by omega) u3 x3_1 x4_1 [.int .i32 x4_1] (fun _ => True) (fun _ => False) rfl rfl ?aP (fun _ hk => hk.elim) ?aF ?aO ?aB ?aS ?aL ?_;(case aP => exact rfl);(case aB => exact (by repeat (first | (with_reducible first | exact HB.out | apply below_alloc | apply pw_below_drewN | apply below_drew1) | exact HB.out)));(case aF => exact (fun _ _ => trivial));(case aO => exact (by (with_reducible repeat (first | apply Kd.R_alloc | apply Kd.R_drewN | apply Kd.R_drew));exact HO_3.out));(case aS => exact (below_size (by repeat (first | (with_reducible first | exact HB.out | apply below_alloc | apply pw_below_drewN | apply below_drew1) | exact HB.out))));(case aL => have := LMc10.out;omega);intro v274 w11 ho hb hg hat;rw [← Ny273.out] at ho;have n0_ := Aside0.mk (hb);have n1_ := Aside0.mk (ho);clear HB;clear HO_3;have HB := n0_;have HO275 := n1_;clear n0_ n1_;clear ho hb hg hat))
         go_roundg kj2
         case measure => have := HK1.out;have := HJ2.out;omega
         case rel => exact ⟨(y273),(0),(false),(wrap64 (x6_1 + 1)),(by first | rfl | (simp;done) | (simp [*];done)),(by first | rfl | (simp;done) | (simp [*];done)),(by first | rfl | (simp;done) | (simp [*];done)),H',⟨by have := HK1.out;have := HJ2.out;omega⟩,⟨by (with_reducible repeat (first | apply Kd.R_alloc | apply Kd.R_drewN | apply Kd.R_drew));exact HO275.out⟩,⟨by repeat (first | (with_reducible first | exact HB.out | apply below_alloc | apply pw_below_drewN | apply below_drew1) | exact HB.out)⟩⟩
        ·rw [if_neg c10] at H
         exact absurd H (by simp)
       ·replace c9 := Bool.eq_false_iff.mpr c9
        subst c9
        have H1 : (bodkinref02_Table.l0 kj2 a0 x3_1 0 false (wrap64 (x6_1 + 1))) = some r := by rw [if_neg (show ¬ (false = true) by decide)] at H;exact H
        clear H
        have H := H1
        clear H1
        have H' := Aside0.mk H
        clear H
        go_wp2
        go_roundg kj2
        case measure => have := HK1.out;have := HJ2.out;omega
        case rel => exact ⟨(x3_1),(0),(false),(wrap64 (x6_1 + 1)),(by first | rfl | (simp;done) | (simp [*];done)),(by first | rfl | (simp;done) | (simp [*];done)),(by first | rfl | (simp;done) | (simp [*];done)),H',⟨by have := HK1.out;have := HJ2.out;omega⟩,⟨by (with_reducible repeat (first | apply Kd.R_alloc | apply Kd.R_drewN | apply Kd.R_drew));exact HO_3.out⟩,⟨by repeat (first | (with_reducible first | exact HB.out | apply below_alloc | apply pw_below_drewN | apply below_drew1) | exact HB.out)⟩⟩
   ·rw [if_neg c2] at H
    have c2b0 : decide (x6_1 ≤ (a0.size : Int)) = false := decide_eq_false c2
    clear c2
    have H' := Aside0.mk H
    clear H
    go_wp2
    go_loopg [8,9] k1 (fun kq v8 v9 w' => ∃ (x8_2 : List (S106)) (x9_2 : Int),v9 = .int .i64 x9_2 ∧ Aside0 (bodkinref02_Table.l1 kq x3_1 x8_2 x9_2 = some r) ∧ Aside0 (kq ≤ k1) ∧ Aside0 (Kd.R (Kd.int .i32) 21 w' w.heap.size (fun _ => True) u3 x3_1) ∧ Aside0 (Kd.R k106 106 w' w.heap.size (fun _ => True) v8 x8_2) ∧ Aside0 (Below w.heap.size w w'))
    case atStart => exact ⟨(([] : List (S106))),(0),(by first | rfl | (simp;done) | (simp [*];done)),H',⟨Nat.le_refl _⟩,⟨by (with_reducible repeat (first | apply Kd.R_alloc | apply Kd.R_drewN | apply Kd.R_drew));exact HO_3.out⟩,⟨by first | exact Kd.R_nil _ _ _ _ _ | exact Kd.N_nil _ _ _ _ _ | exact Kd.V_nil _ _ _ _ _ | exact Kd.Q_nil _ _ _ _ _ | exact Kd.S_nil _ _ _ _ _⟩,⟨by repeat (first | (with_reducible first | exact HB.out | apply below_alloc | apply pw_below_drewN | apply below_drew1) | exact HB.out)⟩⟩
    case round =>
     clear H'
     try clear c1
     try clear c2
     try clear c2b0
     try clear p2
     try clear p3
     try clear c4
     try clear c4b0
     try clear c5
     try clear c5b0
     try clear p6
     try clear q6
     try clear hx6
     try clear c8
     try clear c8b0
     try clear c9
     try clear c10
     try clear p2
     try clear p6
     try clear q6
     obtain ⟨x8_2,x9_2,rfl,HA,HK2,HO_3,HO_8,HB⟩ := hrel
     cases gk with
     | zero => exact absurd HA.out (by simp [bodkinref02_Table.l1])
     | succ k2 =>
      have H := HA.out
      clear HA
      simp only [bodkinref02_Table.l1] at H
      by_cases c12 : (wrap64 (x9_2 + 1)) < (x3_1.length : Int)
      ·rw [if_pos c12] at H
       have c12b0 : decide ((wrap64 (x9_2 + 1)) < (x3_1.length : Int)) = true := decide_eq_true c12
       clear c12
       by_cases c13 : 0 ≤ x9_2
       ·rw [if_pos c13] at H
        have c13b0 : decide (0 ≤ x9_2) = true := decide_eq_true c13
        clear c13
        by_cases c14 : x9_2 < (x3_1.length : Int)
        ·rw [if_pos c14] at H
         have c14b0 : decide (x9_2 < (x3_1.length : Int)) = true := decide_eq_true c14
         clear c14
         obtain ⟨ji15,hji15⟩ : ∃ j_ : Int,(wrap64 (x9_2 + 1)) = j_ := ⟨_,rfl⟩
         replace H : (if 0 ≤ (ji15) then (if x8_2.length < 17592186044416 then (bodkinref02_Table.l1 k2 x3_1 (x8_2 ++ [(⟨rd x3_1 x9_2,rd x3_1 (ji15)⟩ : S106)]) (wrap64 (x9_2 + 2))) else (none)) else (none)) = some r := by first | (rw [hji15] at H;exact H) | (simp only [hji15] at H ⊢;exact H)
         (try rw [hji15] at c12b0)
         have hji15w : (IntKind.i64.wrap (x9_2 + 1)) = ji15 := (i64_w _).trans hji15
         by_cases c16 : 0 ≤ (ji15)
         ·rw [if_pos c16] at H
          have c16b0 : decide (0 ≤ (ji15)) = true := decide_eq_true c16
          clear c16
          by_cases c17 : x8_2.length < 17592186044416
          ·rw [if_pos c17] at H
           have LMc17 := Aside0.mk c17
           clear c17
           obtain ⟨y278,hy278⟩ : ∃ y_ : List (S106),y_ = (x8_2 ++ [(⟨rd x3_1 x9_2,rd x3_1 (ji15)⟩ : S106)]) := ⟨_,rfl⟩
           replace H : (bodkinref02_Table.l1 k2 x3_1 y278 (wrap64 (x9_2 + 2))) = some r := by first | (rw [hy278];with_reducible exact H) | (have H2_ := (Option.bind_some _ _).symm.trans H;rw [hy278];with_reducible exact H2_) | (have H2_ := (Option.bind_some _ _).symm.trans H;with_reducible exact H2_) | with_reducible exact H | (rw [hy278];exact H) | exact H
           have Ny278 := Aside0.mk hy278
           clear hy278
           have H' := Aside0.mk H
           clear H
           obtain ⟨Ao18,co18,eo18⟩ := Kd.R_slice HO_3.out
           subst eo18
           try go_wp2
           have n0_ := Aside0.mk (Kd.R_drew HO_3.out)
           have n1_ := Aside0.mk (Kd.R_drew HO_8.out)
           have n2_ := Aside0.mk (below_drew1 HB.out)
           clear HO_3
           clear HO_8
           clear HB
           have HO_3 := n0_
           have HO_8 := n1_
           have HB := n2_
           clear n0_ n1_ n2_
           have p276 : 0 ≤ (x9_2 : Int) := of_decide_eq_true (by first | (with_reducible assumption) | assumption)
           have q276 : x9_2 < (x3_1.length : Int) := of_decide_eq_true (by first | (with_reducible assumption) | assumption)
           obtain ⟨ad276,e276,hx276_0⟩ := Kd.at_int (Kd.R_reads' HO_3.out).2.2 x9_2 p276 q276
           cases e276
           replace p276 := eq_true p276
           replace q276 := eq_true q276
           have p277 : 0 ≤ ((ji15) : Int) := of_decide_eq_true (by first | (with_reducible assumption) | assumption)
           have q277 : (ji15) < (x3_1.length : Int) := of_decide_eq_true (by first | (with_reducible assumption) | assumption)
           obtain ⟨ad277,e277,hx277_0⟩ := Kd.at_int (Kd.R_reads' HO_3.out).2.2 (ji15) p277 q277
           obtain rfl : ad276 = ad277 := (by injection e277)
           replace p277 := eq_true p277
           replace q277 := eq_true q277
           refine start_ (n := 14) (S := fun w' => w'.cell? (ad276.add (x9_2).toNat) = some (.int .i32 (rd x3_1 x9_2)) ∧ w'.cell? (ad276.add ((ji15)).toNat) = some (.int .i32 (rd x3_1 (ji15)))) (ds := [11,12]) #[false,false,false,false,false,false,false,false,false,false,false,false,false,false] (by kernel_rfl) rfl rfl ⟨hx276_0,hx277_0⟩ (fun hHeld => ?_);refine with_tabW bodkinref02_Table.tab21 bodkinref02_Table.bits21 (fun HT_ HW_ => ?_)
           generalize wr.drew = w19 at HO_3 HO_8 HB hx276_0 hx277_0 hHeld ⊢
           refine pure_ (i := 0) (N := some 42) (v := ?_) (a' := ?_) #[true,false,false,false,false,false,false,false,false,false,false,false,false,false] rfl rfl (any_of HT_.out (by kernel_rfl)) (fun _ _ _ h => h) (Or.inl ⟨by rfl,?_⟩) ?_ ?_
           rotate_left
           ·intro w'
            go_simp
            with_reducible rfl
           rotate_left
           ·simp only [Act.put,List.setIfInBounds_toArray,List.set_cons_zero,List.set_cons_succ,i64_w,i32_w]
            rfl
           refine pure_ (i := 1) (N := some 43) (v := ?_) (a' := ?_) #[true,true,false,false,false,false,false,false,false,false,false,false,false,false] rfl rfl (any_of HT_.out (by kernel_rfl)) (fun _ _ _ h => h) (Or.inl ⟨by rfl,?_⟩) ?_ ?_
           rotate_left
           ·intro w'
            go_simp
            with_reducible rfl
           rotate_left
           ·simp only [Act.put,List.setIfInBounds_toArray,List.set_cons_zero,List.set_cons_succ,i64_w,i32_w]
            rfl
           refine pure_ (i := 2) (N := some 44) (v := ?_) (a' := ?_) #[true,true,true,false,false,false,false,false,false,false,false,false,false,false] rfl rfl (any_of HT_.out (by kernel_rfl)) (fun _ _ _ h => h) (Or.inl ⟨by rfl,?_⟩) ?_ ?_
           rotate_left
           ·intro w'
            go_simp
            with_reducible rfl
           rotate_left
           ·simp only [Act.put,List.setIfInBounds_toArray,List.set_cons_zero,List.set_cons_succ,i64_w,i32_w]
            rfl
           refine pure_ (i := 3) (N := some 45) (v := ?_) (a' := ?_) #[true,true,true,true,false,false,false,false,false,false,false,false,false,false] rfl rfl (any_of HT_.out (by kernel_rfl)) (fun _ _ _ h => h) (Or.inl ⟨by rfl,?_⟩) ?_ ?_
           rotate_left
           ·intro w'
            go_simp
            with_reducible rfl
           rotate_left
           ·simp only [Act.put,List.setIfInBounds_toArray,List.set_cons_zero,List.set_cons_succ,i64_w,i32_w]
            rfl
           refine pure_ (i := 5) (N := some 47) (v := ?_) (a' := ?_) #[true,true,true,true,false,true,false,false,false,false,false,false,false,false] rfl rfl (any_of HT_.out (by kernel_rfl)) (fun _ _ _ h => h) (Or.inl ⟨by rfl,?_⟩) ?_ ?_
           rotate_left
           ·intro w'
            go_simp
            with_reducible rfl
           rotate_left
           ·simp only [Act.put,List.setIfInBounds_toArray,List.set_cons_zero,List.set_cons_succ,i64_w,i32_w]
            rfl
           refine pure_ (i := 6) (N := some 48) (v := ?_) (a' := ?_) #[true,true,true,true,false,true,true,false,false,false,false,false,false,false] rfl rfl (any_of HT_.out (by kernel_rfl)) (fun _ _ _ h => h) (Or.inl ⟨by rfl,?_⟩) ?_ ?_
           rotate_left
           ·intro w'
            go_simp
            with_reducible rfl
           rotate_left
           ·simp only [Act.put,List.setIfInBounds_toArray,List.set_cons_zero,List.set_cons_succ,i64_w,i32_w]
            rfl
           refine pure_ (i := 7) (N := some 49) (v := ?_) (a' := ?_) #[true,true,true,true,false,true,true,true,false,false,false,false,false,false] rfl rfl (any_of HT_.out (by kernel_rfl)) (fun _ _ _ h => h) (Or.inl ⟨by rfl,?_⟩) ?_ ?_
           rotate_left
           ·intro w'
            go_simp
            with_reducible rfl
           rotate_left
           ·simp only [Act.put,List.setIfInBounds_toArray,List.set_cons_zero,List.set_cons_succ,i64_w,i32_w]
            rfl
           refine pure_ (i := 8) (N := some 50) (v := ?_) (a' := ?_) #[true,true,true,true,false,true,true,true,true,false,false,false,false,false] rfl rfl (any_of HT_.out (by kernel_rfl)) (fun _ _ _ h => h) (Or.inl ⟨by rfl,?_⟩) ?_ ?_
           rotate_left
           ·intro w'
            go_simp
            with_reducible rfl
           rotate_left
           ·simp only [Act.put,List.setIfInBounds_toArray,List.set_cons_zero,List.set_cons_succ,i64_w,i32_w]
            rfl
           refine take_ (i := 4) (N := some 46) (v := ?_) (a' := ?_) #[true,true,true,true,true,true,true,true,true,false,false,false,false,false] rfl rfl (take_ofW HT_.out HW_.out (by kernel_rfl)) (fun _ _ _ h => h) (Or.inl ⟨by rfl,?_⟩) hHeld ?_ ?_
           rotate_left
           ·rintro w' ⟨s0,s1⟩
            go_simp
            with_reducible rfl
           rotate_left
           ·simp only [Act.put,List.setIfInBounds_toArray,List.set_cons_zero,List.set_cons_succ,i64_w,i32_w]
            rfl
           refine take_ (i := 9) (N := some 51) (v := ?_) (a' := ?_) #[true,true,true,true,true,true,true,true,true,true,false,false,false,false] rfl rfl (take_ofW HT_.out HW_.out (by kernel_rfl)) (fun _ _ _ h => h) (Or.inl ⟨by rfl,?_⟩) hHeld ?_ ?_
           rotate_left
           ·rintro w' ⟨s0,s1⟩
            go_simp
            with_reducible rfl
           rotate_left
           ·simp only [Act.put,List.setIfInBounds_toArray,List.set_cons_zero,List.set_cons_succ,i64_w,i32_w]
            rfl
           refine pure_ (i := 10) (N := some 52) (v := ?_) (a' := ?_) #[true,true,true,true,true,true,true,true,true,true,true,false,false,false] rfl rfl (any_of HT_.out (by kernel_rfl)) (fun _ _ _ h => h) (Or.inl ⟨by rfl,?_⟩) ?_ ?_
           rotate_left
           ·intro w'
            go_simp
            with_reducible rfl
           rotate_left
           ·simp only [Act.put,List.setIfInBounds_toArray,List.set_cons_zero,List.set_cons_succ,i64_w,i32_w]
            rfl
           refine last_ (i := 11) (N := some 53) #[true,true,true,true,true,true,true,true,true,true,true,true,false,false] rfl rfl (one_of HT_.out (by kernel_rfl)) (by decide) (fun K hK => ?_)
           refine value_ (w1 := ?_) (v := ?_) (by rfl) rfl ?_ ?_
           rotate_left 2
           ·go_simp
            constructor
            ·rfl
            ·rfl
           refine hK.out _ _ ?_
           clear hK K
           refine norm_ (a' := ?_) ?_ ?_
           rotate_left
           ·show Act.put _ (some 53) _ = _
            simp only [Act.put,List.setIfInBounds_toArray,List.set_cons_zero,List.set_cons_succ,i64_w,i32_w]
            rfl
           refine last_ (i := 12) (N := some 54) #[true,true,true,true,true,true,true,true,true,true,true,true,true,false] rfl rfl (one_of HT_.out (by kernel_rfl)) (by decide) (fun K hK => ?_)
           refine Kd.R_append_step k106 (w0 := w) w.heap.size (by rfl) (.tmp 42) (.tmp 53) 101 106 (.agg #[(.int .i32 0),(.int .i32 0)]) 8 rfl Tryd.underlying101 info106 rfl (by decide) (by omega) u8 x8_2 (⟨rd x3_1 x9_2,rd x3_1 (ji15)⟩ : S106) [.int .i32 (rd x3_1 x9_2),.int .i32 (rd x3_1 (ji15))] (fun _ => True) (fun _ => False) rfl rfl ?aP (fun _ hk => hk.elim) ?aF ?aO ?aB ?aS ?aL ?_
           (case aP => exact k106_mkM _ _ _ (⟨rd x3_1 x9_2,rd x3_1 (ji15)⟩ : S106))
           (case aB => exact (by repeat (first | (with_reducible first | exact HB.out | apply below_alloc | apply pw_below_drewN | apply below_drew1) | exact HB.out)))
           (case aF => exact (fun _ _ => trivial))
           (case aO => exact (by (with_reducible repeat (first | apply Kd.R_alloc | apply Kd.R_drewN | apply Kd.R_drew));exact HO_8.out))
           (case aS => exact (below_size (by repeat (first | (with_reducible first | exact HB.out | apply below_alloc | apply pw_below_drewN | apply below_drew1) | exact HB.out))))
           (case aL => have := LMc17.out;omega)
           intro v279 w20 ho hb hg hat
           rw [← Ny278.out] at ho
           have n0_ := Aside0.mk (Kd.R_over' (by (with_reducible repeat (first | apply Kd.R_alloc | apply Kd.R_drewN | apply Kd.R_drew));exact HO_3.out) (Kd.R_typed (by (with_reducible repeat (first | apply Kd.R_alloc | apply Kd.R_drewN | apply Kd.R_drew));exact HO_8.out)) (by decide) hg)
           have n1_ := Aside0.mk (hb)
           have n2_ := Aside0.mk (ho)
           clear HO_3
           clear HB
           clear HO_8
           have HO_3 := n0_
           have HB := n1_
           have HO280 := n2_
           clear n0_ n1_ n2_
           clear ho hb hg hat
           refine hK.out _ _ ?_
           clear hK K
           refine norm_ (a' := ?_) ?_ ?_
           rotate_left
           ·show Act.put _ (some 54) _ = _
            simp only [Act.put,List.setIfInBounds_toArray,List.set_cons_zero,List.set_cons_succ,i64_w,i32_w]
            rfl
           refine pure_ (i := 13) (N := some 8) (v := ?_) (a' := ?_) #[true,true,true,true,true,true,true,true,true,true,true,true,true,true] rfl rfl (any_of HT_.out (by kernel_rfl)) (fun _ _ _ h => h) (Or.inl ⟨by rfl,?_⟩) ?_ ?_
           rotate_left
           ·intro w'
            go_simp
            with_reducible rfl
           rotate_left
           ·simp only [Act.put,List.setIfInBounds_toArray,List.set_cons_zero,List.set_cons_succ,i64_w,i32_w]
            rfl
           refine done_ (done_of HT_.out (by kernel_rfl)) ?_
           try go_wp2
           go_roundg k2
           case measure => have := HK1.out;have := HK2.out;omega
           case rel => exact ⟨(y278),(wrap64 (x9_2 + 2)),(by first | rfl | (simp;done) | (simp [*];done)),H',⟨by have := HK1.out;have := HK2.out;omega⟩,⟨by (with_reducible repeat (first | apply Kd.R_alloc | apply Kd.R_drewN | apply Kd.R_drew));exact HO_3.out⟩,⟨by (with_reducible repeat (first | apply Kd.R_alloc | apply Kd.R_drewN | apply Kd.R_drew));exact HO280.out⟩,⟨by repeat (first | (with_reducible first | exact HB.out | apply below_alloc | apply pw_below_drewN | apply below_drew1) | exact HB.out)⟩⟩
          ·rw [if_neg c17] at H
           exact absurd H (by simp)
         ·rw [if_neg c16] at H
          exact absurd H (by simp)
        ·rw [if_neg c14] at H
         exact absurd H (by simp)
       ·rw [if_neg c13] at H
        exact absurd H (by simp)
      ·rw [if_neg c12] at H
       have c12b0 : decide ((wrap64 (x9_2 + 1)) < (x3_1.length : Int)) = false := decide_eq_false c12
       clear c12
       obtain rfl := Option.some.inj H
       obtain ⟨Ao21,co21,eo21⟩ := Kd.R_slice HO_3.out
       subst eo21
       go_wp2
       go_ret
       exact ⟨_,by first | rfl | (simp [errW_none,errW_some] <;> rfl) | (simp [*,errW_none,errW_some] <;> rfl),by (with_reducible repeat (first | apply Kd.R_alloc | apply Kd.R_drewN | apply Kd.R_drew));exact HO_8.out,by repeat (first | (with_reducible first | exact HB.out | apply below_alloc | apply pw_below_drewN | apply below_drew1) | exact HB.out)⟩
mutual
def bodkinref02_Class.j0 : Nat → Int → Bool → Option (Int)
 | 0,_,_ => none
 | k + 1,x0,x3 => if x3 = true then (some 5) else (if x0 = 10 then (some 1) else (if x0 ≤ 31 then (bodkinref02_Class.j1 k x0 true) else (if x0 ≥ 127 then (bodkinref02_Class.j1 k x0 (decide (x0 ≤ 159))) else (bodkinref02_Class.j1 k x0 false))))
def bodkinref02_Class.j1 : Nat → Int → Bool → Option (Int)
 | 0,_,_ => none
 | k + 1,x0,x21 => if x21 = true then (some 2) else (if x0 < 768 then (some 0) else ((bodkinref02_Table.f k (⟨#[51,48,48,32,51,54,70,44,32,52,56,51,32,52,56,57,44,32,53,57,49,32,53,66,68,44,32,53,66,70,32,53,66,70,44,32,53,67,49,32,53,67,50,44,32,54,49,48,32,54,49,65,44,32,54,52,66,32,54,53,70,44,32,54,55,48,32,54,55,48,44,32,54,68,54,32,54,68,67,44,32,57,48,48,32,57,48,50,44,32,57,51,67,32,57,51,67,44,32,57,52,68,32,57,52,68,44,32,69,51,49,32,69,51,49,44,32,69,51,52,32,69,51,65,44,32,69,52,55,32,69,52,69,44,32,49,51,53,68,32,49,51,53,70,44,32,49,65,66,48,32,49,65,70,70,44,32,49,68,67,48,32,49,68,70,70,44,32,50,48,48,67,32,50,48,48,68,44,32,50,48,68,48,32,50,48,70,70,44,32,51,48,50,65,32,51,48,50,70,44,32,51,48,57,57,32,51,48,57,65,44,32,70,69,48,48,32,70,69,48,70,44,32,70,69,50,48,32,70,69,50,70,44,32,49,70,51,70,66,32,49,70,51,70,70,44,32,69,48,49,48,48,32,69,48,49,69,70]⟩ : ByteArray)).bind fun t281 => ((bodkinref02_Within.f k t281 x0).bind fun t284 => (if t284 = true then (some 3) else ((bodkinref02_Table.f k (⟨#[49,49,48,48,32,49,49,53,70,44,32,50,51,49,65,32,50,51,49,66,44,32,50,51,50,57,32,50,51,50,65,44,32,50,51,69,57,32,50,51,69,67,44,32,50,53,70,68,32,50,53,70,69,44,32,50,54,49,52,32,50,54,49,53,44,32,50,54,52,56,32,50,54,53,51,44,32,50,54,65,65,32,50,54,65,66,44,32,50,69,56,48,32,51,48,50,57,44,32,51,48,51,48,32,51,48,51,69,44,32,51,48,52,49,32,51,48,57,56,44,32,51,48,57,66,32,52,68,66,70,44,32,52,69,48,48,32,65,52,67,70,44,32,65,57,54,48,32,65,57,55,70,44,32,65,67,48,48,32,68,55,65,51,44,32,70,57,48,48,32,70,65,70,70,44,32,70,69,51,48,32,70,69,54,70,44,32,70,70,48,49,32,70,70,54,48,44,32,70,70,69,48,32,70,70,69,54,44,32,49,54,70,69,48,32,49,56,65,70,70,44,32,49,66,48,48,48,32,49,66,50,70,70,44,32,49,70,51,48,48,32,49,70,51,70,65,44,32,49,70,52,48,48,32,49,70,54,52,70,44,32,49,70,54,56,48,32,49,70,54,70,70,44,32,49,70,57,48,48,32,49,70,57,70,70,44,32,50,48,48,48,48,32,50,70,70,70,68,44,32,51,48,48,48,48,32,51,70,70,70,68]⟩ : ByteArray)).bind fun t285 => ((bodkinref02_Within.f k t285 x0).bind fun t288 => (if t288 = true then (some 4) else (some 0))))))))
end
def bodkinref02_Class.f (k : Nat) (a0 : Int) : Option (Int) := if a0 < 0 then (bodkinref02_Class.j0 k a0 true) else (if a0 > 1114111 then (bodkinref02_Class.j0 k a0 true) else (if a0 ≥ 55296 then (bodkinref02_Class.j0 k a0 (decide (a0 ≤ 57343))) else (bodkinref02_Class.j0 k a0 false)))
set_option maxHeartbeats 8000000 in
set_option maxRecDepth 100000 in
theorem bodkinref02_Class.calls (k : Nat) (a0 : Int) (r : Int) (w : World) (h : bodkinref02_Class.f k a0 = some r) :
  Calls Tryd.prog 81 #[.int .i32 a0] w fun e w' => e = .returned (.int .i64 r) ∧ Below w.heap.size w w' := by
 have HB := Aside0.mk (Below.refl w.heap.size w)
 have H : (if a0 < 0 then (bodkinref02_Class.j0 k a0 true) else (if a0 > 1114111 then (bodkinref02_Class.j0 k a0 true) else (if a0 ≥ 55296 then (bodkinref02_Class.j0 k a0 (decide (a0 ≤ 57343))) else (bodkinref02_Class.j0 k a0 false)))) = some r := h
 clear h
 have HC2 := Aside0.mk H
 clear H
 go_enter Tryd.func81,Tryd.ntmps81
 go_upto_region 1 with (fail)
 go_cut [3] (fun v3 wc => ∃ (kq : Nat) (x3_1 : Bool),v3 = .bool x3_1 ∧ Aside0 (bodkinref02_Class.j0 kq a0 x3_1 = some r) ∧ Aside0 (kq ≤ k) ∧ Aside0 (Below w.heap.size w wc))
 case first =>
  have H := HC2.out
  clear HC2
  by_cases c3 : a0 < 0
  ·rw [if_pos c3] at H
   have c3b0 : decide (a0 < 0) = true := decide_eq_true c3
   clear c3
   (first | rw [c3b0] | (simp only [i64_w,i32_w];rw [c3b0]) | skip)
   have H' := Aside0.mk H
   clear H
   go_wp2
   go_meet
   case rel => exact ⟨_,(true),(by first | rfl | (simp;done) | (simp [*];done)),H',⟨by first | omega | exact Nat.le_refl _⟩,⟨by repeat (first | (with_reducible first | exact HB.out | apply below_alloc | apply pw_below_drewN | apply below_drew1) | exact HB.out)⟩⟩
  ·rw [if_neg c3] at H
   have c3b0 : decide (a0 < 0) = false := decide_eq_false c3
   clear c3
   (first | rw [c3b0] | (simp only [i64_w,i32_w];rw [c3b0]) | skip)
   by_cases c4 : a0 > 1114111
   ·rw [if_pos c4] at H
    have c4b0 : decide (1114111 < a0) = true := decide_eq_true c4
    clear c4
    have H' := Aside0.mk H
    clear H
    go_wp2
    go_meet
    case rel => exact ⟨_,(true),(by first | rfl | (simp;done) | (simp [*];done)),H',⟨by first | omega | exact Nat.le_refl _⟩,⟨by repeat (first | (with_reducible first | exact HB.out | apply below_alloc | apply pw_below_drewN | apply below_drew1) | exact HB.out)⟩⟩
   ·rw [if_neg c4] at H
    have c4b0 : decide (1114111 < a0) = false := decide_eq_false c4
    clear c4
    by_cases c5 : a0 ≥ 55296
    ·rw [if_pos c5] at H
     have c5b0 : decide (55296 ≤ a0) = true := decide_eq_true c5
     clear c5
     have H' := Aside0.mk H
     clear H
     go_wp2
     go_meet
     case rel => exact ⟨_,(decide (a0 ≤ 57343)),(by first | rfl | (simp;done) | (simp [*];done)),H',⟨by first | omega | exact Nat.le_refl _⟩,⟨by repeat (first | (with_reducible first | exact HB.out | apply below_alloc | apply pw_below_drewN | apply below_drew1) | exact HB.out)⟩⟩
    ·rw [if_neg c5] at H
     have c5b0 : decide (55296 ≤ a0) = false := decide_eq_false c5
     clear c5
     have H' := Aside0.mk H
     clear H
     go_wp2
     go_meet
     case rel => exact ⟨_,(false),(by first | rfl | (simp;done) | (simp [*];done)),H',⟨by first | omega | exact Nat.le_refl _⟩,⟨by repeat (first | (with_reducible first | exact HB.out | apply below_alloc | apply pw_below_drewN | apply below_drew1) | exact HB.out)⟩⟩
 case rest =>
  clear HC2
  try clear p2
  try clear c3
  try clear c3b0
  try clear c4
  try clear c4b0
  try clear c5
  try clear c5b0
  obtain ⟨kq,x3_1,rfl,HA,HJ1,HB⟩ := hcut
  cases kq with
  | zero => exact absurd HA.out (by simp [bodkinref02_Class.j0])
  | succ kj1 =>
   have H := HA.out
   clear HA
   simp only [bodkinref02_Class.j0] at H
   by_cases c6 : x3_1 = true
   ·subst c6
    have H1 : (some 5) = some r := by rw [if_pos rfl] at H;exact H
    clear H
    have H := H1
    clear H1
    obtain rfl := Option.some.inj H
    go_wp2
    go_ret
    exact ⟨by first | rfl | (simp [errW_none,errW_some] <;> rfl) | (simp [*,errW_none,errW_some] <;> rfl),by repeat (first | (with_reducible first | exact HB.out | apply below_alloc | apply pw_below_drewN | apply below_drew1) | exact HB.out)⟩
   ·replace c6 := Bool.eq_false_iff.mpr c6
    subst c6
    have H1 : (if a0 = 10 then (some 1) else (if a0 ≤ 31 then (bodkinref02_Class.j1 kj1 a0 true) else (if a0 ≥ 127 then (bodkinref02_Class.j1 kj1 a0 (decide (a0 ≤ 159))) else (bodkinref02_Class.j1 kj1 a0 false)))) = some r := by rw [if_neg (show ¬ (false = true) by decide)] at H;exact H
    clear H
    have H := H1
    clear H1
    by_cases c7 : a0 = 10
    ·rw [if_pos c7] at H
     have c7b0 : (a0 == 10) = true := beq_iff_eq.mpr c7
     have c7b1 : (a0 != 10) = false := bne_eq_false_iff_eq.mpr c7
     clear c7
     obtain rfl := Option.some.inj H
     go_wp2
     go_ret
     exact ⟨by first | rfl | (simp [errW_none,errW_some] <;> rfl) | (simp [*,errW_none,errW_some] <;> rfl),by repeat (first | (with_reducible first | exact HB.out | apply below_alloc | apply pw_below_drewN | apply below_drew1) | exact HB.out)⟩
    ·rw [if_neg c7] at H
     have c7b0 : (a0 == 10) = false := beq_eq_false_iff_ne.mpr c7
     have c7b1 : (a0 != 10) = true := bne_iff_ne.mpr c7
     have HC8 := Aside0.mk H
     clear H
     go_upto_region 5 with (fail)
     go_cut [21] (fun v21 wc => ∃ (kq : Nat) (x21_7 : Bool),v21 = .bool x21_7 ∧ Aside0 (bodkinref02_Class.j1 kq a0 x21_7 = some r) ∧ Aside0 (kq ≤ kj1) ∧ Aside0 (Below w.heap.size w wc))
     case first =>
      have H := HC8.out
      clear HC8
      by_cases c9 : a0 ≤ 31
      ·rw [if_pos c9] at H
       have c9b0 : decide (a0 ≤ 31) = true := decide_eq_true c9
       clear c9
       (first | rw [c9b0] | (simp only [i64_w,i32_w];rw [c9b0]) | skip)
       have H' := Aside0.mk H
       clear H
       go_wp2
       go_meet
       case rel => exact ⟨_,(true),(by first | rfl | (simp;done) | (simp [*];done)),H',⟨by have := HJ1.out;first | omega | exact Nat.le_refl _⟩,⟨by repeat (first | (with_reducible first | exact HB.out | apply below_alloc | apply pw_below_drewN | apply below_drew1) | exact HB.out)⟩⟩
      ·rw [if_neg c9] at H
       have c9b0 : decide (a0 ≤ 31) = false := decide_eq_false c9
       clear c9
       (first | rw [c9b0] | (simp only [i64_w,i32_w];rw [c9b0]) | skip)
       by_cases c10 : a0 ≥ 127
       ·rw [if_pos c10] at H
        have c10b0 : decide (127 ≤ a0) = true := decide_eq_true c10
        clear c10
        have H' := Aside0.mk H
        clear H
        go_wp2
        go_meet
        case rel => exact ⟨_,(decide (a0 ≤ 159)),(by first | rfl | (simp;done) | (simp [*];done)),H',⟨by have := HJ1.out;first | omega | exact Nat.le_refl _⟩,⟨by repeat (first | (with_reducible first | exact HB.out | apply below_alloc | apply pw_below_drewN | apply below_drew1) | exact HB.out)⟩⟩
       ·rw [if_neg c10] at H
        have c10b0 : decide (127 ≤ a0) = false := decide_eq_false c10
        clear c10
        have H' := Aside0.mk H
        clear H
        go_wp2
        go_meet
        case rel => exact ⟨_,(false),(by first | rfl | (simp;done) | (simp [*];done)),H',⟨by have := HJ1.out;first | omega | exact Nat.le_refl _⟩,⟨by repeat (first | (with_reducible first | exact HB.out | apply below_alloc | apply pw_below_drewN | apply below_drew1) | exact HB.out)⟩⟩
     case rest =>
      clear HC8
      try clear c1
      try clear p2
      try clear c3
      try clear c3b0
      try clear c4
      try clear c4b0
      try clear c5
      try clear c5b0
      try clear c6
      try clear c7
      try clear c7b0
      try clear c7b1
      try clear c8
      try clear c9
      try clear c9b0
      try clear c10
      try clear c10b0
      try clear p2
      obtain ⟨kq,x21_7,rfl,HA,HJ7,HB⟩ := hcut
      cases kq with
      | zero => exact absurd HA.out (by simp [bodkinref02_Class.j1])
      | succ kj7 =>
       have H := HA.out
       clear HA
       simp only [bodkinref02_Class.j1] at H
       by_cases c11 : x21_7 = true
       ·subst c11
        have H1 : (some 2) = some r := by rw [if_pos rfl] at H;exact H
        clear H
        have H := H1
        clear H1
        obtain rfl := Option.some.inj H
        go_wp2
        go_ret
        exact ⟨by first | rfl | (simp [errW_none,errW_some] <;> rfl) | (simp [*,errW_none,errW_some] <;> rfl),by repeat (first | (with_reducible first | exact HB.out | apply below_alloc | apply pw_below_drewN | apply below_drew1) | exact HB.out)⟩
       ·replace c11 := Bool.eq_false_iff.mpr c11
        subst c11
        have H1 : (if a0 < 768 then (some 0) else ((bodkinref02_Table.f kj7 (⟨#[51,48,48,32,51,54,70,44,32,52,56,51,32,52,56,57,44,32,53,57,49,32,53,66,68,44,32,53,66,70,32,53,66,70,44,32,53,67,49,32,53,67,50,44,32,54,49,48,32,54,49,65,44,32,54,52,66,32,54,53,70,44,32,54,55,48,32,54,55,48,44,32,54,68,54,32,54,68,67,44,32,57,48,48,32,57,48,50,44,32,57,51,67,32,57,51,67,44,32,57,52,68,32,57,52,68,44,32,69,51,49,32,69,51,49,44,32,69,51,52,32,69,51,65,44,32,69,52,55,32,69,52,69,44,32,49,51,53,68,32,49,51,53,70,44,32,49,65,66,48,32,49,65,70,70,44,32,49,68,67,48,32,49,68,70,70,44,32,50,48,48,67,32,50,48,48,68,44,32,50,48,68,48,32,50,48,70,70,44,32,51,48,50,65,32,51,48,50,70,44,32,51,48,57,57,32,51,48,57,65,44,32,70,69,48,48,32,70,69,48,70,44,32,70,69,50,48,32,70,69,50,70,44,32,49,70,51,70,66,32,49,70,51,70,70,44,32,69,48,49,48,48,32,69,48,49,69,70]⟩ : ByteArray)).bind fun t281 => ((bodkinref02_Within.f kj7 t281 a0).bind fun t284 => (if t284 = true then (some 3) else ((bodkinref02_Table.f kj7 (⟨#[49,49,48,48,32,49,49,53,70,44,32,50,51,49,65,32,50,51,49,66,44,32,50,51,50,57,32,50,51,50,65,44,32,50,51,69,57,32,50,51,69,67,44,32,50,53,70,68,32,50,53,70,69,44,32,50,54,49,52,32,50,54,49,53,44,32,50,54,52,56,32,50,54,53,51,44,32,50,54,65,65,32,50,54,65,66,44,32,50,69,56,48,32,51,48,50,57,44,32,51,48,51,48,32,51,48,51,69,44,32,51,48,52,49,32,51,48,57,56,44,32,51,48,57,66,32,52,68,66,70,44,32,52,69,48,48,32,65,52,67,70,44,32,65,57,54,48,32,65,57,55,70,44,32,65,67,48,48,32,68,55,65,51,44,32,70,57,48,48,32,70,65,70,70,44,32,70,69,51,48,32,70,69,54,70,44,32,70,70,48,49,32,70,70,54,48,44,32,70,70,69,48,32,70,70,69,54,44,32,49,54,70,69,48,32,49,56,65,70,70,44,32,49,66,48,48,48,32,49,66,50,70,70,44,32,49,70,51,48,48,32,49,70,51,70,65,44,32,49,70,52,48,48,32,49,70,54,52,70,44,32,49,70,54,56,48,32,49,70,54,70,70,44,32,49,70,57,48,48,32,49,70,57,70,70,44,32,50,48,48,48,48,32,50,70,70,70,68,44,32,51,48,48,48,48,32,51,70,70,70,68]⟩ : ByteArray)).bind fun t285 => ((bodkinref02_Within.f kj7 t285 a0).bind fun t288 => (if t288 = true then (some 4) else (some 0)))))))) = some r := by rw [if_neg (show ¬ (false = true) by decide)] at H;exact H
        clear H
        have H := H1
        clear H1
        by_cases c12 : a0 < 768
        ·rw [if_pos c12] at H
         have c12b0 : decide (a0 < 768) = true := decide_eq_true c12
         clear c12
         obtain rfl := Option.some.inj H
         go_wp2
         go_ret
         exact ⟨by first | rfl | (simp [errW_none,errW_some] <;> rfl) | (simp [*,errW_none,errW_some] <;> rfl),by repeat (first | (with_reducible first | exact HB.out | apply below_alloc | apply pw_below_drewN | apply below_drew1) | exact HB.out)⟩
        ·rw [if_neg c12] at H
         have c12b0 : decide (a0 < 768) = false := decide_eq_false c12
         clear c12
         replace H := Option.bind_eq_some_iff.mp H
         obtain ⟨t281,A130,H⟩ := H
         replace H : ((bodkinref02_Within.f kj7 t281 a0).bind fun t284 => (if t284 = true then (some 3) else ((bodkinref02_Table.f kj7 (⟨#[49,49,48,48,32,49,49,53,70,44,32,50,51,49,65,32,50,51,49,66,44,32,50,51,50,57,32,50,51,50,65,44,32,50,51,69,57,32,50,51,69,67,44,32,50,53,70,68,32,50,53,70,69,44,32,50,54,49,52,32,50,54,49,53,44,32,50,54,52,56,32,50,54,53,51,44,32,50,54,65,65,32,50,54,65,66,44,32,50,69,56,48,32,51,48,50,57,44,32,51,48,51,48,32,51,48,51,69,44,32,51,48,52,49,32,51,48,57,56,44,32,51,48,57,66,32,52,68,66,70,44,32,52,69,48,48,32,65,52,67,70,44,32,65,57,54,48,32,65,57,55,70,44,32,65,67,48,48,32,68,55,65,51,44,32,70,57,48,48,32,70,65,70,70,44,32,70,69,51,48,32,70,69,54,70,44,32,70,70,48,49,32,70,70,54,48,44,32,70,70,69,48,32,70,70,69,54,44,32,49,54,70,69,48,32,49,56,65,70,70,44,32,49,66,48,48,48,32,49,66,50,70,70,44,32,49,70,51,48,48,32,49,70,51,70,65,44,32,49,70,52,48,48,32,49,70,54,52,70,44,32,49,70,54,56,48,32,49,70,54,70,70,44,32,49,70,57,48,48,32,49,70,57,70,70,44,32,50,48,48,48,48,32,50,70,70,70,68,44,32,51,48,48,48,48,32,51,70,70,70,68]⟩ : ByteArray)).bind fun t285 => ((bodkinref02_Within.f kj7 t285 a0).bind fun t288 => (if t288 = true then (some 4) else (some 0)))))) = some r := H
         have A13 := Aside0.mk A130
         clear A130
         replace H := Option.bind_eq_some_iff.mp H
         obtain ⟨t284,A140,H⟩ := H
         replace H : (if t284 = true then (some 3) else ((bodkinref02_Table.f kj7 (⟨#[49,49,48,48,32,49,49,53,70,44,32,50,51,49,65,32,50,51,49,66,44,32,50,51,50,57,32,50,51,50,65,44,32,50,51,69,57,32,50,51,69,67,44,32,50,53,70,68,32,50,53,70,69,44,32,50,54,49,52,32,50,54,49,53,44,32,50,54,52,56,32,50,54,53,51,44,32,50,54,65,65,32,50,54,65,66,44,32,50,69,56,48,32,51,48,50,57,44,32,51,48,51,48,32,51,48,51,69,44,32,51,48,52,49,32,51,48,57,56,44,32,51,48,57,66,32,52,68,66,70,44,32,52,69,48,48,32,65,52,67,70,44,32,65,57,54,48,32,65,57,55,70,44,32,65,67,48,48,32,68,55,65,51,44,32,70,57,48,48,32,70,65,70,70,44,32,70,69,51,48,32,70,69,54,70,44,32,70,70,48,49,32,70,70,54,48,44,32,70,70,69,48,32,70,70,69,54,44,32,49,54,70,69,48,32,49,56,65,70,70,44,32,49,66,48,48,48,32,49,66,50,70,70,44,32,49,70,51,48,48,32,49,70,51,70,65,44,32,49,70,52,48,48,32,49,70,54,52,70,44,32,49,70,54,56,48,32,49,70,54,70,70,44,32,49,70,57,48,48,32,49,70,57,70,70,44,32,50,48,48,48,48,32,50,70,70,70,68,44,32,51,48,48,48,48,32,51,70,70,70,68]⟩ : ByteArray)).bind fun t285 => ((bodkinref02_Within.f kj7 t285 a0).bind fun t288 => (if t288 = true then (some 4) else (some 0))))) = some r := H
         have A14 := Aside0.mk A140
         clear A140
         by_cases c15 : t284 = true
         ·subst c15
          have H1 : (some 3) = some r := by rw [if_pos rfl] at H;exact H
          clear H
          have H := H1
          clear H1
          obtain rfl := Option.some.inj H
          go_wp2_with (first | ((with_reducible refine gate_callee (f := 95) rfl ?_);refine goesL_ (some 36) rfl rfl Tryd.func95 (by kernel_rfl) rfl #[.string (⟨#[51,48,48,32,51,54,70,44,32,52,56,51,32,52,56,57,44,32,53,57,49,32,53,66,68,44,32,53,66,70,32,53,66,70,44,32,53,67,49,32,53,67,50,44,32,54,49,48,32,54,49,65,44,32,54,52,66,32,54,53,70,44,32,54,55,48,32,54,55,48,44,32,54,68,54,32,54,68,67,44,32,57,48,48,32,57,48,50,44,32,57,51,67,32,57,51,67,44,32,57,52,68,32,57,52,68,44,32,69,51,49,32,69,51,49,44,32,69,51,52,32,69,51,65,44,32,69,52,55,32,69,52,69,44,32,49,51,53,68,32,49,51,53,70,44,32,49,65,66,48,32,49,65,70,70,44,32,49,68,67,48,32,49,68,70,70,44,32,50,48,48,67,32,50,48,48,68,44,32,50,48,68,48,32,50,48,70,70,44,32,51,48,50,65,32,51,48,50,70,44,32,51,48,57,57,32,51,48,57,65,44,32,70,69,48,48,32,70,69,48,70,44,32,70,69,50,48,32,70,69,50,70,44,32,49,70,51,70,66,32,49,70,51,70,70,44,32,69,48,49,48,48,32,69,48,49,69,70]⟩ : ByteArray)] rfl (by (try simp only [List.map_toArray,List.map_cons,List.map_nil]);first | done | rfl | (simp only [List.length_drop,List.length_take];rfl)) ?_;(with_reducible refine (bodkinref02_Table.calls kj7 (⟨#[51,48,48,32,51,54,70,44,32,52,56,51,32,52,56,57,44,32,53,57,49,32,53,66,68,44,32,53,66,70,32,53,66,70,44,32,53,67,49,32,53,67,50,44,32,54,49,48,32,54,49,65,44,32,54,52,66,32,54,53,70,44,32,54,55,48,32,54,55,48,44,32,54,68,54,32,54,68,67,44,32,57,48,48,32,57,48,50,44,32,57,51,67,32,57,51,67,44,32,57,52,68,32,57,52,68,44,32,69,51,49,32,69,51,49,44,32,69,51,52,32,69,51,65,44,32,69,52,55,32,69,52,69,44,32,49,51,53,68,32,49,51,53,70,44,32,49,65,66,48,32,49,65,70,70,44,32,49,68,67,48,32,49,68,70,70,44,32,50,48,48,67,32,50,48,48,68,44,32,50,48,68,48,32,50,48,70,70,44,32,51,48,50,65,32,51,48,50,70,44,32,51,48,57,57,32,51,48,57,65,44,32,70,69,48,48,32,70,69,48,70,44,32,70,69,50,48,32,70,69,50,70,44,32,49,70,51,70,66,32,49,70,51,70,70,44,32,69,48,49,48,48,32,69,48,49,69,70]⟩ : ByteArray) t281 _ A13.out).mono ?_);rintro e w16 ⟨v282,rfl,ho0,hb⟩;refine ⟨_,rfl,?_⟩;have n0_ := Aside0.mk (Kd.R_lower ho0 (below_size (by repeat (first | (with_reducible first | exact HB.out | apply below_alloc | apply pw_below_drewN | apply below_drew1) | exact HB.out))));have n1_ := Aside0.mk (below_step (by repeat (first | (with_reducible first | exact HB.out | apply below_alloc | apply pw_below_drewN | apply below_drew1) | exact HB.out)) hb);clear HB;have HO283 := n0_;have HB := n1_;clear n0_ n1_;(try clear hb);(try clear hb2);(try clear hk);(try clear hi);(try clear ho0);obtain ⟨Ao17,co17,eo17⟩ := Kd.R_slice HO283.out;subst eo17) | ((with_reducible refine gate_callee (f := 94) rfl ?_);refine goesL_ (some 38) rfl rfl Tryd.func94 (by kernel_rfl) rfl #[.slice Ao17 t281.length co17,.int .i32 a0] rfl (by (try simp only [List.map_toArray,List.map_cons,List.map_nil]);first | done | rfl | (simp only [List.length_drop,List.length_take];rfl)) ?_;(with_reducible refine (bodkinref02_Within.calls kj7 _ _ t281 a0 true _ ?side1 ?side2 A14.out).mono ?_);(case side1 => repeat (first | exact (Kd.R_reads' HO283.out).2.2 | (with_reducible refine Kd.C_alloc ?_ _) | (with_reducible refine Kd.C_drewN ?_ _) | (with_reducible refine Kd.C_drew ?_)));(case side2 => exact (Kd.R_reads' HO283.out).2.1);rintro e w' ⟨rfl,⟨nd,rfl⟩⟩;refine ⟨_,rfl,?_⟩))
          go_ret
          exact ⟨by first | rfl | (simp [errW_none,errW_some] <;> rfl) | (simp [*,errW_none,errW_some] <;> rfl),by repeat (first | (with_reducible first | exact HB.out | apply below_alloc | apply pw_below_drewN | apply below_drew1) | exact HB.out)⟩
         ·replace c15 := Bool.eq_false_iff.mpr c15
          subst c15
          have H1 : ((bodkinref02_Table.f kj7 (⟨#[49,49,48,48,32,49,49,53,70,44,32,50,51,49,65,32,50,51,49,66,44,32,50,51,50,57,32,50,51,50,65,44,32,50,51,69,57,32,50,51,69,67,44,32,50,53,70,68,32,50,53,70,69,44,32,50,54,49,52,32,50,54,49,53,44,32,50,54,52,56,32,50,54,53,51,44,32,50,54,65,65,32,50,54,65,66,44,32,50,69,56,48,32,51,48,50,57,44,32,51,48,51,48,32,51,48,51,69,44,32,51,48,52,49,32,51,48,57,56,44,32,51,48,57,66,32,52,68,66,70,44,32,52,69,48,48,32,65,52,67,70,44,32,65,57,54,48,32,65,57,55,70,44,32,65,67,48,48,32,68,55,65,51,44,32,70,57,48,48,32,70,65,70,70,44,32,70,69,51,48,32,70,69,54,70,44,32,70,70,48,49,32,70,70,54,48,44,32,70,70,69,48,32,70,70,69,54,44,32,49,54,70,69,48,32,49,56,65,70,70,44,32,49,66,48,48,48,32,49,66,50,70,70,44,32,49,70,51,48,48,32,49,70,51,70,65,44,32,49,70,52,48,48,32,49,70,54,52,70,44,32,49,70,54,56,48,32,49,70,54,70,70,44,32,49,70,57,48,48,32,49,70,57,70,70,44,32,50,48,48,48,48,32,50,70,70,70,68,44,32,51,48,48,48,48,32,51,70,70,70,68]⟩ : ByteArray)).bind fun t285 => ((bodkinref02_Within.f kj7 t285 a0).bind fun t288 => (if t288 = true then (some 4) else (some 0)))) = some r := by rw [if_neg (show ¬ (false = true) by decide)] at H;exact H
          clear H
          have H := H1
          clear H1
          replace H := Option.bind_eq_some_iff.mp H
          obtain ⟨t285,A180,H⟩ := H
          replace H : ((bodkinref02_Within.f kj7 t285 a0).bind fun t288 => (if t288 = true then (some 4) else (some 0))) = some r := H
          have A18 := Aside0.mk A180
          clear A180
          replace H := Option.bind_eq_some_iff.mp H
          obtain ⟨t288,A190,H⟩ := H
          replace H : (if t288 = true then (some 4) else (some 0)) = some r := H
          have A19 := Aside0.mk A190
          clear A190
          by_cases c20 : t288 = true
          ·subst c20
           have H1 : (some 4) = some r := by rw [if_pos rfl] at H;exact H
           clear H
           have H := H1
           clear H1
           obtain rfl := Option.some.inj H
           go_wp2_with (first | ((with_reducible refine gate_callee (f := 95) rfl ?_);refine goesL_ (some 36) rfl rfl Tryd.func95 (by kernel_rfl) rfl #[.string (⟨#[51,48,48,32,51,54,70,44,32,52,56,51,32,52,56,57,44,32,53,57,49,32,53,66,68,44,32,53,66,70,32,53,66,70,44,32,53,67,49,32,53,67,50,44,32,54,49,48,32,54,49,65,44,32,54,52,66,32,54,53,70,44,32,54,55,48,32,54,55,48,44,32,54,68,54,32,54,68,67,44,32,57,48,48,32,57,48,50,44,32,57,51,67,32,57,51,67,44,32,57,52,68,32,57,52,68,44,32,69,51,49,32,69,51,49,44,32,69,51,52,32,69,51,65,44,32,69,52,55,32,69,52,69,44,32,49,51,53,68,32,49,51,53,70,44,32,49,65,66,48,32,49,65,70,70,44,32,49,68,67,48,32,49,68,70,70,44,32,50,48,48,67,32,50,48,48,68,44,32,50,48,68,48,32,50,48,70,70,44,32,51,48,50,65,32,51,48,50,70,44,32,51,48,57,57,32,51,48,57,65,44,32,70,69,48,48,32,70,69,48,70,44,32,70,69,50,48,32,70,69,50,70,44,32,49,70,51,70,66,32,49,70,51,70,70,44,32,69,48,49,48,48,32,69,48,49,69,70]⟩ : ByteArray)] rfl (by (try simp only [List.map_toArray,List.map_cons,List.map_nil]);first | done | rfl | (simp only [List.length_drop,List.length_take];rfl)) ?_;(with_reducible refine (bodkinref02_Table.calls kj7 (⟨#[51,48,48,32,51,54,70,44,32,52,56,51,32,52,56,57,44,32,53,57,49,32,53,66,68,44,32,53,66,70,32,53,66,70,44,32,53,67,49,32,53,67,50,44,32,54,49,48,32,54,49,65,44,32,54,52,66,32,54,53,70,44,32,54,55,48,32,54,55,48,44,32,54,68,54,32,54,68,67,44,32,57,48,48,32,57,48,50,44,32,57,51,67,32,57,51,67,44,32,57,52,68,32,57,52,68,44,32,69,51,49,32,69,51,49,44,32,69,51,52,32,69,51,65,44,32,69,52,55,32,69,52,69,44,32,49,51,53,68,32,49,51,53,70,44,32,49,65,66,48,32,49,65,70,70,44,32,49,68,67,48,32,49,68,70,70,44,32,50,48,48,67,32,50,48,48,68,44,32,50,48,68,48,32,50,48,70,70,44,32,51,48,50,65,32,51,48,50,70,44,32,51,48,57,57,32,51,48,57,65,44,32,70,69,48,48,32,70,69,48,70,44,32,70,69,50,48,32,70,69,50,70,44,32,49,70,51,70,66,32,49,70,51,70,70,44,32,69,48,49,48,48,32,69,48,49,69,70]⟩ : ByteArray) t281 _ A13.out).mono ?_);rintro e w21 ⟨v282,rfl,ho0,hb⟩;refine ⟨_,rfl,?_⟩;have n0_ := Aside0.mk (Kd.R_lower ho0 (below_size (by repeat (first | (with_reducible first | exact HB.out | apply below_alloc | apply pw_below_drewN | apply below_drew1) | exact HB.out))));have n1_ := Aside0.mk (below_step (by repeat (first | (with_reducible first | exact HB.out | apply below_alloc | apply pw_below_drewN | apply below_drew1) | exact HB.out)) hb);clear HB;have HO283 := n0_;have HB := n1_;clear n0_ n1_;(try clear hb);(try clear hb2);(try clear hk);(try clear hi);(try clear ho0);obtain ⟨Ao22,co22,eo22⟩ := Kd.R_slice HO283.out;subst eo22) | ((with_reducible refine gate_callee (f := 94) rfl ?_);refine goesL_ (some 38) rfl rfl Tryd.func94 (by kernel_rfl) rfl #[.slice Ao22 t281.length co22,.int .i32 a0] rfl (by (try simp only [List.map_toArray,List.map_cons,List.map_nil]);first | done | rfl | (simp only [List.length_drop,List.length_take];rfl)) ?_;(with_reducible refine (bodkinref02_Within.calls kj7 _ _ t281 a0 false _ ?side1 ?side2 A14.out).mono ?_);(case side1 => repeat (first | exact (Kd.R_reads' HO283.out).2.2 | (with_reducible refine Kd.C_alloc ?_ _) | (with_reducible refine Kd.C_drewN ?_ _) | (with_reducible refine Kd.C_drew ?_)));(case side2 => exact (Kd.R_reads' HO283.out).2.1);rintro e w' ⟨rfl,⟨nd,rfl⟩⟩;refine ⟨_,rfl,?_⟩) | ((with_reducible refine gate_callee (f := 95) rfl ?_);refine goesL_ (some 40) rfl rfl Tryd.func95 (by kernel_rfl) rfl #[.string (⟨#[49,49,48,48,32,49,49,53,70,44,32,50,51,49,65,32,50,51,49,66,44,32,50,51,50,57,32,50,51,50,65,44,32,50,51,69,57,32,50,51,69,67,44,32,50,53,70,68,32,50,53,70,69,44,32,50,54,49,52,32,50,54,49,53,44,32,50,54,52,56,32,50,54,53,51,44,32,50,54,65,65,32,50,54,65,66,44,32,50,69,56,48,32,51,48,50,57,44,32,51,48,51,48,32,51,48,51,69,44,32,51,48,52,49,32,51,48,57,56,44,32,51,48,57,66,32,52,68,66,70,44,32,52,69,48,48,32,65,52,67,70,44,32,65,57,54,48,32,65,57,55,70,44,32,65,67,48,48,32,68,55,65,51,44,32,70,57,48,48,32,70,65,70,70,44,32,70,69,51,48,32,70,69,54,70,44,32,70,70,48,49,32,70,70,54,48,44,32,70,70,69,48,32,70,70,69,54,44,32,49,54,70,69,48,32,49,56,65,70,70,44,32,49,66,48,48,48,32,49,66,50,70,70,44,32,49,70,51,48,48,32,49,70,51,70,65,44,32,49,70,52,48,48,32,49,70,54,52,70,44,32,49,70,54,56,48,32,49,70,54,70,70,44,32,49,70,57,48,48,32,49,70,57,70,70,44,32,50,48,48,48,48,32,50,70,70,70,68,44,32,51,48,48,48,48,32,51,70,70,70,68]⟩ : ByteArray)] rfl (by (try simp only [List.map_toArray,List.map_cons,List.map_nil]);first | done | rfl | (simp only [List.length_drop,List.length_take];rfl)) ?_;(with_reducible refine (bodkinref02_Table.calls kj7 (⟨#[49,49,48,48,32,49,49,53,70,44,32,50,51,49,65,32,50,51,49,66,44,32,50,51,50,57,32,50,51,50,65,44,32,50,51,69,57,32,50,51,69,67,44,32,50,53,70,68,32,50,53,70,69,44,32,50,54,49,52,32,50,54,49,53,44,32,50,54,52,56,32,50,54,53,51,44,32,50,54,65,65,32,50,54,65,66,44,32,50,69,56,48,32,51,48,50,57,44,32,51,48,51,48,32,51,48,51,69,44,32,51,48,52,49,32,51,48,57,56,44,32,51,48,57,66,32,52,68,66,70,44,32,52,69,48,48,32,65,52,67,70,44,32,65,57,54,48,32,65,57,55,70,44,32,65,67,48,48,32,68,55,65,51,44,32,70,57,48,48,32,70,65,70,70,44,32,70,69,51,48,32,70,69,54,70,44,32,70,70,48,49,32,70,70,54,48,44,32,70,70,69,48,32,70,70,69,54,44,32,49,54,70,69,48,32,49,56,65,70,70,44,32,49,66,48,48,48,32,49,66,50,70,70,44,32,49,70,51,48,48,32,49,70,51,70,65,44,32,49,70,52,48,48,32,49,70,54,52,70,44,32,49,70,54,56,48,32,49,70,54,70,70,44,32,49,70,57,48,48,32,49,70,57,70,70,44,32,50,48,48,48,48,32,50,70,70,70,68,44,32,51,48,48,48,48,32,51,70,70,70,68]⟩ : ByteArray) t285 _ A18.out).mono ?_);rintro e w23 ⟨v286,rfl,ho0,hb⟩;refine ⟨_,rfl,?_⟩;have n0_ := Aside0.mk (Kd.R_elder' (by (with_reducible repeat (first | apply Kd.R_alloc | apply Kd.R_drewN | apply Kd.R_drew));exact HO283.out) (Kd.R_base ho0) hb);have n1_ := Aside0.mk (Kd.R_lower (Kd.R_new' ho0 (Kd.R_lt (by (with_reducible repeat (first | apply Kd.R_alloc | apply Kd.R_drewN | apply Kd.R_drew));exact HO283.out))) (below_size (by repeat (first | (with_reducible first | exact HB.out | apply below_alloc | apply pw_below_drewN | apply below_drew1) | exact HB.out))));have n2_ := Aside0.mk (below_step (by repeat (first | (with_reducible first | exact HB.out | apply below_alloc | apply pw_below_drewN | apply below_drew1) | exact HB.out)) hb);clear HO283;clear HB;have HO283 := n0_;have HO287 := n1_;have HB := n2_;clear n0_ n1_ n2_;(try clear hb);(try clear hb2);(try clear hk);(try clear hi);(try clear ho0);obtain ⟨Ao24,co24,eo24⟩ := Kd.R_slice HO287.out;subst eo24) | ((with_reducible refine gate_callee (f := 94) rfl ?_);refine goesL_ (some 42) rfl rfl Tryd.func94 (by kernel_rfl) rfl #[.slice Ao24 t285.length co24,.int .i32 a0] rfl (by (try simp only [List.map_toArray,List.map_cons,List.map_nil]);first | done | rfl | (simp only [List.length_drop,List.length_take];rfl)) ?_;(with_reducible refine (bodkinref02_Within.calls kj7 _ _ t285 a0 true _ ?side1 ?side2 A19.out).mono ?_);(case side1 => repeat (first | exact (Kd.R_reads' HO287.out).2.2 | (with_reducible refine Kd.C_alloc ?_ _) | (with_reducible refine Kd.C_drewN ?_ _) | (with_reducible refine Kd.C_drew ?_)));(case side2 => exact (Kd.R_reads' HO287.out).2.1);rintro e w' ⟨rfl,⟨nd,rfl⟩⟩;refine ⟨_,rfl,?_⟩))
           go_ret
           exact ⟨by first | rfl | (simp [errW_none,errW_some] <;> rfl) | (simp [*,errW_none,errW_some] <;> rfl),by repeat (first | (with_reducible first | exact HB.out | apply below_alloc | apply pw_below_drewN | apply below_drew1) | exact HB.out)⟩
          ·replace c20 := Bool.eq_false_iff.mpr c20
           subst c20
           have H1 : (some 0) = some r := by rw [if_neg (show ¬ (false = true) by decide)] at H;exact H
           clear H
           have H := H1
           clear H1
           obtain rfl := Option.some.inj H
           go_wp2_with (first | ((with_reducible refine gate_callee (f := 95) rfl ?_);refine goesL_ (some 36) rfl rfl Tryd.func95 (by kernel_rfl) rfl #[.string (⟨#[51,48,48,32,51,54,70,44,32,52,56,51,32,52,56,57,44,32,53,57,49,32,53,66,68,44,32,53,66,70,32,53,66,70,44,32,53,67,49,32,53,67,50,44,32,54,49,48,32,54,49,65,44,32,54,52,66,32,54,53,70,44,32,54,55,48,32,54,55,48,44,32,54,68,54,32,54,68,67,44,32,57,48,48,32,57,48,50,44,32,57,51,67,32,57,51,67,44,32,57,52,68,32,57,52,68,44,32,69,51,49,32,69,51,49,44,32,69,51,52,32,69,51,65,44,32,69,52,55,32,69,52,69,44,32,49,51,53,68,32,49,51,53,70,44,32,49,65,66,48,32,49,65,70,70,44,32,49,68,67,48,32,49,68,70,70,44,32,50,48,48,67,32,50,48,48,68,44,32,50,48,68,48,32,50,48,70,70,44,32,51,48,50,65,32,51,48,50,70,44,32,51,48,57,57,32,51,48,57,65,44,32,70,69,48,48,32,70,69,48,70,44,32,70,69,50,48,32,70,69,50,70,44,32,49,70,51,70,66,32,49,70,51,70,70,44,32,69,48,49,48,48,32,69,48,49,69,70]⟩ : ByteArray)] rfl (by (try simp only [List.map_toArray,List.map_cons,List.map_nil]);first | done | rfl | (simp only [List.length_drop,List.length_take];rfl)) ?_;(with_reducible refine (bodkinref02_Table.calls kj7 (⟨#[51,48,48,32,51,54,70,44,32,52,56,51,32,52,56,57,44,32,53,57,49,32,53,66,68,44,32,53,66,70,32,53,66,70,44,32,53,67,49,32,53,67,50,44,32,54,49,48,32,54,49,65,44,32,54,52,66,32,54,53,70,44,32,54,55,48,32,54,55,48,44,32,54,68,54,32,54,68,67,44,32,57,48,48,32,57,48,50,44,32,57,51,67,32,57,51,67,44,32,57,52,68,32,57,52,68,44,32,69,51,49,32,69,51,49,44,32,69,51,52,32,69,51,65,44,32,69,52,55,32,69,52,69,44,32,49,51,53,68,32,49,51,53,70,44,32,49,65,66,48,32,49,65,70,70,44,32,49,68,67,48,32,49,68,70,70,44,32,50,48,48,67,32,50,48,48,68,44,32,50,48,68,48,32,50,48,70,70,44,32,51,48,50,65,32,51,48,50,70,44,32,51,48,57,57,32,51,48,57,65,44,32,70,69,48,48,32,70,69,48,70,44,32,70,69,50,48,32,70,69,50,70,44,32,49,70,51,70,66,32,49,70,51,70,70,44,32,69,48,49,48,48,32,69,48,49,69,70]⟩ : ByteArray) t281 _ A13.out).mono ?_);rintro e w25 ⟨v282,rfl,ho0,hb⟩;refine ⟨_,rfl,?_⟩;have n0_ := Aside0.mk (Kd.R_lower ho0 (below_size (by repeat (first | (with_reducible first | exact HB.out | apply below_alloc | apply pw_below_drewN | apply below_drew1) | exact HB.out))));have n1_ := Aside0.mk (below_step (by repeat (first | (with_reducible first | exact HB.out | apply below_alloc | apply pw_below_drewN | apply below_drew1) | exact HB.out)) hb);clear HB;have HO283 := n0_;have HB := n1_;clear n0_ n1_;(try clear hb);(try clear hb2);(try clear hk);(try clear hi);(try clear ho0);obtain ⟨Ao26,co26,eo26⟩ := Kd.R_slice HO283.out;subst eo26) | ((with_reducible refine gate_callee (f := 94) rfl ?_);refine goesL_ (some 38) rfl rfl Tryd.func94 (by kernel_rfl) rfl #[.slice Ao26 t281.length co26,.int .i32 a0] rfl (by (try simp only [List.map_toArray,List.map_cons,List.map_nil]);first | done | rfl | (simp only [List.length_drop,List.length_take];rfl)) ?_;(with_reducible refine (bodkinref02_Within.calls kj7 _ _ t281 a0 false _ ?side1 ?side2 A14.out).mono ?_);(case side1 => repeat (first | exact (Kd.R_reads' HO283.out).2.2 | (with_reducible refine Kd.C_alloc ?_ _) | (with_reducible refine Kd.C_drewN ?_ _) | (with_reducible refine Kd.C_drew ?_)));(case side2 => exact (Kd.R_reads' HO283.out).2.1);rintro e w' ⟨rfl,⟨nd,rfl⟩⟩;refine ⟨_,rfl,?_⟩) | ((with_reducible refine gate_callee (f := 95) rfl ?_);refine goesL_ (some 40) rfl rfl Tryd.func95 (by kernel_rfl) rfl #[.string (⟨#[49,49,48,48,32,49,49,53,70,44,32,50,51,49,65,32,50,51,49,66,44,32,50,51,50,57,32,50,51,50,65,44,32,50,51,69,57,32,50,51,69,67,44,32,50,53,70,68,32,50,53,70,69,44,32,50,54,49,52,32,50,54,49,53,44,32,50,54,52,56,32,50,54,53,51,44,32,50,54,65,65,32,50,54,65,66,44,32,50,69,56,48,32,51,48,50,57,44,32,51,48,51,48,32,51,48,51,69,44,32,51,48,52,49,32,51,48,57,56,44,32,51,48,57,66,32,52,68,66,70,44,32,52,69,48,48,32,65,52,67,70,44,32,65,57,54,48,32,65,57,55,70,44,32,65,67,48,48,32,68,55,65,51,44,32,70,57,48,48,32,70,65,70,70,44,32,70,69,51,48,32,70,69,54,70,44,32,70,70,48,49,32,70,70,54,48,44,32,70,70,69,48,32,70,70,69,54,44,32,49,54,70,69,48,32,49,56,65,70,70,44,32,49,66,48,48,48,32,49,66,50,70,70,44,32,49,70,51,48,48,32,49,70,51,70,65,44,32,49,70,52,48,48,32,49,70,54,52,70,44,32,49,70,54,56,48,32,49,70,54,70,70,44,32,49,70,57,48,48,32,49,70,57,70,70,44,32,50,48,48,48,48,32,50,70,70,70,68,44,32,51,48,48,48,48,32,51,70,70,70,68]⟩ : ByteArray)] rfl (by (try simp only [List.map_toArray,List.map_cons,List.map_nil]);first | done | rfl | (simp only [List.length_drop,List.length_take];rfl)) ?_;(with_reducible refine (bodkinref02_Table.calls kj7 (⟨#[49,49,48,48,32,49,49,53,70,44,32,50,51,49,65,32,50,51,49,66,44,32,50,51,50,57,32,50,51,50,65,44,32,50,51,69,57,32,50,51,69,67,44,32,50,53,70,68,32,50,53,70,69,44,32,50,54,49,52,32,50,54,49,53,44,32,50,54,52,56,32,50,54,53,51,44,32,50,54,65,65,32,50,54,65,66,44,32,50,69,56,48,32,51,48,50,57,44,32,51,48,51,48,32,51,48,51,69,44,32,51,48,52,49,32,51,48,57,56,44,32,51,48,57,66,32,52,68,66,70,44,32,52,69,48,48,32,65,52,67,70,44,32,65,57,54,48,32,65,57,55,70,44,32,65,67,48,48,32,68,55,65,51,44,32,70,57,48,48,32,70,65,70,70,44,32,70,69,51,48,32,70,69,54,70,44,32,70,70,48,49,32,70,70,54,48,44,32,70,70,69,48,32,70,70,69,54,44,32,49,54,70,69,48,32,49,56,65,70,70,44,32,49,66,48,48,48,32,49,66,50,70,70,44,32,49,70,51,48,48,32,49,70,51,70,65,44,32,49,70,52,48,48,32,49,70,54,52,70,44,32,49,70,54,56,48,32,49,70,54,70,70,44,32,49,70,57,48,48,32,49,70,57,70,70,44,32,50,48,48,48,48,32,50,70,70,70,68,44,32,51,48,48,48,48,32,51,70,70,70,68]⟩ : ByteArray) t285 _ A18.out).mono ?_);rintro e w27 ⟨v286,rfl,ho0,hb⟩;refine ⟨_,rfl,?_⟩;have n0_ := Aside0.mk (Kd.R_elder' (by (with_reducible repeat (first | apply Kd.R_alloc | apply Kd.R_drewN | apply Kd.R_drew));exact HO283.out) (Kd.R_base ho0) hb);have n1_ := Aside0.mk (Kd.R_lower (Kd.R_new' ho0 (Kd.R_lt (by (with_reducible repeat (first | apply Kd.R_alloc | apply Kd.R_drewN | apply Kd.R_drew));exact HO283.out))) (below_size (by repeat (first | (with_reducible first | exact HB.out | apply below_alloc | apply pw_below_drewN | apply below_drew1) | exact HB.out))));have n2_ := Aside0.mk (below_step (by repeat (first | (with_reducible first | exact HB.out | apply below_alloc | apply pw_below_drewN | apply below_drew1) | exact HB.out)) hb);clear HO283;clear HB;have HO283 := n0_;have HO287 := n1_;have HB := n2_;clear n0_ n1_ n2_;(try clear hb);(try clear hb2);(try clear hk);(try clear hi);(try clear ho0);obtain ⟨Ao28,co28,eo28⟩ := Kd.R_slice HO287.out;subst eo28) | ((with_reducible refine gate_callee (f := 94) rfl ?_);refine goesL_ (some 42) rfl rfl Tryd.func94 (by kernel_rfl) rfl #[.slice Ao28 t285.length co28,.int .i32 a0] rfl (by (try simp only [List.map_toArray,List.map_cons,List.map_nil]);first | done | rfl | (simp only [List.length_drop,List.length_take];rfl)) ?_;(with_reducible refine (bodkinref02_Within.calls kj7 _ _ t285 a0 false _ ?side1 ?side2 A19.out).mono ?_);(case side1 => repeat (first | exact (Kd.R_reads' HO287.out).2.2 | (with_reducible refine Kd.C_alloc ?_ _) | (with_reducible refine Kd.C_drewN ?_ _) | (with_reducible refine Kd.C_drew ?_)));(case side2 => exact (Kd.R_reads' HO287.out).2.1);rintro e w' ⟨rfl,⟨nd,rfl⟩⟩;refine ⟨_,rfl,?_⟩))
           go_ret
           exact ⟨by first | rfl | (simp [errW_none,errW_some] <;> rfl) | (simp [*,errW_none,errW_some] <;> rfl),by repeat (first | (with_reducible first | exact HB.out | apply below_alloc | apply pw_below_drewN | apply below_drew1) | exact HB.out)⟩
end Go.Proofs.YtfhnfhgpaoddbaaDoor.U
end
section
namespace Go.Proofs.YtfhnfhgpaoddbaaDoor.U
open Go.RowKit Go.Proofs.YtfhnfhgpaoddbaaDoorW.PrintWords Go.Proofs.YtfhnfhgpaoddbaaDoorW.PrintLast Go.Proofs.YtfhnfhgpaoddbaaDoorW.PrintMore
attribute [local go_sem] max2_int min2_int max_two min_two max_three min_three max_four min_four   -- for this text's walks alone
set_option linter.unusedVariables false
set_option linter.unusedSimpArgs false
attribute [local go_sem high] eqA53
def bodkinref03_joined.j0 : Nat → Bool → Int → Int → Int → Int → Option (Bool)
 | 0,_,_,_,_,_ => none
 | k + 1,x13,x290000,x290001,x291000,x291001 => if x13 = true then (some true) else ((bodkinref02_Class.f k x290000).bind fun t291 => ((bodkinref02_Class.f k x291000).bind fun t292 => (if t292 = 3 then (if t291 = 1 then (some false) else (some (t291 != 2))) else (some false))))
def bodkinref03_joined.f (k : Nat) (a0_0 : Int) (a0_1 : Int) (a1_0 : Int) (a1_1 : Int) : Option (Bool) := if a0_0 = 13 then (bodkinref03_joined.j0 k (a1_0 == 10) a0_0 a0_1 a1_0 a1_1) else (bodkinref03_joined.j0 k false a0_0 a0_1 a1_0 a1_1)
set_option maxHeartbeats 8000000 in
set_option maxRecDepth 100000 in
theorem bodkinref03_joined.calls (k : Nat) (a0_0 : Int) (a0_1 : Int) (a1_0 : Int) (a1_1 : Int) (r : Bool) (w : World) (h : bodkinref03_joined.f k a0_0 a0_1 a1_0 a1_1 = some r) :
  Calls Tryd.prog 80 #[.agg #[.int .i32 a0_0,.int .i64 a0_1],.agg #[.int .i32 a1_0,.int .i64 a1_1]] w fun e w' => e = .returned (.bool r) ∧ Below w.heap.size w w' := by
 have hu30 := Tryd.underlying30
 have HB := Aside0.mk (Below.refl w.heap.size w)
 have H : (if a0_0 = 13 then (bodkinref03_joined.j0 k (a1_0 == 10) a0_0 a0_1 a1_0 a1_1) else (bodkinref03_joined.j0 k false a0_0 a0_1 a1_0 a1_1)) = some r := h
 clear h
 have HC3 := Aside0.mk H
 clear H
 go_enter Tryd.func80,Tryd.ntmps80
 go_upto_region 1 with (first | ((with_reducible refine gate_dst (N := 2) rfl ?_);refine box_event ?hg (N := 2) ?hd (cs := #[.int .i32 a0_0,.int .i64 a0_1]) (t := 30) ?hr ?_;(case hd => rfl);(case hg => rfl);(case hr => first | (go_simp;done) | (go_simp;rfl));intro gb289 hg w4 hbox hb;have n0_ := Aside0.mk (below_step (by repeat (first | (with_reducible first | exact HB.out | apply below_alloc | apply pw_below_drewN | apply below_drew1) | exact HB.out)) hb);have n1_ := Aside0.mk (hbox);have n2_ := Aside0.mk ((by rw [hg];exact (below_size (by repeat (first | (with_reducible first | exact HB.out | apply below_alloc | apply pw_below_drewN | apply below_drew1) | exact HB.out))) : w.heap.size ≤ gb289));have n3_ := Aside0.mk ((by rw [hg];exact (below_size (by repeat (first | (with_reducible first | exact HB.out | apply below_alloc | apply pw_below_drewN | apply below_drew1) | exact HB.out))) : w.heap.size ≤ gb289));clear HB;have HB := n0_;have BK289 := n1_;have GW289 := n2_;have GE289 := n3_;clear n0_ n1_ n2_ n3_;clear hb hbox hg) | ((with_reducible refine gate_dst (N := 3) rfl ?_);refine box_event ?hg (N := 3) ?hd (cs := #[.int .i32 a1_0,.int .i64 a1_1]) (t := 30) ?hr ?_;(case hd => rfl);(case hg => rfl);(case hr => first | (go_simp;done) | (go_simp;rfl));intro gb290 hg w5 hbox hb;have n0_ := Aside0.mk (blk_below (g := gb289) (o := .cells #[.int .i32 a0_0,.int .i64 a0_1] 30 (0,0)) (by (with_reducible repeat (first | refine blk_drewN ?_ _ | refine blk_drew ?_ | refine blk_alloc ?_ _));exact BK289.out) hb);have n1_ := Aside0.mk (below_step (by repeat (first | (with_reducible first | exact HB.out | apply below_alloc | apply pw_below_drewN | apply below_drew1 | refine below_set ?_ GE289.out) | exact HB.out)) hb);have n2_ := Aside0.mk (hbox);have n3_ := Aside0.mk ((by rw [hg];exact (below_size (by repeat (first | (with_reducible first | exact HB.out | apply below_alloc | apply pw_below_drewN | apply below_drew1 | refine below_set ?_ GE289.out) | exact HB.out))) : w.heap.size ≤ gb290));have n4_ := Aside0.mk ((by rw [hg];exact (below_size (by repeat (first | (with_reducible first | exact HB.out | apply below_alloc | apply pw_below_drewN | apply below_drew1 | refine below_set ?_ GE289.out) | exact HB.out))) : w.heap.size ≤ gb290));have n5_ := Aside0.mk ((by rw [hg];exact Nat.ne_of_lt (blk_lt (g := gb289) (o := .cells #[.int .i32 a0_0,.int .i64 a0_1] 30 (0,0)) (by (with_reducible repeat (first | refine blk_drewN ?_ _ | refine blk_drew ?_ | refine blk_alloc ?_ _));exact BK289.out)) : gb289 ≠ gb290));have n6_ := Aside0.mk ((by rw [hg];exact Nat.ne_of_gt (blk_lt (g := gb289) (o := .cells #[.int .i32 a0_0,.int .i64 a0_1] 30 (0,0)) (by (with_reducible repeat (first | refine blk_drewN ?_ _ | refine blk_drew ?_ | refine blk_alloc ?_ _));exact BK289.out)) : gb290 ≠ gb289));clear BK289;clear HB;have BK289 := n0_;have HB := n1_;have BK290 := n2_;have GW290 := n3_;have GE290 := n4_;have NB289_290 := n5_;have NB290_289 := n6_;clear n0_ n1_ n2_ n3_ n4_ n5_ n6_;clear hb hbox hg))
 (try simp only [Act.put,List.setIfInBounds_toArray,List.set_cons_zero,List.set_cons_succ])
 go_cut [13] (fun v13 wc => ∃ (kq : Nat) (x13_2 : Bool),v13 = .bool x13_2 ∧ Aside0 (bodkinref03_joined.j0 kq x13_2 a0_0 a0_1 a1_0 a1_1 = some r) ∧ Aside0 (kq ≤ k) ∧ Aside0 (wc.heap[gb289]? = some (.cells #[.int .i32 a0_0,.int .i64 a0_1] 30 (0,0))) ∧ Aside0 (wc.heap[gb290]? = some (.cells #[.int .i32 a1_0,.int .i64 a1_1] 30 (0,0))) ∧ Aside0 (Below w.heap.size w wc))
 case first =>
  have H := HC3.out
  clear HC3
  by_cases c6 : a0_0 = 13
  ·rw [if_pos c6] at H
   have c6b0 : (a0_0 == 13) = true := beq_iff_eq.mpr c6
   have c6b1 : (a0_0 != 13) = false := bne_eq_false_iff_eq.mpr c6
   clear c6
   (first | rw [c6b0] | (simp only [i64_w,i32_w];rw [c6b0]) | skip)
   have H' := Aside0.mk H
   clear H
   have hnb7 := NB289_290.out
   have hnc7 := NB290_289.out
   have hcz8_0 : w5.cell? ⟨gb289,0,none⟩ = some (.int .i32 a0_0) := (blk_cell BK289.out 0).trans rfl
   have hcz8_1 : w5.cell? ⟨gb289,1,none⟩ = some (.int .i64 a0_1) := (blk_cell BK289.out 1).trans rfl
   have hfz8_0 := blk_frozen BK289.out 0
   have hfz8_1 := blk_frozen BK289.out 1
   have hcz9_0 : w5.cell? ⟨gb290,0,none⟩ = some (.int .i32 a1_0) := (blk_cell BK290.out 0).trans rfl
   have hcz9_1 : w5.cell? ⟨gb290,1,none⟩ = some (.int .i64 a1_1) := (blk_cell BK290.out 1).trans rfl
   have hfz9_0 := blk_frozen BK290.out 0
   have hfz9_1 := blk_frozen BK290.out 1
   go_wp2
   go_meet
   case rel => exact ⟨_,((a1_0 == 10)),(by first | rfl | (simp;done) | (simp [*];done)),H',⟨by first | omega | exact Nat.le_refl _⟩,⟨by (with_reducible repeat (first | refine blk_drewN ?_ _ | refine blk_drew ?_ | refine blk_alloc ?_ _));exact BK289.out⟩,⟨by (with_reducible repeat (first | refine blk_drewN ?_ _ | refine blk_drew ?_ | refine blk_alloc ?_ _));exact BK290.out⟩,⟨by repeat (first | (with_reducible first | exact HB.out | apply below_alloc | apply pw_below_drewN | apply below_drew1 | refine below_set ?_ GE289.out | refine below_set ?_ GE290.out) | exact HB.out)⟩⟩
  ·rw [if_neg c6] at H
   have c6b0 : (a0_0 == 13) = false := beq_eq_false_iff_ne.mpr c6
   have c6b1 : (a0_0 != 13) = true := bne_iff_ne.mpr c6
   (first | rw [c6b0] | (simp only [i64_w,i32_w];rw [c6b0]) | skip)
   have H' := Aside0.mk H
   clear H
   have hnb10 := NB289_290.out
   have hnc10 := NB290_289.out
   have hcz11_0 : w5.cell? ⟨gb289,0,none⟩ = some (.int .i32 a0_0) := (blk_cell BK289.out 0).trans rfl
   have hcz11_1 : w5.cell? ⟨gb289,1,none⟩ = some (.int .i64 a0_1) := (blk_cell BK289.out 1).trans rfl
   have hfz11_0 := blk_frozen BK289.out 0
   have hfz11_1 := blk_frozen BK289.out 1
   go_wp2
   go_meet
   case rel => exact ⟨_,(false),(by first | rfl | (simp;done) | (simp [*];done)),H',⟨by first | omega | exact Nat.le_refl _⟩,⟨by (with_reducible repeat (first | refine blk_drewN ?_ _ | refine blk_drew ?_ | refine blk_alloc ?_ _));exact BK289.out⟩,⟨by (with_reducible repeat (first | refine blk_drewN ?_ _ | refine blk_drew ?_ | refine blk_alloc ?_ _));exact BK290.out⟩,⟨by repeat (first | (with_reducible first | exact HB.out | apply below_alloc | apply pw_below_drewN | apply below_drew1 | refine below_set ?_ GE289.out | refine below_set ?_ GE290.out) | exact HB.out)⟩⟩
 case rest =>
  clear HC3
  try clear c1
  try clear p2
  try clear c6
  try clear c6b0
  try clear c6b1
  try clear c7
  try clear c8
  try clear c10
  try clear hcz11_0
  try clear hcz11_1
  try clear hcz8_0
  try clear hcz8_1
  try clear hcz9_0
  try clear hcz9_1
  try clear hfz11_0
  try clear hfz11_1
  try clear hfz8_0
  try clear hfz8_1
  try clear hfz9_0
  try clear hfz9_1
  obtain ⟨kq,x13_2,rfl,HA,HJ2,BK289,BK290,HB⟩ := hcut
  cases kq with
  | zero => exact absurd HA.out (by simp [bodkinref03_joined.j0])
  | succ kj2 =>
   have H := HA.out
   clear HA
   simp only [bodkinref03_joined.j0] at H
   by_cases c12 : x13_2 = true
   ·subst c12
    have H1 : (some true) = some r := by rw [if_pos rfl] at H;exact H
    clear H
    have H := H1
    clear H1
    obtain rfl := Option.some.inj H
    go_wp2
    go_ret
    exact ⟨by first | rfl | (simp [errW_none,errW_some] <;> rfl) | (simp [*,errW_none,errW_some] <;> rfl),by repeat (first | (with_reducible first | exact HB.out | apply below_alloc | apply pw_below_drewN | apply below_drew1 | refine below_set ?_ GE289.out | refine below_set ?_ GE290.out) | exact HB.out)⟩
   ·replace c12 := Bool.eq_false_iff.mpr c12
    subst c12
    have H1 : ((bodkinref02_Class.f kj2 a0_0).bind fun t291 => ((bodkinref02_Class.f kj2 a1_0).bind fun t292 => (if t292 = 3 then (if t291 = 1 then (some false) else (some (t291 != 2))) else (some false)))) = some r := by rw [if_neg (show ¬ (false = true) by decide)] at H;exact H
    clear H
    have H := H1
    clear H1
    replace H := Option.bind_eq_some_iff.mp H
    obtain ⟨t291,A130,H⟩ := H
    replace H : ((bodkinref02_Class.f kj2 a1_0).bind fun t292 => (if t292 = 3 then (if t291 = 1 then (some false) else (some (t291 != 2))) else (some false))) = some r := H
    have A13 := Aside0.mk A130
    clear A130
    replace H := Option.bind_eq_some_iff.mp H
    obtain ⟨t292,A140,H⟩ := H
    replace H : (if t292 = 3 then (if t291 = 1 then (some false) else (some (t291 != 2))) else (some false)) = some r := H
    have A14 := Aside0.mk A140
    clear A140
    by_cases c15 : t292 = 3
    ·rw [if_pos c15] at H
     have c15b0 : (t292 == 3) = true := beq_iff_eq.mpr c15
     have c15b1 : (t292 != 3) = false := bne_eq_false_iff_eq.mpr c15
     clear c15
     by_cases c16 : t291 = 1
     ·rw [if_pos c16] at H
      have c16b0 : (t291 == 1) = true := beq_iff_eq.mpr c16
      have c16b1 : (t291 != 1) = false := bne_eq_false_iff_eq.mpr c16
      clear c16
      obtain rfl := Option.some.inj H
      have hnb17 := NB289_290.out
      have hnc17 := NB290_289.out
      have hcz18_0 : wc.cell? ⟨gb289,0,none⟩ = some (.int .i32 a0_0) := (blk_cell BK289.out 0).trans rfl
      have hcz18_1 : wc.cell? ⟨gb289,1,none⟩ = some (.int .i64 a0_1) := (blk_cell BK289.out 1).trans rfl
      have hfz18_0 := blk_frozen BK289.out 0
      have hfz18_1 := blk_frozen BK289.out 1
      go_wp2_with (first | ((with_reducible refine gate_callee (f := 81) rfl ?_);refine goesL_ (some 16) rfl rfl Tryd.func81 (by kernel_rfl) rfl #[.int .i32 a0_0] rfl (by (try simp only [List.map_toArray,List.map_cons,List.map_nil]);first | done | rfl | (simp only [List.length_drop,List.length_take];rfl)) ?_;(with_reducible refine (bodkinref02_Class.calls kj2 a0_0 t291 _ A13.out).mono ?_);rintro e w19 ⟨rfl,hb⟩;refine ⟨_,rfl,?_⟩;have n0_ := Aside0.mk (blk_below (g := gb289) (o := .cells #[.int .i32 a0_0,.int .i64 a0_1] 30 (0,0)) (by (with_reducible repeat (first | refine blk_drewN ?_ _ | refine blk_drew ?_ | refine blk_alloc ?_ _));exact BK289.out) hb);have n1_ := Aside0.mk (blk_below (g := gb290) (o := .cells #[.int .i32 a1_0,.int .i64 a1_1] 30 (0,0)) (by (with_reducible repeat (first | refine blk_drewN ?_ _ | refine blk_drew ?_ | refine blk_alloc ?_ _));exact BK290.out) hb);have n2_ := Aside0.mk (below_step (by repeat (first | (with_reducible first | exact HB.out | apply below_alloc | apply pw_below_drewN | apply below_drew1 | refine below_set ?_ GE289.out | refine below_set ?_ GE290.out) | exact HB.out)) hb);clear BK289;clear BK290;clear HB;have BK289 := n0_;have BK290 := n1_;have HB := n2_;clear n0_ n1_ n2_;(try clear hb);(try clear hb2);(try clear hk);(try clear hi);have hcz20_0 : w19.cell? ⟨gb290,0,none⟩ = some (.int .i32 a1_0) := (blk_cell BK290.out 0).trans rfl;have hcz20_1 : w19.cell? ⟨gb290,1,none⟩ = some (.int .i64 a1_1) := (blk_cell BK290.out 1).trans rfl;have hfz20_0 := blk_frozen BK290.out 0;have hfz20_1 := blk_frozen BK290.out 1) | ((with_reducible refine gate_callee (f := 81) rfl ?_);refine goesL_ (some 19) rfl rfl Tryd.func81 (by kernel_rfl) rfl #[.int .i32 a1_0] rfl (by (try simp only [List.map_toArray,List.map_cons,List.map_nil]);first | done | rfl | (simp only [List.length_drop,List.length_take];rfl)) ?_;(with_reducible refine (bodkinref02_Class.calls kj2 a1_0 t292 _ A14.out).mono ?_);rintro e w21 ⟨rfl,hb⟩;refine ⟨_,rfl,?_⟩;have n0_ := Aside0.mk (blk_below (g := gb289) (o := .cells #[.int .i32 a0_0,.int .i64 a0_1] 30 (0,0)) (by (with_reducible repeat (first | refine blk_drewN ?_ _ | refine blk_drew ?_ | refine blk_alloc ?_ _));exact BK289.out) hb);have n1_ := Aside0.mk (blk_below (g := gb290) (o := .cells #[.int .i32 a1_0,.int .i64 a1_1] 30 (0,0)) (by (with_reducible repeat (first | refine blk_drewN ?_ _ | refine blk_drew ?_ | refine blk_alloc ?_ _));exact BK290.out) hb);have n2_ := Aside0.mk (below_step (by repeat (first | (with_reducible first | exact HB.out | apply below_alloc | apply pw_below_drewN | apply below_drew1 | refine below_set ?_ GE289.out | refine below_set ?_ GE290.out) | exact HB.out)) hb);clear BK289;clear BK290;clear HB;have BK289 := n0_;have BK290 := n1_;have HB := n2_;clear n0_ n1_ n2_;(try clear hb);(try clear hb2);(try clear hk);(try clear hi)))
      go_ret
      exact ⟨by first | rfl | (simp [errW_none,errW_some] <;> rfl) | (simp [*,errW_none,errW_some] <;> rfl),by repeat (first | (with_reducible first | exact HB.out | apply below_alloc | apply pw_below_drewN | apply below_drew1 | refine below_set ?_ GE289.out | refine below_set ?_ GE290.out) | exact HB.out)⟩
     ·rw [if_neg c16] at H
      have c16b0 : (t291 == 1) = false := beq_eq_false_iff_ne.mpr c16
      have c16b1 : (t291 != 1) = true := bne_iff_ne.mpr c16
      obtain rfl := Option.some.inj H
      have hnb22 := NB289_290.out
      have hnc22 := NB290_289.out
      have hcz23_0 : wc.cell? ⟨gb289,0,none⟩ = some (.int .i32 a0_0) := (blk_cell BK289.out 0).trans rfl
      have hcz23_1 : wc.cell? ⟨gb289,1,none⟩ = some (.int .i64 a0_1) := (blk_cell BK289.out 1).trans rfl
      have hfz23_0 := blk_frozen BK289.out 0
      have hfz23_1 := blk_frozen BK289.out 1
      go_wp2_with (first | ((with_reducible refine gate_callee (f := 81) rfl ?_);refine goesL_ (some 16) rfl rfl Tryd.func81 (by kernel_rfl) rfl #[.int .i32 a0_0] rfl (by (try simp only [List.map_toArray,List.map_cons,List.map_nil]);first | done | rfl | (simp only [List.length_drop,List.length_take];rfl)) ?_;(with_reducible refine (bodkinref02_Class.calls kj2 a0_0 t291 _ A13.out).mono ?_);rintro e w24 ⟨rfl,hb⟩;refine ⟨_,rfl,?_⟩;have n0_ := Aside0.mk (blk_below (g := gb289) (o := .cells #[.int .i32 a0_0,.int .i64 a0_1] 30 (0,0)) (by (with_reducible repeat (first | refine blk_drewN ?_ _ | refine blk_drew ?_ | refine blk_alloc ?_ _));exact BK289.out) hb);have n1_ := Aside0.mk (blk_below (g := gb290) (o := .cells #[.int .i32 a1_0,.int .i64 a1_1] 30 (0,0)) (by (with_reducible repeat (first | refine blk_drewN ?_ _ | refine blk_drew ?_ | refine blk_alloc ?_ _));exact BK290.out) hb);have n2_ := Aside0.mk (below_step (by repeat (first | (with_reducible first | exact HB.out | apply below_alloc | apply pw_below_drewN | apply below_drew1 | refine below_set ?_ GE289.out | refine below_set ?_ GE290.out) | exact HB.out)) hb);clear BK289;clear BK290;clear HB;have BK289 := n0_;have BK290 := n1_;have HB := n2_;clear n0_ n1_ n2_;(try clear hb);(try clear hb2);(try clear hk);(try clear hi);have hcz25_0 : w24.cell? ⟨gb290,0,none⟩ = some (.int .i32 a1_0) := (blk_cell BK290.out 0).trans rfl;have hcz25_1 : w24.cell? ⟨gb290,1,none⟩ = some (.int .i64 a1_1) := (blk_cell BK290.out 1).trans rfl;have hfz25_0 := blk_frozen BK290.out 0;have hfz25_1 := blk_frozen BK290.out 1) | ((with_reducible refine gate_callee (f := 81) rfl ?_);refine goesL_ (some 19) rfl rfl Tryd.func81 (by kernel_rfl) rfl #[.int .i32 a1_0] rfl (by (try simp only [List.map_toArray,List.map_cons,List.map_nil]);first | done | rfl | (simp only [List.length_drop,List.length_take];rfl)) ?_;(with_reducible refine (bodkinref02_Class.calls kj2 a1_0 t292 _ A14.out).mono ?_);rintro e w26 ⟨rfl,hb⟩;refine ⟨_,rfl,?_⟩;have n0_ := Aside0.mk (blk_below (g := gb289) (o := .cells #[.int .i32 a0_0,.int .i64 a0_1] 30 (0,0)) (by (with_reducible repeat (first | refine blk_drewN ?_ _ | refine blk_drew ?_ | refine blk_alloc ?_ _));exact BK289.out) hb);have n1_ := Aside0.mk (blk_below (g := gb290) (o := .cells #[.int .i32 a1_0,.int .i64 a1_1] 30 (0,0)) (by (with_reducible repeat (first | refine blk_drewN ?_ _ | refine blk_drew ?_ | refine blk_alloc ?_ _));exact BK290.out) hb);have n2_ := Aside0.mk (below_step (by repeat (first | (with_reducible first | exact HB.out | apply below_alloc | apply pw_below_drewN | apply below_drew1 | refine below_set ?_ GE289.out | refine below_set ?_ GE290.out) | exact HB.out)) hb);clear BK289;clear BK290;clear HB;have BK289 := n0_;have BK290 := n1_;have HB := n2_;clear n0_ n1_ n2_;(try clear hb);(try clear hb2);(try clear hk);(try clear hi)))
      go_ret
      exact ⟨by first | rfl | (simp [errW_none,errW_some] <;> rfl) | (simp [*,errW_none,errW_some] <;> rfl),by repeat (first | (with_reducible first | exact HB.out | apply below_alloc | apply pw_below_drewN | apply below_drew1 | refine below_set ?_ GE289.out | refine below_set ?_ GE290.out) | exact HB.out)⟩
    ·rw [if_neg c15] at H
     have c15b0 : (t292 == 3) = false := beq_eq_false_iff_ne.mpr c15
     have c15b1 : (t292 != 3) = true := bne_iff_ne.mpr c15
     obtain rfl := Option.some.inj H
     have hnb27 := NB289_290.out
     have hnc27 := NB290_289.out
     have hcz28_0 : wc.cell? ⟨gb289,0,none⟩ = some (.int .i32 a0_0) := (blk_cell BK289.out 0).trans rfl
     have hcz28_1 : wc.cell? ⟨gb289,1,none⟩ = some (.int .i64 a0_1) := (blk_cell BK289.out 1).trans rfl
     have hfz28_0 := blk_frozen BK289.out 0
     have hfz28_1 := blk_frozen BK289.out 1
     go_wp2_with (first | ((with_reducible refine gate_callee (f := 81) rfl ?_);refine goesL_ (some 16) rfl rfl Tryd.func81 (by kernel_rfl) rfl #[.int .i32 a0_0] rfl (by (try simp only [List.map_toArray,List.map_cons,List.map_nil]);first | done | rfl | (simp only [List.length_drop,List.length_take];rfl)) ?_;(with_reducible refine (bodkinref02_Class.calls kj2 a0_0 t291 _ A13.out).mono ?_);rintro e w29 ⟨rfl,hb⟩;refine ⟨_,rfl,?_⟩;have n0_ := Aside0.mk (blk_below (g := gb289) (o := .cells #[.int .i32 a0_0,.int .i64 a0_1] 30 (0,0)) (by (with_reducible repeat (first | refine blk_drewN ?_ _ | refine blk_drew ?_ | refine blk_alloc ?_ _));exact BK289.out) hb);have n1_ := Aside0.mk (blk_below (g := gb290) (o := .cells #[.int .i32 a1_0,.int .i64 a1_1] 30 (0,0)) (by (with_reducible repeat (first | refine blk_drewN ?_ _ | refine blk_drew ?_ | refine blk_alloc ?_ _));exact BK290.out) hb);have n2_ := Aside0.mk (below_step (by repeat (first | (with_reducible first | exact HB.out | apply below_alloc | apply pw_below_drewN | apply below_drew1 | refine below_set ?_ GE289.out | refine below_set ?_ GE290.out) | exact HB.out)) hb);clear BK289;clear BK290;clear HB;have BK289 := n0_;have BK290 := n1_;have HB := n2_;clear n0_ n1_ n2_;(try clear hb);(try clear hb2);(try clear hk);(try clear hi);have hcz30_0 : w29.cell? ⟨gb290,0,none⟩ = some (.int .i32 a1_0) := (blk_cell BK290.out 0).trans rfl;have hcz30_1 : w29.cell? ⟨gb290,1,none⟩ = some (.int .i64 a1_1) := (blk_cell BK290.out 1).trans rfl;have hfz30_0 := blk_frozen BK290.out 0;have hfz30_1 := blk_frozen BK290.out 1) | ((with_reducible refine gate_callee (f := 81) rfl ?_);refine goesL_ (some 19) rfl rfl Tryd.func81 (by kernel_rfl) rfl #[.int .i32 a1_0] rfl (by (try simp only [List.map_toArray,List.map_cons,List.map_nil]);first | done | rfl | (simp only [List.length_drop,List.length_take];rfl)) ?_;(with_reducible refine (bodkinref02_Class.calls kj2 a1_0 t292 _ A14.out).mono ?_);rintro e w31 ⟨rfl,hb⟩;refine ⟨_,rfl,?_⟩;have n0_ := Aside0.mk (blk_below (g := gb289) (o := .cells #[.int .i32 a0_0,.int .i64 a0_1] 30 (0,0)) (by (with_reducible repeat (first | refine blk_drewN ?_ _ | refine blk_drew ?_ | refine blk_alloc ?_ _));exact BK289.out) hb);have n1_ := Aside0.mk (blk_below (g := gb290) (o := .cells #[.int .i32 a1_0,.int .i64 a1_1] 30 (0,0)) (by (with_reducible repeat (first | refine blk_drewN ?_ _ | refine blk_drew ?_ | refine blk_alloc ?_ _));exact BK290.out) hb);have n2_ := Aside0.mk (below_step (by repeat (first | (with_reducible first | exact HB.out | apply below_alloc | apply pw_below_drewN | apply below_drew1 | refine below_set ?_ GE289.out | refine below_set ?_ GE290.out) | exact HB.out)) hb);clear BK289;clear BK290;clear HB;have BK289 := n0_;have BK290 := n1_;have HB := n2_;clear n0_ n1_ n2_;(try clear hb);(try clear hb2);(try clear hk);(try clear hi)))
     go_ret
     exact ⟨by first | rfl | (simp [errW_none,errW_some] <;> rfl) | (simp [*,errW_none,errW_some] <;> rfl),by repeat (first | (with_reducible first | exact HB.out | apply below_alloc | apply pw_below_drewN | apply below_drew1 | refine below_set ?_ GE289.out | refine below_set ?_ GE290.out) | exact HB.out)⟩
def bodkinref02_Cells.f (k : Nat) (a0 : Int) : Option (Int) := (bodkinref02_Class.f k a0).bind fun t293 => (if t293 = 1 then (some 0) else (if t293 = 4 then (some 2) else (if t293 = 2 then (if a0 ≤ 127 then (some 2) else (some 1)) else (some 1))))
set_option maxHeartbeats 8000000 in
set_option maxRecDepth 100000 in
theorem bodkinref02_Cells.calls (k : Nat) (a0 : Int) (r : Int) (w : World) (h : bodkinref02_Cells.f k a0 = some r) :
  Calls Tryd.prog 82 #[.int .i32 a0] w fun e w' => e = .returned (.int .i64 r) ∧ Below w.heap.size w w' := by
 have HB := Aside0.mk (Below.refl w.heap.size w)
 have H : ((bodkinref02_Class.f k a0).bind fun t293 => (if t293 = 1 then (some 0) else (if t293 = 4 then (some 2) else (if t293 = 2 then (if a0 ≤ 127 then (some 2) else (some 1)) else (some 1))))) = some r := h
 clear h
 replace H := Option.bind_eq_some_iff.mp H
 obtain ⟨t293,A20,H⟩ := H
 replace H : (if t293 = 1 then (some 0) else (if t293 = 4 then (some 2) else (if t293 = 2 then (if a0 ≤ 127 then (some 2) else (some 1)) else (some 1)))) = some r := H
 have A2 := Aside0.mk A20
 clear A20
 by_cases c3 : t293 = 1
 ·rw [if_pos c3] at H
  have c3b0 : (t293 == 1) = true := beq_iff_eq.mpr c3
  have c3b1 : (t293 != 1) = false := bne_eq_false_iff_eq.mpr c3
  clear c3
  obtain rfl := Option.some.inj H
  go_enter Tryd.func82,Tryd.ntmps82
  go_wp2_with (first | ((with_reducible refine gate_callee (f := 81) rfl ?_);refine goesL_ (some 5) rfl rfl Tryd.func81 (by kernel_rfl) rfl #[.int .i32 a0] rfl (by (try simp only [List.map_toArray,List.map_cons,List.map_nil]);first | done | rfl | (simp only [List.length_drop,List.length_take];rfl)) ?_;(with_reducible refine (bodkinref02_Class.calls k a0 t293 _ A2.out).mono ?_);rintro e w4 ⟨rfl,hb⟩;refine ⟨_,rfl,?_⟩;have n0_ := Aside0.mk (below_step (by repeat (first | (with_reducible first | exact HB.out | apply below_alloc | apply pw_below_drewN | apply below_drew1) | exact HB.out)) hb);clear HB;have HB := n0_;clear n0_;(try clear hb);(try clear hb2);(try clear hk);(try clear hi)))
  go_ret
  exact ⟨by first | rfl | (simp [errW_none,errW_some] <;> rfl) | (simp [*,errW_none,errW_some] <;> rfl),by repeat (first | (with_reducible first | exact HB.out | apply below_alloc | apply pw_below_drewN | apply below_drew1) | exact HB.out)⟩
 ·rw [if_neg c3] at H
  have c3b0 : (t293 == 1) = false := beq_eq_false_iff_ne.mpr c3
  have c3b1 : (t293 != 1) = true := bne_iff_ne.mpr c3
  by_cases c5 : t293 = 4
  ·rw [if_pos c5] at H
   have c5b0 : (t293 == 4) = true := beq_iff_eq.mpr c5
   have c5b1 : (t293 != 4) = false := bne_eq_false_iff_eq.mpr c5
   clear c5
   obtain rfl := Option.some.inj H
   go_enter Tryd.func82,Tryd.ntmps82
   go_wp2_with (first | ((with_reducible refine gate_callee (f := 81) rfl ?_);refine goesL_ (some 5) rfl rfl Tryd.func81 (by kernel_rfl) rfl #[.int .i32 a0] rfl (by (try simp only [List.map_toArray,List.map_cons,List.map_nil]);first | done | rfl | (simp only [List.length_drop,List.length_take];rfl)) ?_;(with_reducible refine (bodkinref02_Class.calls k a0 t293 _ A2.out).mono ?_);rintro e w6 ⟨rfl,hb⟩;refine ⟨_,rfl,?_⟩;have n0_ := Aside0.mk (below_step (by repeat (first | (with_reducible first | exact HB.out | apply below_alloc | apply pw_below_drewN | apply below_drew1) | exact HB.out)) hb);clear HB;have HB := n0_;clear n0_;(try clear hb);(try clear hb2);(try clear hk);(try clear hi)))
   go_ret
   exact ⟨by first | rfl | (simp [errW_none,errW_some] <;> rfl) | (simp [*,errW_none,errW_some] <;> rfl),by repeat (first | (with_reducible first | exact HB.out | apply below_alloc | apply pw_below_drewN | apply below_drew1) | exact HB.out)⟩
  ·rw [if_neg c5] at H
   have c5b0 : (t293 == 4) = false := beq_eq_false_iff_ne.mpr c5
   have c5b1 : (t293 != 4) = true := bne_iff_ne.mpr c5
   by_cases c7 : t293 = 2
   ·rw [if_pos c7] at H
    have c7b0 : (t293 == 2) = true := beq_iff_eq.mpr c7
    have c7b1 : (t293 != 2) = false := bne_eq_false_iff_eq.mpr c7
    clear c7
    by_cases c8 : a0 ≤ 127
    ·rw [if_pos c8] at H
     have c8b0 : decide (a0 ≤ 127) = true := decide_eq_true c8
     clear c8
     obtain rfl := Option.some.inj H
     go_enter Tryd.func82,Tryd.ntmps82
     go_wp2_with (first | ((with_reducible refine gate_callee (f := 81) rfl ?_);refine goesL_ (some 5) rfl rfl Tryd.func81 (by kernel_rfl) rfl #[.int .i32 a0] rfl (by (try simp only [List.map_toArray,List.map_cons,List.map_nil]);first | done | rfl | (simp only [List.length_drop,List.length_take];rfl)) ?_;(with_reducible refine (bodkinref02_Class.calls k a0 t293 _ A2.out).mono ?_);rintro e w9 ⟨rfl,hb⟩;refine ⟨_,rfl,?_⟩;have n0_ := Aside0.mk (below_step (by repeat (first | (with_reducible first | exact HB.out | apply below_alloc | apply pw_below_drewN | apply below_drew1) | exact HB.out)) hb);clear HB;have HB := n0_;clear n0_;(try clear hb);(try clear hb2);(try clear hk);(try clear hi)))
     go_ret
     exact ⟨by first | rfl | (simp [errW_none,errW_some] <;> rfl) | (simp [*,errW_none,errW_some] <;> rfl),by repeat (first | (with_reducible first | exact HB.out | apply below_alloc | apply pw_below_drewN | apply below_drew1) | exact HB.out)⟩
    ·rw [if_neg c8] at H
     have c8b0 : decide (a0 ≤ 127) = false := decide_eq_false c8
     clear c8
     obtain rfl := Option.some.inj H
     go_enter Tryd.func82,Tryd.ntmps82
     go_wp2_with (first | ((with_reducible refine gate_callee (f := 81) rfl ?_);refine goesL_ (some 5) rfl rfl Tryd.func81 (by kernel_rfl) rfl #[.int .i32 a0] rfl (by (try simp only [List.map_toArray,List.map_cons,List.map_nil]);first | done | rfl | (simp only [List.length_drop,List.length_take];rfl)) ?_;(with_reducible refine (bodkinref02_Class.calls k a0 t293 _ A2.out).mono ?_);rintro e w10 ⟨rfl,hb⟩;refine ⟨_,rfl,?_⟩;have n0_ := Aside0.mk (below_step (by repeat (first | (with_reducible first | exact HB.out | apply below_alloc | apply pw_below_drewN | apply below_drew1) | exact HB.out)) hb);clear HB;have HB := n0_;clear n0_;(try clear hb);(try clear hb2);(try clear hk);(try clear hi)))
     go_ret
     exact ⟨by first | rfl | (simp [errW_none,errW_some] <;> rfl) | (simp [*,errW_none,errW_some] <;> rfl),by repeat (first | (with_reducible first | exact HB.out | apply below_alloc | apply pw_below_drewN | apply below_drew1) | exact HB.out)⟩
   ·rw [if_neg c7] at H
    have c7b0 : (t293 == 2) = false := beq_eq_false_iff_ne.mpr c7
    have c7b1 : (t293 != 2) = true := bne_iff_ne.mpr c7
    obtain rfl := Option.some.inj H
    go_enter Tryd.func82,Tryd.ntmps82
    go_wp2_with (first | ((with_reducible refine gate_callee (f := 81) rfl ?_);refine goesL_ (some 5) rfl rfl Tryd.func81 (by kernel_rfl) rfl #[.int .i32 a0] rfl (by (try simp only [List.map_toArray,List.map_cons,List.map_nil]);first | done | rfl | (simp only [List.length_drop,List.length_take];rfl)) ?_;(with_reducible refine (bodkinref02_Class.calls k a0 t293 _ A2.out).mono ?_);rintro e w11 ⟨rfl,hb⟩;refine ⟨_,rfl,?_⟩;have n0_ := Aside0.mk (below_step (by repeat (first | (with_reducible first | exact HB.out | apply below_alloc | apply pw_below_drewN | apply below_drew1) | exact HB.out)) hb);clear HB;have HB := n0_;clear n0_;(try clear hb);(try clear hb2);(try clear hk);(try clear hi)))
    go_ret
    exact ⟨by first | rfl | (simp [errW_none,errW_some] <;> rfl) | (simp [*,errW_none,errW_some] <;> rfl),by repeat (first | (with_reducible first | exact HB.out | apply below_alloc | apply pw_below_drewN | apply below_drew1) | exact HB.out)⟩
def stringslite_HasPrefix.f (a0 : ByteArray) (a1 : ByteArray) : Option (Bool) := if (a0.size : Int) ≥ (a1.size : Int) then (if 0 ≤ (a1.size : Int) then (if (a1.size : Int) ≤ (a0.size : Int) then (some ((a0.extract 0 ((a1.size : Int) : Int).toNat).toList == a1.toList)) else (none)) else (none)) else (some false)
set_option maxHeartbeats 8000000 in
set_option maxRecDepth 100000 in
theorem stringslite_HasPrefix.calls (a0 : ByteArray) (a1 : ByteArray) (r : Bool) (w : World) (h : stringslite_HasPrefix.f a0 a1 = some r) :
  Calls Tryd.prog 105 #[.string a0,.string a1] w fun e w' => e = .returned (.bool r) ∧ Drawn0 w w' := by
 have H : (if (a0.size : Int) ≥ (a1.size : Int) then (if 0 ≤ (a1.size : Int) then (if (a1.size : Int) ≤ (a0.size : Int) then (some ((a0.extract 0 ((a1.size : Int) : Int).toNat).toList == a1.toList)) else (none)) else (none)) else (some false)) = some r := h
 clear h
 by_cases c3 : (a0.size : Int) ≥ (a1.size : Int)
 ·rw [if_pos c3] at H
  have c3b0 : decide ((a1.size : Int) ≤ (a0.size : Int)) = true := decide_eq_true c3
  have c3b1 : decide (a1.size ≤ a0.size) = true := decide_eq_true (Int.ofNat_le.mp c3)
  clear c3
  by_cases c4 : 0 ≤ (a1.size : Int)
  ·rw [if_pos c4] at H
   have c4b0 := eq_true c4
   have c4b1 : decide (0 ≤ (a1.size : Int)) = true := decide_eq_true c4
   clear c4
   by_cases c5 : (a1.size : Int) ≤ (a0.size : Int)
   ·rw [if_pos c5] at H
    have c5b0 := eq_true c5
    have c5b1 : decide ((a1.size : Int) ≤ (a0.size : Int)) = true := decide_eq_true c5
    clear c5
    obtain rfl := Option.some.inj H
    go_enter Tryd.func105,Tryd.ntmps105
    go_wp2
    go_ret
    exact ⟨by first | rfl | (simp;done) | (simp [*];done),by repeat (first | exact Drawn0.refl _ | apply Drawn0.step)⟩
   ·rw [if_neg c5] at H
    exact absurd H (by simp)
  ·rw [if_neg c4] at H
   exact absurd H (by simp)
 ·rw [if_neg c3] at H
  have c3b0 : decide ((a1.size : Int) ≤ (a0.size : Int)) = false := decide_eq_false c3
  have c3b1 : decide (a1.size ≤ a0.size) = false := decide_eq_false (fun h => c3 (Int.ofNat_le.mpr h))
  clear c3
  obtain rfl := Option.some.inj H
  go_enter Tryd.func105,Tryd.ntmps105
  go_wp2
  go_ret
  exact ⟨by first | rfl | (simp;done) | (simp [*];done),by repeat (first | exact Drawn0.refl _ | apply Drawn0.step)⟩
def strings_HasPrefix.f (a0 : ByteArray) (a1 : ByteArray) : Option (Bool) := (stringslite_HasPrefix.f a0 a1).bind fun t469 => (some t469)
set_option maxHeartbeats 8000000 in
set_option maxRecDepth 100000 in
theorem strings_HasPrefix.calls (a0 : ByteArray) (a1 : ByteArray) (r : Bool) (w : World) (h : strings_HasPrefix.f a0 a1 = some r) :
  Calls Tryd.prog 98 #[.string a0,.string a1] w fun e w' => e = .returned (.bool r) ∧ Drawn0 w w' := by
 have H : ((stringslite_HasPrefix.f a0 a1).bind fun t469 => (some t469)) = some r := h
 clear h
 replace H := Option.bind_eq_some_iff.mp H
 obtain ⟨t469,A30,H⟩ := H
 replace H : (some t469) = some r := H
 have A3 := Aside0.mk A30
 clear A30
 obtain rfl := Option.some.inj H
 go_enter Tryd.func98,Tryd.ntmps98
 go_wp2_with (first | ((with_reducible refine gate_callee (f := 105) rfl ?_);refine goesL_ (some 7) rfl rfl Tryd.func105 (by kernel_rfl) rfl #[.string a0,.string a1] rfl (by (try simp only [List.map_toArray,List.map_cons,List.map_nil]);first | done | rfl | (simp only [List.length_drop,List.length_take];rfl)) ?_;(with_reducible refine (stringslite_HasPrefix.calls a0 a1 t469 _ A3.out).mono ?_);rintro e w' ⟨rfl,⟨nd,rfl⟩⟩;refine ⟨_,rfl,?_⟩))
 go_ret
 exact ⟨by first | rfl | (simp;done) | (simp [*];done),by repeat (first | exact Drawn0.refl _ | apply Drawn0.step)⟩
end Go.Proofs.YtfhnfhgpaoddbaaDoor.U
end
