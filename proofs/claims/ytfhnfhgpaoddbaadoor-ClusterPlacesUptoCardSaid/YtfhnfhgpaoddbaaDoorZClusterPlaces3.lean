/- What the law ClusterPlaces reaches of this seat's own texts, merged; what nothing uses is left out. -/
import Derived.Test.YtfhnfhgpaoddbaaDoorProg
import Derived.Below
import Derived.Deep.Draws
import Derived.Deep.AppendLies
import Derived.Maps.AppendAt
import Derived.OwnWalk
import Derived.Laws.BytesArg
import Derived.Laws.MakeOwn
import Derived.Laws.OwnMore
import Derived.Deep.OwnRows
import Derived.Tactics
import Derived.Lib.ConvBytes
import Derived.Laws.Slices
import Derived.WalkKit
import Derived.KernelRfl
import Derived.RowKit3
import Derived.Deep.LoopGhost
import Derived.Deep.QuietTactic
import Derived.BigQuiet
import Derived.WideLaws
import Derived.Deep.DeepCutAuto
import Derived.Deep.CutBlock
import Derived.Deep.RegionHeld3
import Derived.Laws.Rows
import Derived.Lib.AppendStr
import Derived.ArgAppend
import Derived.Laws.IdiomCopy
import Derived.OrdersHeld
import Derived.Laws.BitsLemmas
import Derived.RowKit
import Derived.Shelf.Strings.Builder1
import Derived.Shelf.Small.Utf8
import Derived.Shelf.Strings.BuilderF
import Derived.Shelf.Strings.BuilderK
import Derived.Shelf.Utf8.AppendRunePlain
import Derived.Shelf.Utf8.RuneCount
import Derived.Shelf.Strings.Prefix
import Derived.Shelf.Unicode.Decode
import Derived.Shelf.Strings.RuneCount
import Derived.Shelf.Unicode.DecodeSlow
import Derived.Shelf.Unicode.DecodeAny
import Derived.Shelf.Strings.BuilderCap
import Derived.Lib.LaidU8
import Derived.RangeFuncNested
import Derived.RangeFuncBound
import Derived.RangeFuncCalls
import Derived.RangeFuncLeaves
import Derived.Lib.DecodeN
import Derived.Lib.MapLaws
import Derived.Laws.DeepStrings4
import Derived.Shelf.Unicode.DecodeLastEight
import Derived.Shelf.Abstract
import Derived.Shelf.RegionOpen
import Derived.OwnWalkIn
import Derived.TacticsInMore
import Derived.LoopNIn
import Derived.LoopIn
import Derived.Lib.Hide
import Derived.Sort.BigQuietIn
import Derived.Sort.CutIn
import Derived.Lib.Builder
import Derived.Lib.FrozenHead
import Derived.Test.YtfhnfhgpaoddbaaDoorRows
import Derived.ProofKit
import Derived.Deep.DeepHandedRow
import Derived.LaidMore
import Derived.Lay
import Derived.Deep.SlicePairs
import Derived.Test.YtfhnfhgpaoddbaaDoorWWords
import Derived.Test.YtfhnfhgpaoddbaaDoorWLast
import Derived.Test.YtfhnfhgpaoddbaaDoorWTab
import Derived.Test.YtfhnfhgpaoddbaaDoorWQPut
import Derived.Test.YtfhnfhgpaoddbaaDoorWApart
import Derived.Test.YtfhnfhgpaoddbaaDoorWArr
import Derived.Test.YtfhnfhgpaoddbaaDoorWZeros
import Derived.Test.YtfhnfhgpaoddbaaDoorWFoot
import Derived.Test.YtfhnfhgpaoddbaaDoorWKept
import Derived.Test.YtfhnfhgpaoddbaaDoorWShare
import Derived.Test.YtfhnfhgpaoddbaaDoorWN
import Derived.Test.YtfhnfhgpaoddbaaDoorWEqStruct
import Derived.Test.YtfhnfhgpaoddbaaDoorWRepsOne
import Derived.Test.YtfhnfhgpaoddbaaDoorWInv
import Derived.Test.YtfhnfhgpaoddbaaDoorWGuard
import Derived.Test.YtfhnfhgpaoddbaaDoorWNEv
import Derived.Test.YtfhnfhgpaoddbaaDoorWMore
import Derived.Test.YtfhnfhgpaoddbaaDoorZClusterPlaces0
import Derived.Test.YtfhnfhgpaoddbaaDoorZClusterPlaces2
section
namespace Go.Proofs.YtfhnfhgpaoddbaaDoor.U
open Go.RowKit Go.Proofs.YtfhnfhgpaoddbaaDoorW.PrintWords Go.Proofs.YtfhnfhgpaoddbaaDoorW.PrintLast Go.Proofs.YtfhnfhgpaoddbaaDoorW.PrintMore
attribute [local go_sem] max2_int min2_int max_two min_two max_three min_three max_four min_four   -- for this text's walks alone
set_option linter.unusedVariables false
set_option linter.unusedSimpArgs false
def bodkinref01_Units.l0 : Nat → ByteArray → List (S30) → Int → Option ((List (S30)))
 | 0,_,_,_ => none
 | k + 1,x0,x3,x4 => if x4 < (x0.size : Int) then (if 0 ≤ x4 then (if x4 ≤ (x0.size : Int) then ((bodkinref01_begins.f k (x0.extract (x4 : Int).toNat x0.size)).bind fun t126 => (if t126 ≥ 0 then ((bodkinref01_size.f t126).bind fun t128 => (if x3.length < 8796093022208 then (bodkinref01_Units.l0 k x0 (x3 ++ [(⟨t126,t128⟩ : S30)]) (wrap64 (x4 + t128))) else (none))) else (if x3.length < 8796093022208 then (bodkinref01_Units.l0 k x0 (x3 ++ [(⟨t126,1⟩ : S30)]) (wrap64 (x4 + 1))) else (none)))) else (none)) else (none)) else (some x3)
def bodkinref01_Units.f (k : Nat) (a0 : ByteArray) : Option ((List (S30))) := bodkinref01_Units.l0 k a0 ([] : List (S30)) 0
set_option maxHeartbeats 8000000 in
set_option maxRecDepth 100000 in
theorem bodkinref01_Units.calls (k : Nat) (a0 : ByteArray) (r : List (S30)) (w : World) (h : bodkinref01_Units.f k a0 = some r) :
  Calls Tryd.prog 28 #[.string a0] w fun e w' => ∃ v0_ : Value,e = .returned (v0_) ∧ Kd.R k30 30 w' w.heap.size (fun _ => True) v0_ r ∧ Below w.heap.size w w' := by
 have hu30 := Tryd.underlying30
 have HB := Aside0.mk (Below.refl w.heap.size w)
 have H : (bodkinref01_Units.l0 k a0 ([] : List (S30)) 0) = some r := h
 clear h
 have H' := Aside0.mk H
 clear H
 go_enter Tryd.func28,Tryd.ntmps28
 go_wp2
 go_loopg [3,4] k (fun kq v3 v4 w' => ∃ (x3_1 : List (S30)) (x4_1 : Int),v4 = .int .i64 x4_1 ∧ Aside0 (bodkinref01_Units.l0 kq a0 x3_1 x4_1 = some r) ∧ Aside0 (kq ≤ k) ∧ Aside0 (Kd.R k30 30 w' w.heap.size (fun _ => True) v3 x3_1) ∧ Aside0 (Below w.heap.size w w'))
 case atStart => exact ⟨(([] : List (S30))),(0),(by first | rfl | (simp;done) | (simp [*];done)),H',⟨Nat.le_refl _⟩,⟨by first | exact Kd.R_nil _ _ _ _ _ | exact Kd.N_nil _ _ _ _ _ | exact Kd.V_nil _ _ _ _ _ | exact Kd.Q_nil _ _ _ _ _ | exact Kd.S_nil _ _ _ _ _⟩,⟨by repeat (first | (with_reducible first | exact HB.out | apply below_alloc | apply pw_below_drewN | apply below_drew1) | exact HB.out)⟩⟩
 case round =>
  clear H'
  obtain ⟨x3_1,x4_1,rfl,HA,HK1,HO_3,HB⟩ := hrel
  cases gk with
  | zero => exact absurd HA.out (by simp [bodkinref01_Units.l0])
  | succ k1 =>
   have H := HA.out
   clear HA
   simp only [bodkinref01_Units.l0] at H
   by_cases c2 : x4_1 < (a0.size : Int)
   ·rw [if_pos c2] at H
    have c2b0 : decide (x4_1 < (a0.size : Int)) = true := decide_eq_true c2
    clear c2
    by_cases c3 : 0 ≤ x4_1
    ·rw [if_pos c3] at H
     have c3b0 := eq_true c3
     have c3b1 : decide (0 ≤ x4_1) = true := decide_eq_true c3
     clear c3
     by_cases c4 : x4_1 ≤ (a0.size : Int)
     ·rw [if_pos c4] at H
      have c4b0 := eq_true c4
      have c4b1 : decide (x4_1 ≤ (a0.size : Int)) = true := decide_eq_true c4
      clear c4
      replace H := Option.bind_eq_some_iff.mp H
      obtain ⟨t126,A50,H⟩ := H
      replace H : (if t126 ≥ 0 then ((bodkinref01_size.f t126).bind fun t128 => (if x3_1.length < 8796093022208 then (bodkinref01_Units.l0 k1 a0 (x3_1 ++ [(⟨t126,t128⟩ : S30)]) (wrap64 (x4_1 + t128))) else (none))) else (if x3_1.length < 8796093022208 then (bodkinref01_Units.l0 k1 a0 (x3_1 ++ [(⟨t126,1⟩ : S30)]) (wrap64 (x4_1 + 1))) else (none))) = some r := H
      have A5 := Aside0.mk A50
      clear A50
      by_cases c6 : t126 ≥ 0
      ·rw [if_pos c6] at H
       have c6b0 : decide (0 ≤ t126) = true := decide_eq_true c6
       clear c6
       replace H := Option.bind_eq_some_iff.mp H
       obtain ⟨t128,A70,H⟩ := H
       replace H : (if x3_1.length < 8796093022208 then (bodkinref01_Units.l0 k1 a0 (x3_1 ++ [(⟨t126,t128⟩ : S30)]) (wrap64 (x4_1 + t128))) else (none)) = some r := H
       have A7 := Aside0.mk A70
       clear A70
       by_cases c8 : x3_1.length < 8796093022208
       ·rw [if_pos c8] at H
        have LMc8 := Aside0.mk c8
        clear c8
        obtain ⟨y129,hy129⟩ : ∃ y_ : List (S30),y_ = (x3_1 ++ [(⟨t126,t128⟩ : S30)]) := ⟨_,rfl⟩
        replace H : (bodkinref01_Units.l0 k1 a0 y129 (wrap64 (x4_1 + t128))) = some r := by first | (rw [hy129];with_reducible exact H) | (have H2_ := (Option.bind_some _ _).symm.trans H;rw [hy129];with_reducible exact H2_) | (have H2_ := (Option.bind_some _ _).symm.trans H;with_reducible exact H2_) | with_reducible exact H | (rw [hy129];exact H) | exact H
        have Ny129 := Aside0.mk hy129
        clear hy129
        have H' := Aside0.mk H
        clear H
        go_wp2_with (first | ((with_reducible refine gate_callee (f := 62) rfl ?_);refine goesL_ (some 13) rfl rfl Tryd.func62 (by kernel_rfl) rfl #[.string (a0.extract (x4_1 : Int).toNat a0.size)] rfl (by (try simp only [List.map_toArray,List.map_cons,List.map_nil]);first | done | rfl | (simp only [List.length_drop,List.length_take];rfl)) ?_;(with_reducible refine (bodkinref01_begins.calls k1 (a0.extract (x4_1 : Int).toNat a0.size) t126 _ A5.out).mono ?_);rintro e w9 ⟨rfl,hb⟩;refine ⟨_,rfl,?_⟩;have n0_ := Aside0.mk (Kd.R_below (by (with_reducible repeat (first | apply Kd.R_alloc | apply Kd.R_drewN | apply Kd.R_drew));exact HO_3.out) hb);have n1_ := Aside0.mk (below_step (by repeat (first | (with_reducible first | exact HB.out | apply below_alloc | apply pw_below_drewN | apply below_drew1) | exact HB.out)) hb);clear HO_3;clear HB;have HO_3 := n0_;have HB := n1_;clear n0_ n1_;(try clear hb);(try clear hb2);(try clear hk);(try clear hi)) | ((with_reducible refine gate_dst (N := 5) rfl ?_);refine box_event ?hg (N := 5) ?hd (cs := #[.int .i32 0,.int .i64 0]) (t := 30) ?hr ?_;(case hd => rfl);(case hg => rfl);(case hr => first | (go_simp;done) | (go_simp;rfl));intro gb127 hg w10 hbox hb;have n0_ := Aside0.mk (Kd.R_below (Kd.R_elderB (by (with_reducible repeat (first | apply Kd.R_alloc | apply Kd.R_drewN | apply Kd.R_drew));exact HO_3.out) gb127 (Nat.le_of_eq hg.symm)) hb);have n1_ := Aside0.mk (below_step (by repeat (first | (with_reducible first | exact HB.out | apply below_alloc | apply pw_below_drewN | apply below_drew1) | exact HB.out)) hb);have n2_ := Aside0.mk (hbox);have n3_ := Aside0.mk ((by rw [hg];exact (below_size (by repeat (first | (with_reducible first | exact HB.out | apply below_alloc | apply pw_below_drewN | apply below_drew1) | exact HB.out))) : w.heap.size ≤ gb127));have n4_ := Aside0.mk ((by rw [hg];exact (below_size (by repeat (first | (with_reducible first | exact HB.out | apply below_alloc | apply pw_below_drewN | apply below_drew1) | exact HB.out))) : w.heap.size ≤ gb127));clear HO_3;clear HB;have HO_3 := n0_;have HB := n1_;have BK127 := n2_;have GW127 := n3_;have GE127 := n4_;clear n0_ n1_ n2_ n3_ n4_;clear hb hbox hg;have hcz11_0 : w10.cell? ⟨gb127,0,none⟩ = some (.int .i32 0) := (blk_cell BK127.out 0).trans rfl;have hcz11_1 : w10.cell? ⟨gb127,1,none⟩ = some (.int .i64 0) := (blk_cell BK127.out 1).trans rfl;have hfz11_0 := blk_frozen BK127.out 0;have hfz11_1 := blk_frozen BK127.out 1) | ((with_reducible refine gate_callee (f := 63) rfl ?_);refine goesL_ (some 20) rfl rfl Tryd.func63 (by kernel_rfl) rfl #[.int .i32 t126] rfl (by (try simp only [List.map_toArray,List.map_cons,List.map_nil]);first | done | rfl | (simp only [List.length_drop,List.length_take];rfl)) ?_;(with_reducible refine (bodkinref01_size.calls t126 t128 _ A7.out).mono ?_);rintro e w12 ⟨rfl,hb⟩;refine ⟨_,rfl,?_⟩;have n0_ := Aside0.mk (Kd.R_below (by (with_reducible repeat (first | apply Kd.R_alloc | apply Kd.R_drewN | apply Kd.R_drew));exact (Kd.R_mono (Kd.R_far (p := ⟨gb127,1,none⟩) (Kd.R_far (p := ⟨gb127,0,none⟩) (Kd.R_mono HO_3.out (fun k_ hk => (⟨hk,hk.2⟩ : _ ∧ k_ ≠ gb127))) (fun _ hk => hk.2) (.int .i32 t126)) (fun _ hk => hk.2) (.int .i64 1)) (fun _ h_ => h_.1))) hb);have n1_ := Aside0.mk (blk_below (g := gb127) (o := .cells #[.int .i32 t126,.int .i64 1] 30 (0,0)) (by (with_reducible repeat (first | refine blk_drewN ?_ _ | refine blk_drew ?_ | refine blk_alloc ?_ _));refine blk_put (cs := #[.int .i32 t126,.int .i64 0]) ?_ 1 _ rfl;(with_reducible repeat (first | refine blk_drewN ?_ _ | refine blk_drew ?_ | refine blk_alloc ?_ _));refine blk_put (cs := #[.int .i32 0,.int .i64 0]) ?_ 0 _ rfl;(with_reducible repeat (first | refine blk_drewN ?_ _ | refine blk_drew ?_ | refine blk_alloc ?_ _));exact BK127.out) hb);have n2_ := Aside0.mk (below_step (by repeat (first | (with_reducible first | exact HB.out | apply below_alloc | apply pw_below_drewN | apply below_drew1 | refine below_set ?_ GE127.out) | exact HB.out)) hb);clear HO_3;clear BK127;clear HB;have HO_3 := n0_;have BK127 := n1_;have HB := n2_;clear n0_ n1_ n2_;(try clear hb);(try clear hb2);(try clear hk);(try clear hi);have hcz13_0 : w12.cell? ⟨gb127,0,none⟩ = some (.int .i32 t126) := (blk_cell BK127.out 0).trans rfl;have hcz13_1 : w12.cell? ⟨gb127,1,none⟩ = some (.int .i64 1) := (blk_cell BK127.out 1).trans rfl;have hfz13_0 := blk_frozen BK127.out 0;have hfz13_1 := blk_frozen BK127.out 1) | ((with_reducible refine gate_builtin (b := .append) (xs := #[.tmp 22,.tmp 24]) rfl ?_);at_builtin;refine Kd.R_append k30 (w0 := w) w.heap.size rfl (.tmp 22) (.tmp 24) 27 30 (.agg #[(.int .i32 0),(.int .i64 0)]) 16 rfl Tryd.underlying27 info30 rfl (by decide) (by omega) u3 x3_1 (⟨t126,t128⟩ : S30) [.int .i32 t126,.int .i64 t128] (fun k_ => k_ ≠ gb127) (fun _ => False) rfl (by first | (go_simp;done) | (go_simp;rfl)) ?aP (fun _ hk => hk.elim) ?aF ?aO ?aB ?aS ?aL ?_;(case aP => exact k30_mkM _ _ _ (⟨t126,t128⟩ : S30));(case aB => exact (by repeat (first | (with_reducible first | exact HB.out | apply below_alloc | apply pw_below_drewN | apply below_drew1 | refine below_set ?_ GE127.out) | exact HB.out)));(case aF => exact (fun k_ hk => Kd.freshB (g := gb127) (o := .cells #[.int .i32 t126,.int .i64 t128] 30 (0,0)) (by (with_reducible repeat (first | refine blk_drewN ?_ _ | refine blk_drew ?_ | refine blk_alloc ?_ _));refine blk_put (cs := #[.int .i32 t126,.int .i64 1]) ?_ 1 _ rfl;(with_reducible repeat (first | refine blk_drewN ?_ _ | refine blk_drew ?_ | refine blk_alloc ?_ _));exact BK127.out) k_ hk));(case aO => exact (by (with_reducible repeat (first | apply Kd.R_alloc | apply Kd.R_drewN | apply Kd.R_drew));exact Kd.R_mono (Kd.R_far (p := ⟨gb127,1,none⟩) (Kd.R_mono HO_3.out (fun k_ hk => (⟨hk,hk.2⟩ : _ ∧ k_ ≠ gb127))) (fun _ hk => hk.2) (.int .i64 t128)) (fun _ hk => hk.1.2)));(case aS => exact (below_size (by repeat (first | (with_reducible first | exact HB.out | apply below_alloc | apply pw_below_drewN | apply below_drew1 | refine below_set ?_ GE127.out) | exact HB.out))));(case aL => have := LMc8.out;omega);intro v130 w14 ho hb hg hat;rw [← Ny129.out] at ho;have n0_ := Aside0.mk (blk_grown (g := gb127) (o := .cells #[.int .i32 t126,.int .i64 t128] 30 (0,0)) (by (with_reducible repeat (first | refine blk_drewN ?_ _ | refine blk_drew ?_ | refine blk_alloc ?_ _));refine blk_put (cs := #[.int .i32 t126,.int .i64 1]) ?_ 1 _ rfl;(with_reducible repeat (first | refine blk_drewN ?_ _ | refine blk_drew ?_ | refine blk_alloc ?_ _));exact BK127.out) hg (Kd.R_away HO_3.out (fun _ hk => hk.2)));have n1_ := Aside0.mk (hb);have n2_ := Aside0.mk (ho);clear BK127;clear HB;clear HO_3;have BK127 := n0_;have HB := n1_;have HO131 := n2_;clear n0_ n1_ n2_;clear ho hb hg hat;have hcz15_0 : w14.cell? ⟨gb127,0,none⟩ = some (.int .i32 t126) := (blk_cell BK127.out 0).trans rfl;have hcz15_1 : w14.cell? ⟨gb127,1,none⟩ = some (.int .i64 t128) := (blk_cell BK127.out 1).trans rfl;have hfz15_0 := blk_frozen BK127.out 0;have hfz15_1 := blk_frozen BK127.out 1))
        go_roundg k1
        case measure => have := HK1.out;omega
        case rel => exact ⟨(y129),(wrap64 (x4_1 + t128)),(by first | rfl | (simp;done) | (simp [*];done)),H',⟨by have := HK1.out;omega⟩,⟨by (with_reducible repeat (first | apply Kd.R_alloc | apply Kd.R_drewN | apply Kd.R_drew));exact Kd.R_mono HO131.out (fun _ hk => trivial)⟩,⟨by repeat (first | (with_reducible first | exact HB.out | apply below_alloc | apply pw_below_drewN | apply below_drew1 | refine below_set ?_ GE127.out) | exact HB.out)⟩⟩
       ·rw [if_neg c8] at H
        exact absurd H (by simp)
      ·rw [if_neg c6] at H
       have c6b0 : decide (0 ≤ t126) = false := decide_eq_false c6
       clear c6
       by_cases c16 : x3_1.length < 8796093022208
       ·rw [if_pos c16] at H
        have LMc16 := Aside0.mk c16
        clear c16
        obtain ⟨y132,hy132⟩ : ∃ y_ : List (S30),y_ = (x3_1 ++ [(⟨t126,1⟩ : S30)]) := ⟨_,rfl⟩
        replace H : (bodkinref01_Units.l0 k1 a0 y132 (wrap64 (x4_1 + 1))) = some r := by first | (rw [hy132];with_reducible exact H) | (have H2_ := (Option.bind_some _ _).symm.trans H;rw [hy132];with_reducible exact H2_) | (have H2_ := (Option.bind_some _ _).symm.trans H;with_reducible exact H2_) | with_reducible exact H | (rw [hy132];exact H) | exact H
        have Ny132 := Aside0.mk hy132
        clear hy132
        have H' := Aside0.mk H
        clear H
        go_wp2_with (first | ((with_reducible refine gate_callee (f := 62) rfl ?_);refine goesL_ (some 13) rfl rfl Tryd.func62 (by kernel_rfl) rfl #[.string (a0.extract (x4_1 : Int).toNat a0.size)] rfl (by (try simp only [List.map_toArray,List.map_cons,List.map_nil]);first | done | rfl | (simp only [List.length_drop,List.length_take];rfl)) ?_;(with_reducible refine (bodkinref01_begins.calls k1 (a0.extract (x4_1 : Int).toNat a0.size) t126 _ A5.out).mono ?_);rintro e w17 ⟨rfl,hb⟩;refine ⟨_,rfl,?_⟩;have n0_ := Aside0.mk (Kd.R_below (by (with_reducible repeat (first | apply Kd.R_alloc | apply Kd.R_drewN | apply Kd.R_drew));exact HO_3.out) hb);have n1_ := Aside0.mk (below_step (by repeat (first | (with_reducible first | exact HB.out | apply below_alloc | apply pw_below_drewN | apply below_drew1) | exact HB.out)) hb);clear HO_3;clear HB;have HO_3 := n0_;have HB := n1_;clear n0_ n1_;(try clear hb);(try clear hb2);(try clear hk);(try clear hi)) | ((with_reducible refine gate_dst (N := 5) rfl ?_);refine box_event ?hg (N := 5) ?hd (cs := #[.int .i32 0,.int .i64 0]) (t := 30) ?hr ?_;(case hd => rfl);(case hg => rfl);(case hr => first | (go_simp;done) | (go_simp;rfl));intro gb127 hg w18 hbox hb;have n0_ := Aside0.mk (Kd.R_below (Kd.R_elderB (by (with_reducible repeat (first | apply Kd.R_alloc | apply Kd.R_drewN | apply Kd.R_drew));exact HO_3.out) gb127 (Nat.le_of_eq hg.symm)) hb);have n1_ := Aside0.mk (below_step (by repeat (first | (with_reducible first | exact HB.out | apply below_alloc | apply pw_below_drewN | apply below_drew1) | exact HB.out)) hb);have n2_ := Aside0.mk (hbox);have n3_ := Aside0.mk ((by rw [hg];exact (below_size (by repeat (first | (with_reducible first | exact HB.out | apply below_alloc | apply pw_below_drewN | apply below_drew1) | exact HB.out))) : w.heap.size ≤ gb127));have n4_ := Aside0.mk ((by rw [hg];exact (below_size (by repeat (first | (with_reducible first | exact HB.out | apply below_alloc | apply pw_below_drewN | apply below_drew1) | exact HB.out))) : w.heap.size ≤ gb127));clear HO_3;clear HB;have HO_3 := n0_;have HB := n1_;have BK127 := n2_;have GW127 := n3_;have GE127 := n4_;clear n0_ n1_ n2_ n3_ n4_;clear hb hbox hg;have hcz19_0 : w18.cell? ⟨gb127,0,none⟩ = some (.int .i32 0) := (blk_cell BK127.out 0).trans rfl;have hcz19_1 : w18.cell? ⟨gb127,1,none⟩ = some (.int .i64 0) := (blk_cell BK127.out 1).trans rfl;have hfz19_0 := blk_frozen BK127.out 0;have hfz19_1 := blk_frozen BK127.out 1) | ((with_reducible refine gate_builtin (b := .append) (xs := #[.tmp 22,.tmp 24]) rfl ?_);at_builtin;refine Kd.R_append k30 (w0 := w) w.heap.size rfl (.tmp 22) (.tmp 24) 27 30 (.agg #[(.int .i32 0),(.int .i64 0)]) 16 rfl Tryd.underlying27 info30 rfl (by decide) (by omega) u3 x3_1 (⟨t126,1⟩ : S30) [.int .i32 t126,.int .i64 1] (fun k_ => k_ ≠ gb127) (fun _ => False) rfl (by first | (go_simp;done) | (go_simp;rfl)) ?aP (fun _ hk => hk.elim) ?aF ?aO ?aB ?aS ?aL ?_;(case aP => exact k30_mkM _ _ _ (⟨t126,1⟩ : S30));(case aB => exact (by repeat (first | (with_reducible first | exact HB.out | apply below_alloc | apply pw_below_drewN | apply below_drew1 | refine below_set ?_ GE127.out) | exact HB.out)));(case aF => exact (fun k_ hk => Kd.freshB (g := gb127) (o := .cells #[.int .i32 t126,.int .i64 1] 30 (0,0)) (by (with_reducible repeat (first | refine blk_drewN ?_ _ | refine blk_drew ?_ | refine blk_alloc ?_ _));refine blk_put (cs := #[.int .i32 t126,.int .i64 0]) ?_ 1 _ rfl;(with_reducible repeat (first | refine blk_drewN ?_ _ | refine blk_drew ?_ | refine blk_alloc ?_ _));refine blk_put (cs := #[.int .i32 0,.int .i64 0]) ?_ 0 _ rfl;(with_reducible repeat (first | refine blk_drewN ?_ _ | refine blk_drew ?_ | refine blk_alloc ?_ _));exact BK127.out) k_ hk));(case aO => exact (by (with_reducible repeat (first | apply Kd.R_alloc | apply Kd.R_drewN | apply Kd.R_drew));exact Kd.R_mono (Kd.R_far (p := ⟨gb127,1,none⟩) (Kd.R_far (p := ⟨gb127,0,none⟩) (Kd.R_mono HO_3.out (fun k_ hk => (⟨hk,hk.2⟩ : _ ∧ k_ ≠ gb127))) (fun _ hk => hk.2) (.int .i32 t126)) (fun _ hk => hk.2) (.int .i64 1)) (fun _ hk => hk.1.2)));(case aS => exact (below_size (by repeat (first | (with_reducible first | exact HB.out | apply below_alloc | apply pw_below_drewN | apply below_drew1 | refine below_set ?_ GE127.out) | exact HB.out))));(case aL => have := LMc16.out;omega);intro v133 w20 ho hb hg hat;rw [← Ny132.out] at ho;have n0_ := Aside0.mk (blk_grown (g := gb127) (o := .cells #[.int .i32 t126,.int .i64 1] 30 (0,0)) (by (with_reducible repeat (first | refine blk_drewN ?_ _ | refine blk_drew ?_ | refine blk_alloc ?_ _));refine blk_put (cs := #[.int .i32 t126,.int .i64 0]) ?_ 1 _ rfl;(with_reducible repeat (first | refine blk_drewN ?_ _ | refine blk_drew ?_ | refine blk_alloc ?_ _));refine blk_put (cs := #[.int .i32 0,.int .i64 0]) ?_ 0 _ rfl;(with_reducible repeat (first | refine blk_drewN ?_ _ | refine blk_drew ?_ | refine blk_alloc ?_ _));exact BK127.out) hg (Kd.R_away HO_3.out (fun _ hk => hk.2)));have n1_ := Aside0.mk (hb);have n2_ := Aside0.mk (ho);clear BK127;clear HB;clear HO_3;have BK127 := n0_;have HB := n1_;have HO134 := n2_;clear n0_ n1_ n2_;clear ho hb hg hat;have hcz21_0 : w20.cell? ⟨gb127,0,none⟩ = some (.int .i32 t126) := (blk_cell BK127.out 0).trans rfl;have hcz21_1 : w20.cell? ⟨gb127,1,none⟩ = some (.int .i64 1) := (blk_cell BK127.out 1).trans rfl;have hfz21_0 := blk_frozen BK127.out 0;have hfz21_1 := blk_frozen BK127.out 1))
        go_roundg k1
        case measure => have := HK1.out;omega
        case rel => exact ⟨(y132),(wrap64 (x4_1 + 1)),(by first | rfl | (simp;done) | (simp [*];done)),H',⟨by have := HK1.out;omega⟩,⟨by (with_reducible repeat (first | apply Kd.R_alloc | apply Kd.R_drewN | apply Kd.R_drew));exact Kd.R_mono HO134.out (fun _ hk => trivial)⟩,⟨by repeat (first | (with_reducible first | exact HB.out | apply below_alloc | apply pw_below_drewN | apply below_drew1 | refine below_set ?_ GE127.out) | exact HB.out)⟩⟩
       ·rw [if_neg c16] at H
        exact absurd H (by simp)
     ·rw [if_neg c4] at H
      exact absurd H (by simp)
    ·rw [if_neg c3] at H
     exact absurd H (by simp)
   ·rw [if_neg c2] at H
    have c2b0 : decide (x4_1 < (a0.size : Int)) = false := decide_eq_false c2
    clear c2
    obtain rfl := Option.some.inj H
    go_wp2
    go_ret
    exact ⟨_,by first | rfl | (simp [errW_none,errW_some] <;> rfl) | (simp [*,errW_none,errW_some] <;> rfl),by (with_reducible repeat (first | apply Kd.R_alloc | apply Kd.R_drewN | apply Kd.R_drew));exact HO_3.out,by repeat (first | (with_reducible first | exact HB.out | apply below_alloc | apply pw_below_drewN | apply below_drew1) | exact HB.out)⟩
end Go.Proofs.YtfhnfhgpaoddbaaDoor.U
end
