/- What the law ClusterShows reaches of this seat's own texts, merged; what nothing uses is left out. -/
import Derived.Test.YtfhnfhgpaoddbaaDoorProg
import Derived.Below
import Derived.Deep.Draws
import Derived.Deep.AppendLies
import Derived.Maps.AppendAt
import Derived.OwnWalk
import Derived.Laws.BytesArg
import Derived.Laws.MakeOwn
import Derived.Laws.OwnMore
import Derived.Deep.OwnRows
import Derived.Tactics
import Derived.Lib.ConvBytes
import Derived.Laws.Slices
import Derived.WalkKit
import Derived.KernelRfl
import Derived.RowKit3
import Derived.Deep.LoopGhost
import Derived.Deep.QuietTactic
import Derived.BigQuiet
import Derived.WideLaws
import Derived.Deep.DeepCutAuto
import Derived.Deep.CutBlock
import Derived.Deep.RegionHeld3
import Derived.Laws.Rows
import Derived.Lib.AppendStr
import Derived.ArgAppend
import Derived.Laws.IdiomCopy
import Derived.OrdersHeld
import Derived.Laws.BitsLemmas
import Derived.RowKit
import Derived.Shelf.Strings.Builder1
import Derived.Shelf.Small.Utf8
import Derived.Shelf.Strings.BuilderF
import Derived.Shelf.Strings.BuilderK
import Derived.Shelf.Utf8.AppendRunePlain
import Derived.Shelf.Utf8.RuneCount
import Derived.Shelf.Strings.Prefix
import Derived.Shelf.Unicode.Decode
import Derived.Shelf.Strings.RuneCount
import Derived.Shelf.Unicode.DecodeSlow
import Derived.Shelf.Unicode.DecodeAny
import Derived.Shelf.Strings.BuilderCap
import Derived.Lib.LaidU8
import Derived.RangeFuncNested
import Derived.RangeFuncBound
import Derived.RangeFuncCalls
import Derived.RangeFuncLeaves
import Derived.Lib.DecodeN
import Derived.Lib.MapLaws
import Derived.Laws.DeepStrings4
import Derived.Shelf.Unicode.DecodeLastEight
import Derived.Shelf.Abstract
import Derived.Shelf.RegionOpen
import Derived.OwnWalkIn
import Derived.TacticsInMore
import Derived.LoopNIn
import Derived.LoopIn
import Derived.Lib.Hide
import Derived.Sort.BigQuietIn
import Derived.Sort.CutIn
import Derived.Lib.Builder
import Derived.Lib.FrozenHead
import Derived.Ground.NamesProg
import Derived.Shelf.Lay
import Derived.Shelf.Unicode.ValidAny
import Derived.Test.YtfhnfhgpaoddbaaDoorRows
import Derived.ProofKit
import Derived.Deep.DeepHandedRow
import Derived.LaidMore
import Derived.Lay
import Derived.Test.YtfhnfhgpaoddbaaDoorWWords
import Derived.Test.YtfhnfhgpaoddbaaDoorWLast
import Derived.Test.YtfhnfhgpaoddbaaDoorWTab
import Derived.Test.YtfhnfhgpaoddbaaDoorWQPut
import Derived.Test.YtfhnfhgpaoddbaaDoorWApart
import Derived.Test.YtfhnfhgpaoddbaaDoorWArr
import Derived.Test.YtfhnfhgpaoddbaaDoorWZeros
import Derived.Test.YtfhnfhgpaoddbaaDoorWFoot
import Derived.Test.YtfhnfhgpaoddbaaDoorWKept
import Derived.Test.YtfhnfhgpaoddbaaDoorWShare
import Derived.Test.YtfhnfhgpaoddbaaDoorWN
import Derived.Test.YtfhnfhgpaoddbaaDoorWEqStruct
import Derived.Test.YtfhnfhgpaoddbaaDoorWRepsOne
import Derived.Test.YtfhnfhgpaoddbaaDoorWInv
import Derived.Test.YtfhnfhgpaoddbaaDoorWGuard
import Derived.Test.YtfhnfhgpaoddbaaDoorWNEv
import Derived.Test.YtfhnfhgpaoddbaaDoorWMore
import Derived.Test.YtfhnfhgpaoddbaaDoorZClusterShows0
import Derived.Test.YtfhnfhgpaoddbaaDoorZClusterShows3
section
namespace Go.Proofs.YtfhnfhgpaoddbaaDoor.U
open Go.RowKit Go.Proofs.YtfhnfhgpaoddbaaDoorW.PrintWords Go.Proofs.YtfhnfhgpaoddbaaDoorW.PrintLast Go.Proofs.YtfhnfhgpaoddbaaDoorW.PrintMore
attribute [local go_sem] max2_int min2_int max_two min_two max_three min_three max_four min_four   -- for this text's walks alone
set_option linter.unusedVariables false
set_option linter.unusedSimpArgs false
mutual
def bodkinlaw03_ClusterShows.j0 : Nat → ByteArray → ByteArray → Bool → Option (Bool)
 | 0,_,_,_ => none
 | k + 1,x0,x3,x18 => if x18 = true then (some false) else ((cluster_List.f x3).bind fun t463 => (bodkinlaw03_ClusterShows.l0 k x0 x3 t463 0))
def bodkinlaw03_ClusterShows.l0 : Nat → ByteArray → ByteArray → List (S53) → Int → Option (Bool)
 | 0,_,_,_,_ => none
 | k + 1,x0,x3,x4,x5 => if x5 < (x4.length : Int) then (if 0 ≤ x5 then (if ((rd_T53 x4 x5).f2) = 0 then (bodkinlaw03_ClusterShows.l0 k x0 x3 x4 (wrap64 (x5 + 1))) else (if ((rd_T53 x4 x5).f2) = 4 then (bodkinlaw03_ClusterShows.l0 k x0 x3 x4 (wrap64 (x5 + 1))) else (some false))) else (none)) else ((cluster_Cells.f x3).bind fun t468 => ((cluster_Cells.f x0).bind fun t469 => (some (t468 == t469))))
end
def bodkinlaw03_ClusterShows.f (k : Nat) (a0 : ByteArray) : Option (Bool) := (bodkinlaw03_fixed.f k).bind fun t459 => (if t459 = true then ((cluster_Drawn.f a0).bind fun t460 => ((utf8_ValidString.f t460).bind fun t461 => (if t461 = true then ((cluster_Drawn.f t460).bind fun t462 => (bodkinlaw03_ClusterShows.j0 k a0 t460 (t462.toList != t460.toList))) else (bodkinlaw03_ClusterShows.j0 k a0 t460 true)))) else (some false))
set_option maxHeartbeats 8000000 in
set_option maxRecDepth 100000 in
theorem bodkinlaw03_ClusterShows.calls (k : Nat) (a0 : ByteArray) (r : Bool) (hr_ : r = true) (w : World) (hT : Lib.Utf8Tabs 0 1 w) (h : bodkinlaw03_ClusterShows.f k a0 = some r) :
  Calls Tryd.prog 20 #[.string a0] w fun e w' => e = .returned (.bool r) ∧ Below w.heap.size w w' := by
 have HT := Aside0.mk hT
 clear hT
 have HB := Aside0.mk (Below.refl w.heap.size w)
 have H : ((bodkinlaw03_fixed.f k).bind fun t459 => (if t459 = true then ((cluster_Drawn.f a0).bind fun t460 => ((utf8_ValidString.f t460).bind fun t461 => (if t461 = true then ((cluster_Drawn.f t460).bind fun t462 => (bodkinlaw03_ClusterShows.j0 k a0 t460 (t462.toList != t460.toList))) else (bodkinlaw03_ClusterShows.j0 k a0 t460 true)))) else (some false))) = some r := h
 clear h
 replace H := Option.bind_eq_some_iff.mp H
 obtain ⟨t459,A20,H⟩ := H
 replace H : (if t459 = true then ((cluster_Drawn.f a0).bind fun t460 => ((utf8_ValidString.f t460).bind fun t461 => (if t461 = true then ((cluster_Drawn.f t460).bind fun t462 => (bodkinlaw03_ClusterShows.j0 k a0 t460 (t462.toList != t460.toList))) else (bodkinlaw03_ClusterShows.j0 k a0 t460 true)))) else (some false)) = some r := H
 have A2 := Aside0.mk A20
 clear A20
 by_cases c3 : t459 = true
 ·subst c3
  have H1 : ((cluster_Drawn.f a0).bind fun t460 => ((utf8_ValidString.f t460).bind fun t461 => (if t461 = true then ((cluster_Drawn.f t460).bind fun t462 => (bodkinlaw03_ClusterShows.j0 k a0 t460 (t462.toList != t460.toList))) else (bodkinlaw03_ClusterShows.j0 k a0 t460 true)))) = some r := by rw [if_pos rfl] at H;exact H
  clear H
  have H := H1
  clear H1
  replace H := Option.bind_eq_some_iff.mp H
  obtain ⟨t460,A40,H⟩ := H
  replace H : ((utf8_ValidString.f t460).bind fun t461 => (if t461 = true then ((cluster_Drawn.f t460).bind fun t462 => (bodkinlaw03_ClusterShows.j0 k a0 t460 (t462.toList != t460.toList))) else (bodkinlaw03_ClusterShows.j0 k a0 t460 true))) = some r := H
  have A4 := Aside0.mk A40
  clear A40
  have HC5 := Aside0.mk H
  clear H
  go_enter Tryd.func20,Tryd.ntmps20
  go_upto_region 4 with (first | ((with_reducible refine gate_callee (f := 39) rfl ?_);refine goesL_ (some 6) rfl rfl Tryd.func39 (by kernel_rfl) rfl #[] rfl (by (try simp only [List.map_toArray,List.map_cons,List.map_nil]);first | done | rfl | (simp only [List.length_drop,List.length_take];rfl)) ?_;(with_reducible refine (bodkinlaw03_fixed.calls k true rfl _ ?side1 A2.out).mono ?_);(case side1 => exact tabs_below HT.out (by repeat (first | (with_reducible first | exact HB.out | apply below_alloc | apply pw_below_drewN | apply below_drew1) | exact HB.out)));rintro e w6 ⟨rfl,hb⟩;refine ⟨_,rfl,?_⟩;have n0_ := Aside0.mk (below_step (by repeat (first | (with_reducible first | exact HB.out | apply below_alloc | apply pw_below_drewN | apply below_drew1) | exact HB.out)) hb);clear HB;have HB := n0_;clear n0_;(try clear hb);(try clear hb2);(try clear hk);(try clear hi)) | ((with_reducible refine gate_callee (f := 56) rfl ?_);refine goesL_ (some 9) rfl rfl Tryd.func56 (by kernel_rfl) rfl #[.string a0] rfl (by (try simp only [List.map_toArray,List.map_cons,List.map_nil]);first | done | rfl | (simp only [List.length_drop,List.length_take];rfl)) ?_;(with_reducible refine (cluster_Drawn.calls a0 t460 _ ?side1 A4.out).mono ?_);(case side1 => exact tabs_below HT.out (by repeat (first | (with_reducible first | exact HB.out | apply below_alloc | apply pw_below_drewN | apply below_drew1) | exact HB.out)));rintro e w7 ⟨rfl,hb⟩;refine ⟨_,rfl,?_⟩;have n0_ := Aside0.mk (below_step (by repeat (first | (with_reducible first | exact HB.out | apply below_alloc | apply pw_below_drewN | apply below_drew1) | exact HB.out)) hb);clear HB;have HB := n0_;clear n0_;(try clear hb);(try clear hb2);(try clear hk);(try clear hi)))
  (try simp only [Act.put,List.setIfInBounds_toArray,List.set_cons_zero,List.set_cons_succ])
  go_cut [18] (fun v18 wc => ∃ (kq : Nat) (x18_4 : Bool),v18 = .bool x18_4 ∧ Aside0 (bodkinlaw03_ClusterShows.j0 kq a0 t460 x18_4 = some r) ∧ Aside0 (kq ≤ k) ∧ Aside0 (Below w.heap.size w wc))
  case first =>
   have H := HC5.out
   clear HC5
   replace H := Option.bind_eq_some_iff.mp H
   obtain ⟨t461,A80,H⟩ := H
   replace H : (if t461 = true then ((cluster_Drawn.f t460).bind fun t462 => (bodkinlaw03_ClusterShows.j0 k a0 t460 (t462.toList != t460.toList))) else (bodkinlaw03_ClusterShows.j0 k a0 t460 true)) = some r := H
   have A8 := Aside0.mk A80
   clear A80
   by_cases c9 : t461 = true
   ·subst c9
    have H1 : ((cluster_Drawn.f t460).bind fun t462 => (bodkinlaw03_ClusterShows.j0 k a0 t460 (t462.toList != t460.toList))) = some r := by rw [if_pos rfl] at H;exact H
    clear H
    have H := H1
    clear H1
    replace H := Option.bind_eq_some_iff.mp H
    obtain ⟨t462,A100,H⟩ := H
    replace H : (bodkinlaw03_ClusterShows.j0 k a0 t460 (t462.toList != t460.toList)) = some r := H
    have A10 := Aside0.mk A100
    clear A100
    have H' := Aside0.mk H
    clear H
    go_wp2_with (first | ((with_reducible refine gate_callee (f := 58) rfl ?_);refine goesL_ (some 11) rfl rfl Tryd.func58 (by kernel_rfl) rfl #[.string t460] rfl (by (try simp only [List.map_toArray,List.map_cons,List.map_nil]);first | done | rfl | (simp only [List.length_drop,List.length_take];rfl)) ?_;(with_reducible refine (utf8_ValidString.calls t460 true _ ?side1 A8.out).mono ?_);(case side1 => exact tabs_below HT.out (by repeat (first | (with_reducible first | exact HB.out | apply below_alloc | apply pw_below_drewN | apply below_drew1) | exact HB.out)));rintro e w11 ⟨rfl,hb⟩;refine ⟨_,rfl,?_⟩;have n0_ := Aside0.mk (below_step (by repeat (first | (with_reducible first | exact HB.out | apply below_alloc | apply pw_below_drewN | apply below_drew1) | exact HB.out)) hb);clear HB;have HB := n0_;clear n0_;(try clear hb);(try clear hb2);(try clear hk);(try clear hi)) | (go_at_call 56;(with_reducible refine (cluster_Drawn.calls t460 t462 _ ?side1 A10.out).mono ?_);(case side1 => exact tabs_below HT.out (by repeat (first | (with_reducible first | exact HB.out | apply below_alloc | apply pw_below_drewN | apply below_drew1) | exact HB.out)));rintro e w12 ⟨rfl,hb⟩;have n0_ := Aside0.mk (below_step (by repeat (first | (with_reducible first | exact HB.out | apply below_alloc | apply pw_below_drewN | apply below_drew1) | exact HB.out)) hb);clear HB;have HB := n0_;clear n0_;(try clear hb);(try clear hb2);(try clear hk);(try clear hi)))
    go_meet
    case rel => exact ⟨_,((t462.toList != t460.toList)),(by first | rfl | (simp;done) | (simp [*];done)),H',⟨by first | omega | exact Nat.le_refl _⟩,⟨by repeat (first | (with_reducible first | exact HB.out | apply below_alloc | apply pw_below_drewN | apply below_drew1) | exact HB.out)⟩⟩
   ·replace c9 := Bool.eq_false_iff.mpr c9
    subst c9
    have H1 : (bodkinlaw03_ClusterShows.j0 k a0 t460 true) = some r := by rw [if_neg (show ¬ (false = true) by decide)] at H;exact H
    clear H
    have H := H1
    clear H1
    exfalso
    subst hr_
    cases k <;> simp [bodkinlaw03_ClusterShows.j0] at H
  case rest =>
   clear HC5
   try clear c2
   try clear p2
   try clear c3
   try clear c5
   try clear c9
   obtain ⟨kq,x18_4,rfl,HA,HJ4,HB⟩ := hcut
   cases kq with
   | zero => exact absurd HA.out (by simp [bodkinlaw03_ClusterShows.j0])
   | succ kj4 =>
    have H := HA.out
    clear HA
    simp only [bodkinlaw03_ClusterShows.j0] at H
    by_cases c14 : x18_4 = true
    ·subst c14
     have H1 : (some false) = some r := by rw [if_pos rfl] at H;exact H
     clear H
     have H := H1
     clear H1
     obtain rfl := Option.some.inj H
     cases hr_
    ·replace c14 := Bool.eq_false_iff.mpr c14
     subst c14
     have H1 : ((cluster_List.f t460).bind fun t463 => (bodkinlaw03_ClusterShows.l0 kj4 a0 t460 t463 0)) = some r := by rw [if_neg (show ¬ (false = true) by decide)] at H;exact H
     clear H
     have H := H1
     clear H1
     replace H := Option.bind_eq_some_iff.mp H
     obtain ⟨t463,A150,H⟩ := H
     replace H : (bodkinlaw03_ClusterShows.l0 kj4 a0 t460 t463 0) = some r := H
     have A15 := Aside0.mk A150
     clear A150
     have H' := Aside0.mk H
     clear H
     go_wp2_with (first | ((with_reducible refine gate_callee (f := 43) rfl ?_);refine goesL_ (some 20) rfl rfl Tryd.func43 (by kernel_rfl) rfl #[.string t460] rfl (by (try simp only [List.map_toArray,List.map_cons,List.map_nil]);first | done | rfl | (simp only [List.length_drop,List.length_take];rfl)) ?_;(with_reducible refine (cluster_List.calls t460 t463 _ ?side1 A15.out).mono ?_);(case side1 => exact tabs_below HT.out (by repeat (first | (with_reducible first | exact HB.out | apply below_alloc | apply pw_below_drewN | apply below_drew1) | exact HB.out)));rintro e w16 ⟨v464,rfl,ho0,hb⟩;refine ⟨_,rfl,?_⟩;have n0_ := Aside0.mk (Kd.R_lower ho0 (below_size (by repeat (first | (with_reducible first | exact HB.out | apply below_alloc | apply pw_below_drewN | apply below_drew1) | exact HB.out))));have n1_ := Aside0.mk (below_step (by repeat (first | (with_reducible first | exact HB.out | apply below_alloc | apply pw_below_drewN | apply below_drew1) | exact HB.out)) hb);clear HB;have HO465 := n0_;have HB := n1_;clear n0_ n1_;(try clear hb);(try clear hb2);(try clear hk);(try clear hi);(try clear ho0)))
     go_loopg [5] kj4 (fun kq v5 w' => ∃ (x5_2 : Int),v5 = .int .i64 x5_2 ∧ Aside0 (bodkinlaw03_ClusterShows.l0 kq a0 t460 t463 x5_2 = some r) ∧ Aside0 (kq ≤ kj4) ∧ Aside0 (Kd.R k53 53 w' w.heap.size (fun _ => True) v464 t463) ∧ Aside0 (Below w.heap.size w w'))
     case atStart => exact ⟨(0),(by first | rfl | (simp;done) | (simp [*];done)),H',⟨Nat.le_refl _⟩,⟨by (with_reducible repeat (first | apply Kd.R_alloc | apply Kd.R_drewN | apply Kd.R_drew));exact HO465.out⟩,⟨by repeat (first | (with_reducible first | exact HB.out | apply below_alloc | apply pw_below_drewN | apply below_drew1) | exact HB.out)⟩⟩
     case round =>
      clear H'
      try clear c1
      try clear c2
      try clear p2
      try clear c3
      try clear c4
      try clear c5
      try clear c9
      try clear c14
      try clear p2
      obtain ⟨x5_2,rfl,HA,HK2,HO_4,HB⟩ := hrel
      cases gk with
      | zero => exact absurd HA.out (by simp [bodkinlaw03_ClusterShows.l0])
      | succ k2 =>
       have H := HA.out
       clear HA
       simp only [bodkinlaw03_ClusterShows.l0] at H
       by_cases c17 : x5_2 < (t463.length : Int)
       ·rw [if_pos c17] at H
        have c17b0 : decide (x5_2 < (t463.length : Int)) = true := decide_eq_true c17
        clear c17
        by_cases c18 : 0 ≤ x5_2
        ·rw [if_pos c18] at H
         have c18b0 : decide (0 ≤ x5_2) = true := decide_eq_true c18
         clear c18
         by_cases c19 : ((rd_T53 t463 x5_2).f2) = 0
         ·rw [if_pos c19] at H
          have c19b0 : (((rd_T53 t463 x5_2).f2) == 0) = true := beq_iff_eq.mpr c19
          have c19b1 : (((rd_T53 t463 x5_2).f2) != 0) = false := bne_eq_false_iff_eq.mpr c19
          clear c19
          have H' := Aside0.mk H
          clear H
          obtain ⟨Ao20,co20,eo20⟩ := Kd.R_slice HO_4.out
          subst eo20
          have p466 : 0 ≤ (x5_2 : Int) := of_decide_eq_true (by first | (with_reducible assumption) | assumption)
          have q466 : x5_2 < (t463.length : Int) := of_decide_eq_true (by first | (with_reducible assumption) | assumption)
          obtain ⟨ad466,e466,hx466_0,hx466_1,hx466_2,hx466_3⟩ := at_T53 (Kd.R_reads' HO_4.out).2.2 x5_2 p466 q466
          cases e466
          replace p466 := eq_true p466
          replace q466 := eq_true q466
          go_wp2
          go_roundg k2
          case measure => have := HJ4.out;have := HK2.out;omega
          case rel => exact ⟨(wrap64 (x5_2 + 1)),(by first | rfl | (simp;done) | (simp [*];done)),H',⟨by have := HJ4.out;have := HK2.out;omega⟩,⟨by (with_reducible repeat (first | apply Kd.R_alloc | apply Kd.R_drewN | apply Kd.R_drew));exact HO_4.out⟩,⟨by repeat (first | (with_reducible first | exact HB.out | apply below_alloc | apply pw_below_drewN | apply below_drew1) | exact HB.out)⟩⟩
         ·rw [if_neg c19] at H
          have c19b0 : (((rd_T53 t463 x5_2).f2) == 0) = false := beq_eq_false_iff_ne.mpr c19
          have c19b1 : (((rd_T53 t463 x5_2).f2) != 0) = true := bne_iff_ne.mpr c19
          by_cases c21 : ((rd_T53 t463 x5_2).f2) = 4
          ·rw [if_pos c21] at H
           have c21b0 : (((rd_T53 t463 x5_2).f2) == 4) = true := beq_iff_eq.mpr c21
           have c21b1 : (((rd_T53 t463 x5_2).f2) != 4) = false := bne_eq_false_iff_eq.mpr c21
           clear c21
           have H' := Aside0.mk H
           clear H
           obtain ⟨Ao22,co22,eo22⟩ := Kd.R_slice HO_4.out
           subst eo22
           have p466 : 0 ≤ (x5_2 : Int) := of_decide_eq_true (by first | (with_reducible assumption) | assumption)
           have q466 : x5_2 < (t463.length : Int) := of_decide_eq_true (by first | (with_reducible assumption) | assumption)
           obtain ⟨ad466,e466,hx466_0,hx466_1,hx466_2,hx466_3⟩ := at_T53 (Kd.R_reads' HO_4.out).2.2 x5_2 p466 q466
           cases e466
           replace p466 := eq_true p466
           replace q466 := eq_true q466
           have p467 : 0 ≤ (x5_2 : Int) := of_decide_eq_true (by first | (with_reducible assumption) | assumption)
           have q467 : x5_2 < (t463.length : Int) := of_decide_eq_true (by first | (with_reducible assumption) | assumption)
           obtain ⟨ad467,e467,hx467_0,hx467_1,hx467_2,hx467_3⟩ := at_T53 (Kd.R_reads' HO_4.out).2.2 x5_2 p467 q467
           obtain rfl : ad466 = ad467 := (by injection e467)
           replace p467 := eq_true p467
           replace q467 := eq_true q467
           go_wp2
           go_roundg k2
           case measure => have := HJ4.out;have := HK2.out;omega
           case rel => exact ⟨(wrap64 (x5_2 + 1)),(by first | rfl | (simp;done) | (simp [*];done)),H',⟨by have := HJ4.out;have := HK2.out;omega⟩,⟨by (with_reducible repeat (first | apply Kd.R_alloc | apply Kd.R_drewN | apply Kd.R_drew));exact HO_4.out⟩,⟨by repeat (first | (with_reducible first | exact HB.out | apply below_alloc | apply pw_below_drewN | apply below_drew1) | exact HB.out)⟩⟩
          ·rw [if_neg c21] at H
           have c21b0 : (((rd_T53 t463 x5_2).f2) == 4) = false := beq_eq_false_iff_ne.mpr c21
           have c21b1 : (((rd_T53 t463 x5_2).f2) != 4) = true := bne_iff_ne.mpr c21
           obtain rfl := Option.some.inj H
           cases hr_
        ·rw [if_neg c18] at H
         exact absurd H (by simp)
       ·rw [if_neg c17] at H
        have c17b0 : decide (x5_2 < (t463.length : Int)) = false := decide_eq_false c17
        clear c17
        replace H := Option.bind_eq_some_iff.mp H
        obtain ⟨t468,A240,H⟩ := H
        replace H : ((cluster_Cells.f a0).bind fun t469 => (some (t468 == t469))) = some r := H
        have A24 := Aside0.mk A240
        clear A240
        replace H := Option.bind_eq_some_iff.mp H
        obtain ⟨t469,A250,H⟩ := H
        replace H : (some (t468 == t469)) = some r := H
        have A25 := Aside0.mk A250
        clear A250
        obtain rfl := Option.some.inj H
        obtain ⟨Ao26,co26,eo26⟩ := Kd.R_slice HO_4.out
        subst eo26
        go_wp2_with (first | ((with_reducible refine gate_callee (f := 54) rfl ?_);refine goesL_ (some 42) rfl rfl Tryd.func54 (by kernel_rfl) rfl #[.string t460] rfl (by (try simp only [List.map_toArray,List.map_cons,List.map_nil]);first | done | rfl | (simp only [List.length_drop,List.length_take];rfl)) ?_;(with_reducible refine (cluster_Cells.calls t460 t468 _ ?side1 A24.out).mono ?_);(case side1 => exact tabs_below HT.out (by repeat (first | (with_reducible first | exact HB.out | apply below_alloc | apply pw_below_drewN | apply below_drew1) | exact HB.out)));rintro e w27 ⟨rfl,hb⟩;refine ⟨_,rfl,?_⟩;have n0_ := Aside0.mk (Kd.R_below (by (with_reducible repeat (first | apply Kd.R_alloc | apply Kd.R_drewN | apply Kd.R_drew));exact HO_4.out) hb);have n1_ := Aside0.mk (below_step (by repeat (first | (with_reducible first | exact HB.out | apply below_alloc | apply pw_below_drewN | apply below_drew1) | exact HB.out)) hb);clear HO_4;clear HB;have HO_4 := n0_;have HB := n1_;clear n0_ n1_;(try clear hb);(try clear hb2);(try clear hk);(try clear hi)) | ((with_reducible refine gate_callee (f := 54) rfl ?_);refine goesL_ (some 44) rfl rfl Tryd.func54 (by kernel_rfl) rfl #[.string a0] rfl (by (try simp only [List.map_toArray,List.map_cons,List.map_nil]);first | done | rfl | (simp only [List.length_drop,List.length_take];rfl)) ?_;(with_reducible refine (cluster_Cells.calls a0 t469 _ ?side1 A25.out).mono ?_);(case side1 => exact tabs_below HT.out (by repeat (first | (with_reducible first | exact HB.out | apply below_alloc | apply pw_below_drewN | apply below_drew1) | exact HB.out)));rintro e w28 ⟨rfl,hb⟩;refine ⟨_,rfl,?_⟩;have n0_ := Aside0.mk (Kd.R_below (by (with_reducible repeat (first | apply Kd.R_alloc | apply Kd.R_drewN | apply Kd.R_drew));exact HO_4.out) hb);have n1_ := Aside0.mk (below_step (by repeat (first | (with_reducible first | exact HB.out | apply below_alloc | apply pw_below_drewN | apply below_drew1) | exact HB.out)) hb);clear HO_4;clear HB;have HO_4 := n0_;have HB := n1_;clear n0_ n1_;(try clear hb);(try clear hb2);(try clear hk);(try clear hi)))
        go_ret
        exact ⟨by first | rfl | (simp [errW_none,errW_some] <;> rfl) | (simp [*,errW_none,errW_some] <;> rfl),by repeat (first | (with_reducible first | exact HB.out | apply below_alloc | apply pw_below_drewN | apply below_drew1) | exact HB.out)⟩
 ·replace c3 := Bool.eq_false_iff.mpr c3
  subst c3
  have H1 : (some false) = some r := by rw [if_neg (show ¬ (false = true) by decide)] at H;exact H
  clear H
  have H := H1
  clear H1
  obtain rfl := Option.some.inj H
  cases hr_
end Go.Proofs.YtfhnfhgpaoddbaaDoor.U
end
section
namespace Go.Proofs.YtfhnfhgpaoddbaaDoor.Pu
open Go Go.RowKit Go.Proofs.YtfhnfhgpaoddbaaDoor.Mu Go.Proofs.YtfhnfhgpaoddbaaDoor.U Go.Proofs.YtfhnfhgpaoddbaaDoorW.PrintWords Go.Proofs.YtfhnfhgpaoddbaaDoorW.PrintLast Go.Proofs.YtfhnfhgpaoddbaaDoorW.PrintMore
theorem fixed_ans : Ev (fun k => bodkinlaw03_fixed.f k) true := Ev.of (fun k => bodkinlaw03_fixed.mono k) (k := 200) (by kernel_rfl)
end Go.Proofs.YtfhnfhgpaoddbaaDoor.Pu
end
section
namespace Go.Proofs.YtfhnfhgpaoddbaaDoor.Pu
open Go Go.RowKit Go.Proofs.YtfhnfhgpaoddbaaDoor.Mu Go.Proofs.YtfhnfhgpaoddbaaDoor.U Go.Proofs.YtfhnfhgpaoddbaaDoorW.PrintWords Go.Proofs.YtfhnfhgpaoddbaaDoorW.PrintLast Go.Proofs.YtfhnfhgpaoddbaaDoorW.PrintMore
set_option linter.unusedVariables false
theorem right_uC (a b : ByteArray) (y : Nat) : uC (a ++ b) (a.size + y) = uC b y := by unfold uC;rw [right_dec]
theorem right_bd (a b : ByteArray) (z : Nat) (h : Bd (a ++ b) (a.size + z)) : Bd b z := by
 have hs := size_two a b
 refine ⟨by have := h.1;omega,fun j hj => ?_⟩
 have := h.2 (a.size + j) (by omega)
 rw [right_uN] at this
 omega
theorem bd_left (a b : ByteArray) (i : Nat) (h : Bd (a ++ b) i) (hi : i ≤ a.size) : Bd a i := by
 have hs := size_two a b
 refine ⟨hi,fun j hj => ?_⟩
 by_cases h2 : 2 ≤ uN a j
 ·have hle := uN_le a j (by omega)
  have e := dec_prefix a (a ++ b) j j h2 (fun k hk => byt_append_left a b (j + k) (by omega)) (by omega)
  have : uN (a ++ b) j = uN a j := by unfold uN;rw [e]
  have := h.2 j hj
  omega
 ·have := uN_pos a j;omega
theorem right_nxt (a b : ByteArray) : ∀ n y : Nat,b.size - y ≤ n → y < b.size → nxt (a ++ b) (a.size + y) = a.size + nxt b y := by
 have hs := size_two a b
 intro n
 induction n with
 | zero => intro y hn hy;omega
 | succ n ih =>
  intro y hn hy
  have hp := uN_pos b y
  rw [nxt_eq (a ++ b) (a.size + y) (by omega),nxt_eq b y hy,right_uN,Nat.add_assoc,right_uC,right_uC]
  by_cases h : y + uN b y < b.size ∧ glueB (uC b y) (uC b (y + uN b y)) = true
  ·rw [if_pos ⟨by omega,h.2⟩,if_pos h];exact ih _ (by omega) h.1
  ·rw [if_neg (fun h' => h ⟨by omega,h'.2⟩),if_neg h]
def shiftC (d : Int) (c : S53) : S53 := ⟨d + c.f0,d + c.f1,c.f2,c.f3⟩
theorem right_clAt (a b : ByteArray) (y : Nat) (hy : y < b.size) : clAt (a ++ b) (a.size + y) = shiftC a.size (clAt b y) := by
 have hs := size_two a b
 have hq : crlf (a ++ b) (a.size + y) ↔ crlf b y := by
  unfold crlf;rw [right_uN,right_uC,Nat.add_assoc,right_uC]
  constructor
  ·rintro ⟨h1,h2,h3⟩;exact ⟨h1,by omega,h3⟩
  ·rintro ⟨h1,h2,h3⟩;exact ⟨h1,by omega,h3⟩
 unfold clAt shiftC clsAt celAt
 rw [right_nxt a b _ y (Nat.le_refl _) hy,right_uC]
 simp only [hq,Int.natCast_add]
theorem right_ctl (a b : ByteArray) : ∀ n y : Nat,b.size - y ≤ n → ctl (a ++ b) (a.size + y) = (ctl b y).map (shiftC a.size) := by
 have hs := size_two a b
 intro n
 induction n with
 | zero => intro y hn;rw [ctl_end _ _ (by omega),ctl_end _ _ (by omega)];rfl
 | succ n ih =>
  intro y hn
  by_cases hy : y < b.size
  ·have := nxt_pos b y hy
   rw [ctl_go _ _ (by omega),ctl_go b y hy,right_nxt a b _ y (Nat.le_refl _) hy,ih _ (by omega),List.map_cons,right_clAt a b y hy]
  ·rw [ctl_end _ _ (by omega),ctl_end _ _ (by omega)];rfl
section
variable (a b : ByteArray) (hC : CB (a ++ b) a.size)
theorem left_nxt (hC : CB (a ++ b) a.size) : ∀ n i : Nat,a.size - i ≤ n → i < a.size → Bd (a ++ b) i → nxt a i = nxt (a ++ b) i := by
 have hs := size_two a b
 intro n
 induction n with
 | zero => intro i hn hi _;omega
 | succ n ih =>
  intro i hn hi hb
  have hu := hC.1.2 i hi
  obtain ⟨h1,h2⟩ := left_unit a b i hi hu
  have hp := uN_pos a i
  rw [← h2] at hu
  have hbn := bd_next (a ++ b) i hb (by omega)
  rw [← h2] at hbn
  rw [nxt_eq a i hi,nxt_eq (a ++ b) i (by omega),← h2,← h1]
  by_cases hy : i + uN a i < a.size
  ·have h3 := left_unit a b (i + uN a i) hy (hC.1.2 _ hy)
   rw [← h3.1]
   by_cases hg : glueB (uC a i) (uC a (i + uN a i)) = true
   ·rw [if_pos ⟨hy,hg⟩,if_pos ⟨by omega,hg⟩];exact ih _ (by omega) hy hbn
   ·rw [if_neg (fun h => hg h.2),if_neg (fun h => hg h.2)]
  ·have hya : i + uN a i = a.size := by omega
   rw [if_neg (fun h => hy h.1),if_neg]
   rintro ⟨h4,h5⟩
   rw [hya] at h4 h5
   rw [h1,(cb_iff (a ++ b) a.size i hb (by omega) h4).1 hC] at h5
   cases h5
theorem left_clAt (hC : CB (a ++ b) a.size) (i : Nat) (hi : i < a.size) (hb : Bd (a ++ b) i) : clAt (a ++ b) i = clAt a i := by
 have hs := size_two a b
 have hu := hC.1.2 i hi
 obtain ⟨h1,h2⟩ := left_unit a b i hi hu
 have hq : crlf (a ++ b) i ↔ crlf a i := by
  unfold crlf
  rw [← h1,← h2]
  rw [← h2] at hu
  constructor
  ·rintro ⟨h3,h4,h5⟩
   by_cases hy : i + uN a i < a.size
   ·exact ⟨h3,hy,by rw [(left_unit a b _ hy (hC.1.2 _ hy)).1];exact h5⟩
   ·exfalso
    have hya : i + uN a i = a.size := by omega
    rw [hya] at h4 h5
    have := (cb_iff (a ++ b) a.size i hb (by omega) h4).1 hC
    rw [← h1,h3,h5] at this
    have h6 := (glue_nl 13).2 rfl
    rw [h6] at this;cases this
  ·rintro ⟨h3,h4,h5⟩
   exact ⟨h3,by omega,by rw [← (left_unit a b _ h4 (hC.1.2 _ h4)).1];exact h5⟩
 unfold clAt clsAt celAt
 rw [left_nxt a b hC _ i (Nat.le_refl _) hi hb,h1]
 simp only [hq]
theorem left_ctl (hC : CB (a ++ b) a.size) : ∀ n i : Nat,a.size - i ≤ n → i ≤ a.size → CB (a ++ b) i → ctl (a ++ b) i = ctl a i ++ ctl (a ++ b) a.size := by
 have hs := size_two a b
 intro n
 induction n with
 | zero =>
  intro i hn hi hc
  obtain rfl : i = a.size := by omega
  rw [ctl_end a _ (Nat.le_refl _)];rfl
 | succ n ih =>
  intro i hn hi hc
  by_cases hlt : i < a.size
  ·have hba := bd_left a b i hc.1 hi
   have e := left_nxt a b hC _ i (Nat.le_refl _) hlt hc.1
   have h1 := nxt_pos a i hlt
   have h2 := nxt_le a i hba hlt
   have hcn := nxt_cb (a ++ b) i hc.1 (by omega)
   rw [ctl_go (a ++ b) i (by omega),ctl_go a i hlt,left_clAt a b hC i hlt hc.1,← e,List.cons_append,ih (nxt a i) (by omega) h2 (by rw [e];exact hcn)]
  ·obtain rfl : i = a.size := by omega
   rw [ctl_end a _ (Nat.le_refl _)];rfl
theorem clus_two (hC : CB (a ++ b) a.size) : clusL (a ++ b) = clusL a ++ (clusL b).map (shiftC a.size) := by
 have h1 := left_ctl a b hC _ 0 (Nat.le_refl _) (Nat.zero_le _) (cb_zero _)
 have h2 := right_ctl a b _ 0 (Nat.le_refl _)
 rw [Nat.add_zero] at h2
 rw [clusL_ctl,h1,h2];rfl
end
theorem sumC_shift (d : Int) (cs : List S53) : sumC (cs.map (shiftC d)) = sumC cs := by
 induction cs with
 | nil => rfl
 | cons c cs ih => simp only [List.map_cons,sumC,ih];rfl
theorem data_app (a b : ByteArray) : (a ++ b).data.toList = a.data.toList ++ b.data.toList := by simp
theorem left_extract (a b : ByteArray) (i t : Nat) (h : t ≤ a.size) : (a ++ b).extract i t = a.extract i t := by
 apply ByteArray.ext
 apply Array.toList_inj.1
 rw [Lib.extract_data,Lib.extract_data,data_app]
 have hl : a.data.toList.length = a.size := by rw [← Lib.size_eq]
 by_cases hi : i ≤ a.size
 ·rw [List.drop_append_of_le_length (by omega),List.take_append_of_le_length (by rw [List.length_drop];omega)]
 ·rw [show t - i = 0 by omega,List.take_zero,List.take_zero]
theorem right_extract (a b : ByteArray) (i t : Nat) : (a ++ b).extract (a.size + i) (a.size + t) = b.extract i t := by
 apply ByteArray.ext
 apply Array.toList_inj.1
 rw [Lib.extract_data,Lib.extract_data,data_app]
 have hl : a.data.toList.length = a.size := by rw [← Lib.size_eq]
 rw [List.drop_append,List.drop_eq_nil_of_le (by omega),List.nil_append,hl,show a.size + i - a.size = i by omega,show a.size + t - (a.size + i) = t - i by omega]
theorem draw_left (a b : ByteArray) (i : Nat) (hb : Bd a i) (hi : i < a.size) : drawB (a ++ b) (clAt a i) = drawB a (clAt a i) := by
 have e0 : (clAt a i).f0.toNat = i := Int.toNat_natCast i
 have e1 : (clAt a i).f1.toNat = nxt a i := Int.toNat_natCast _
 unfold drawB
 rw [e0,e1,left_extract a b i _ (nxt_le a i hb hi),byt_append_left a b i hi]
theorem draw_right (a b : ByteArray) (i : Nat) : drawB (a ++ b) (shiftC a.size (clAt b i)) = drawB b (clAt b i) := by
 have e0 : (clAt b i).f0.toNat = i := Int.toNat_natCast i
 have e1 : (clAt b i).f1.toNat = nxt b i := Int.toNat_natCast _
 have f0 : (shiftC a.size (clAt b i)).f0.toNat = a.size + i := by show ((a.size : Int) + (i : Int)).toNat = _;omega
 have f1 : (shiftC a.size (clAt b i)).f1.toNat = a.size + nxt b i := by show ((a.size : Int) + (nxt b i : Int)).toNat = _;omega
 unfold drawB
 rw [e0,e1,f0,f1,right_extract,byt_append_right]
 rfl
theorem drawU_cons (s : ByteArray) (c : S53) (cs : List S53) : drawU s (c :: cs) = (drawB s c).data.toList ++ drawU s cs := by unfold drawU;rw [List.flatMap_cons]
theorem drawU_nil (s : ByteArray) : drawU s [] = [] := by unfold drawU;rw [List.flatMap_nil]
theorem drawU_congr (s t : ByteArray) (f : S53 → S53) (cs : List S53) (h : ∀ c ∈ cs,drawB s (f c) = drawB t c) : drawU s (cs.map f) = drawU t cs := by
 induction cs with
 | nil => rw [List.map_nil,drawU_nil,drawU_nil]
 | cons c cs ih =>
  rw [List.map_cons,drawU_cons,drawU_cons,h c (by simp),ih (fun c hc => h c (List.mem_cons_of_mem _ hc))]
theorem drawn_two (a b : ByteArray) (hC : CB (a ++ b) a.size) : drawU (a ++ b) (clusL (a ++ b)) = drawU a (clusL a) ++ drawU b (clusL b) := by
 rw [clus_two a b hC]
 have h1 : drawU (a ++ b) (clusL a ++ (clusL b).map (shiftC a.size)) = drawU (a ++ b) (clusL a) ++ drawU (a ++ b) ((clusL b).map (shiftC a.size)) := by unfold drawU;rw [List.flatMap_append]
 have h2 : drawU (a ++ b) (clusL a) = drawU a (clusL a) := by
  have := drawU_congr (a ++ b) a id (clusL a) (fun c hc => by
   obtain ⟨i,hi,hlt,rfl⟩ := clus_mem a a.size 0 (cb_zero a) c hc
   exact draw_left a b i hi.1 hlt)
  rw [List.map_id] at this;exact this
 have h3 := drawU_congr (a ++ b) b (shiftC a.size) (clusL b) (fun c hc => by
   obtain ⟨i,hi,hlt,rfl⟩ := clus_mem b b.size 0 (cb_zero b) c hc
   exact draw_right a b i)
 rw [h1,h2,h3]
end Go.Proofs.YtfhnfhgpaoddbaaDoor.Pu
end
section
namespace Go.Proofs.YtfhnfhgpaoddbaaDoor.Pu
open Go Go.RowKit Go.Proofs.YtfhnfhgpaoddbaaDoor.Mu Go.Proofs.YtfhnfhgpaoddbaaDoor.U Go.Proofs.YtfhnfhgpaoddbaaDoorW.PrintWords Go.Proofs.YtfhnfhgpaoddbaaDoorW.PrintLast Go.Proofs.YtfhnfhgpaoddbaaDoorW.PrintMore
set_option linter.unusedVariables false
theorem unit_eq (s t : ByteArray) (i j : Nat) (h1 : ∀ k,k < uN s i → byt t (j + k) = byt s (i + k)) (h2 : j + uN s i ≤ t.size) (h3 : ∀ k,k < uN t j → byt s (i + k) = byt t (j + k)) (h4 : i + uN t j ≤ s.size) : uC t j = uC s i ∧ uN t j = uN s i := by
 by_cases hs : 2 ≤ uN s i
 ·have e := dec_prefix s t i j hs h1 h2
  unfold uC uN;rw [e];exact ⟨rfl,rfl⟩
 ·by_cases ht : 2 ≤ uN t j
  ·have e := dec_prefix t s j i ht h3 h4
   unfold uC uN;rw [e];exact ⟨rfl,rfl⟩
  ·have e0 := h1 0 (by have := uN_pos s i;omega)
   rw [Nat.add_zero,Nat.add_zero] at e0
   have h5 := bad_or s i
   have h6 := bad_or t j
   rw [e0] at h6
   have := uN_pos s i;have := uN_pos t j
   generalize uN s i = p at *
   generalize uC s i = q at *
   generalize uN t j = p' at *
   generalize uC t j = q' at *
   omega
end Go.Proofs.YtfhnfhgpaoddbaaDoor.Pu
end
section
namespace Go.Proofs.YtfhnfhgpaoddbaaDoor.Pu
open Go Go.RowKit Go.Proofs.YtfhnfhgpaoddbaaDoor.Mu Go.Proofs.YtfhnfhgpaoddbaaDoor.U Go.Proofs.YtfhnfhgpaoddbaaDoorW.PrintWords Go.Proofs.YtfhnfhgpaoddbaaDoorW.PrintLast Go.Proofs.YtfhnfhgpaoddbaaDoorW.PrintMore
set_option linter.unusedVariables false
/-- A text without bad units. -/
def Valid (a : ByteArray) : Prop := ∀ j,Bd a j → j < a.size → 0 ≤ uC a j
theorem valid_nil : Valid ⟨#[]⟩ := fun j _ h => absurd h (Nat.not_lt_zero _)
/-- Behind a text without bad units,a seam is a boundary. -/
theorem valid_bd (a b : ByteArray) (h : Valid a) : Bd (a ++ b) a.size := by
 have hs := size_two a b
 refine ⟨by omega,fun j hj => ?_⟩
 by_cases hx : a.size < j + uN (a ++ b) j
 ·exfalso
  have h1 := left_over a b j hj hx
  have hbl := bd_long (a ++ b) j (by omega) (by omega)
  have h2 := h j (bd_left a b j hbl (by omega)) hj
  have h4 := bad_or a j
  have h5 := bad_or (a ++ b) j
  rw [byt_append_left a b j hj] at h5
  omega
 ·omega
theorem valid_two (a b : ByteArray) (ha : Valid a) (hb : Valid b) : Valid (a ++ b) := by
 have hs := size_two a b
 have hv := valid_bd a b ha
 intro j hj hlt
 by_cases hja : j < a.size
 ·have h3 := left_unit a b j hja (hv.2 j hja)
  rw [← h3.1]
  exact ha j (bd_left a b j hj (by omega)) hja
 ·obtain ⟨q,rfl⟩ : ∃ q,j = a.size + q := ⟨j - a.size,by omega⟩
  rw [right_uC]
  exact hb q (right_bd a b q hj) (by omega)
/-- The seam between two pieces is a boundary of clusters,where the second begins with what joins nothing. -/
theorem seam_cb (a b : ByteArray) (ha : Valid a) (hb : 0 < b.size → uC b 0 ≠ 10 ∧ cls (uC b 0) ≠ 3) : CB (a ++ b) a.size := by
 have hs := size_two a b
 refine ⟨valid_bd a b ha,fun y hy he hlt => ?_⟩
 have h0 := hb (by omega)
 have e : uC (a ++ b) a.size = uC b 0 := by have := right_uC a b 0;rwa [Nat.add_zero] at this
 rw [e,← Bool.not_eq_true,glue_iff]
 omega
structure OneC (p : ByteArray) (k : Int) : Prop where
 valid : Valid p
 pos : 0 < p.size
 first : cls (uC p 0) = 0 ∨ cls (uC p 0) = 4
 inner : ∀ j,Bd p j → 0 < j → j < p.size → cls (uC p j) = 3
 cel : celB (uC p 0) = k
structure Good (d : ByteArray) (k : Int) : Prop where
 valid : Valid d
 cla : ∀ c ∈ clusL d,c.f2 = 0 ∨ c.f2 = 4
 sum : sumC (clusL d) = k
 draw : drawU d (clusL d) = d.data.toList
theorem OneC.endp {p : ByteArray} {k : Int} (h : OneC p k) : nxt p 0 = p.size := by
 have h1 := nxt_cb p 0 (bd_zero p) h.pos
 have h2 := nxt_pos p 0 h.pos
 have h3 := nxt_le p 0 (bd_zero p) h.pos
 by_cases he : nxt p 0 < p.size
 ·exfalso
  obtain ⟨y,hy,hye⟩ := bd_prev p _ h1.1 (by omega)
  have hp := uN_pos p y
  have hg := (cb_iff p _ y hy hye he).1 h1
  have hm := h.inner _ h1.1 (by omega) he
  rw [← Bool.not_eq_true,glue_iff] at hg
  have hy3 : cls (uC p y) ≠ 1 ∧ cls (uC p y) ≠ 2 := by
   rcases Nat.eq_zero_or_pos y with h0 | h0
   ·rw [h0];rcases h.first with h5 | h5 <;> omega
   ·have := h.inner y hy h0 (by omega);omega
  exact hg (.inr ⟨hm,hy3.1,hy3.2⟩)
 ·omega
theorem not_crlf {p : ByteArray} (h : cls (uC p 0) = 0 ∨ cls (uC p 0) = 4) : ¬ crlf p 0 := fun hq => by
 rw [hq.1,cls_cr] at h;omega
theorem OneC.clus {p : ByteArray} {k : Int} (h : OneC p k) : clusL p = [⟨0,(p.size : Int),cls (uC p 0),k⟩] := by
 have hn := not_crlf h.first
 rw [clusL_ctl,ctl_go p 0 h.pos,h.endp,ctl_end p _ (Nat.le_refl _)]
 unfold clAt clsAt celAt
 rw [if_neg hn,if_neg hn,h.endp,h.cel]
 rfl
theorem OneC.good {p : ByteArray} {k : Int} (h : OneC p k) : Good p k := by
 refine ⟨h.valid,?_,?_,?_⟩
 ·rw [h.clus];intro c hc;obtain rfl := List.mem_singleton.1 hc;exact h.first
 ·rw [h.clus];simp [sumC]
 ·rw [h.clus,drawU_cons,drawU_nil,List.append_nil]
  have h1 : ¬ cls (uC p 0) = 1 := by have := h.first;omega
  have h2 : ¬ cls (uC p 0) = 2 := by have := h.first;omega
  have h3 : ¬ cls (uC p 0) = 3 := by have := h.first;omega
  have h5 : ¬ cls (uC p 0) = 5 := by have := h.first;omega
  unfold drawB
  rw [if_neg h1,if_neg h2,if_neg h3,if_neg h5]
  show (p.extract 0 ((p.size : Int).toNat)).data.toList = _
  rw [Int.toNat_natCast,Lib.extract_data,List.drop_zero,Nat.sub_zero,List.take_of_length_le (by rw [← Lib.size_eq];exact Nat.le_refl _)]
theorem good_nil : Good ⟨#[]⟩ 0 := by
 have e : clusL ⟨#[]⟩ = [] := by rw [clusL_ctl];exact ctl_end ⟨#[]⟩ 0 (Nat.le_refl 0)
 exact ⟨valid_nil,by rw [e];simp,by rw [e];first | done | rfl,by rw [e,drawU_nil]⟩
def Seam (b : ByteArray) : Prop := 0 < b.size → uC b 0 ≠ 10 ∧ cls (uC b 0) ≠ 3
theorem OneC.seam {p : ByteArray} {k : Int} (h : OneC p k) : Seam p := fun _ => by
 refine ⟨fun e => ?_,?_⟩
 ·have := h.first;rw [e,cls_nl] at this;omega
 ·have := h.first;omega
theorem seam_two (a b : ByteArray) (ha : Valid a) (h0 : 0 < a.size) (h : Seam a) : Seam (a ++ b) := fun _ => by
 have hv := valid_bd a b ha
 have := left_unit a b 0 h0 (hv.2 0 h0)
 rw [← this.1];exact h h0
theorem good_two {a b : ByteArray} {k k' : Int} (ha : Good a k) (hb : Good b k') (hs : Seam b) : Good (a ++ b) (k + k') := by
 have hC := seam_cb a b ha.valid hs
 have hc := clus_two a b hC
 have hd := drawn_two a b hC
 refine ⟨valid_two a b ha.valid hb.valid,?_,?_,?_⟩
 ·rw [hc]
  intro c hm
  rcases List.mem_append.1 hm with hm | hm
  ·exact ha.cla c hm
  ·obtain ⟨c',hm',rfl⟩ := List.mem_map.1 hm
   exact hb.cla c' hm'
 ·rw [hc,sumC_app,sumC_shift,ha.sum,hb.sum]
 ·rw [hd,ha.draw,hb.draw,data_app]
theorem cls_plain (c : Int) (h : 32 ≤ c) (h2 : c < 127) : cls c = 0 := by
 have hl := cls_low c (by omega)
 unfold cls
 rw [if_neg (by omega),if_neg (by omega),if_neg (by omega),hl.1,hl.2,if_neg (by simp),if_neg (by simp)]
theorem cel_plain (c : Int) (h : cls c = 0) : celB c = 1 := by unfold celB;rw [h,if_neg (by omega),if_neg (by omega)]
theorem byt_one (b : UInt8) : byt ⟨#[b]⟩ 0 = b.toNat := rfl
theorem one_ascii (b : UInt8) (h : 32 ≤ b.toNat) (h2 : b.toNat < 127) : OneC ⟨#[b]⟩ 1 := by
 have hu : uC ⟨#[b]⟩ 0 = (b.toNat : Int) := (uC_low ⟨#[b]⟩ 0 b.toNat (by omega)).2 (byt_one b)
 have hc : cls (uC ⟨#[b]⟩ 0) = 0 := by rw [hu];exact cls_plain _ (by omega) (by omega)
 have hz : (⟨#[b]⟩ : ByteArray).size = 1 := rfl
 refine ⟨fun j _ hj => ?_,by omega,.inl hc,fun j _ h0 hj => by omega,cel_plain _ hc⟩
 obtain rfl : j = 0 := by omega
 rw [hu];omega
theorem fffd_unit : uC ⟨#[239,191,189]⟩ 0 = 65533 ∧ uN ⟨#[239,191,189]⟩ 0 = 3 := ⟨by kernel_rfl,by kernel_rfl⟩
theorem fffd_cls : cls 65533 = 0 := by kernel_rfl
theorem fffd_valid : Valid ⟨#[239,191,189]⟩ := fun j hb hj => by
 have hz : (⟨#[239,191,189]⟩ : ByteArray).size = 3 := rfl
 rcases Nat.eq_zero_or_pos j with h | h
 ·rw [h,fffd_unit.1];omega
 ·exfalso;exact not_bd_inner ⟨#[239,191,189]⟩ 0 j h (by rw [fffd_unit.2];omega) hb
theorem one_fffd (rest : ByteArray) (hv : Valid rest) (hm : ∀ j,Bd rest j → j < rest.size → cls (uC rest j) = 3) : OneC (⟨#[239,191,189]⟩ ++ rest) 1 := by
 have hz : (⟨#[239,191,189]⟩ : ByteArray).size = 3 := rfl
 have hs := size_two ⟨#[239,191,189]⟩ rest
 have hvb := valid_bd ⟨#[239,191,189]⟩ rest fffd_valid
 have hl := left_unit ⟨#[239,191,189]⟩ rest 0 (by omega) (hvb.2 0 (by omega))
 rw [fffd_unit.1,fffd_unit.2] at hl
 have hc : cls (uC (⟨#[239,191,189]⟩ ++ rest) 0) = 0 := by rw [← hl.1];exact fffd_cls
 refine ⟨valid_two _ _ fffd_valid hv,by omega,.inl hc,fun j hb h0 hj => ?_,cel_plain _ hc⟩
 by_cases h3 : j < 3
 ·exfalso;exact not_bd_inner _ 0 j h0 (by rw [← hl.2];omega) hb
 ·obtain ⟨q,rfl⟩ : ∃ q,j = (⟨#[239,191,189]⟩ : ByteArray).size + q := ⟨j - 3,by omega⟩
  rw [right_uC]
  exact hm q (right_bd _ _ q hb) (by omega)
theorem one_space (m : ByteArray) (hv : Valid m) (hm : ∀ j,Bd m j → j < m.size → cls (uC m j) = 3) : OneC (⟨#[32]⟩ ++ m) 1 := by
 have hz : (⟨#[32]⟩ : ByteArray).size = 1 := rfl
 have ho := one_ascii 32 (by decide) (by decide)
 have hs := size_two ⟨#[32]⟩ m
 have hvb := valid_bd ⟨#[32]⟩ m ho.valid
 have hl := left_unit ⟨#[32]⟩ m 0 (by omega) (hvb.2 0 (by omega))
 have hf : cls (uC (⟨#[32]⟩ ++ m) 0) = 0 := by
  rw [← hl.1]
  have hu : uC ⟨#[32]⟩ 0 = (32 : Int) := (uC_low ⟨#[32]⟩ 0 32 (by omega)).2 rfl
  rw [hu];exact cls_plain _ (by omega) (by omega)
 refine ⟨valid_two _ _ ho.valid hv,by omega,.inl hf,fun j hb h0 hj => ?_,cel_plain _ hf⟩
 obtain ⟨q,rfl⟩ : ∃ q,j = (⟨#[32]⟩ : ByteArray).size + q := ⟨j - 1,by omega⟩
 rw [right_uC]
 exact hm q (right_bd _ _ q hb) (by omega)
section
variable (s : ByteArray) (i t : Nat) (hi : Bd s i) (ht : Bd s t) (hit : i ≤ t)
theorem mid_unit (ht : Bd s t) (j : Nat) (h1 : i ≤ j) (h2 : j < t) : uC (s.extract i t) (j - i) = uC s j ∧ uN (s.extract i t) (j - i) = uN s j := by
 have hts := ht.1
 have hsz := size_extract s i t ht.1
 have hle := uN_le (s.extract i t) (j - i) (by omega)
 have hle2 := ht.2 j h2
 refine unit_eq s (s.extract i t) j (j - i) (fun k hk => ?_) (by omega) (fun k hk => ?_) (by omega)
 ·rw [byt_extract _ _ _ _ (by omega) ht.1];congr 1;omega
 ·rw [byt_extract _ _ _ _ (by omega) ht.1];congr 1;omega
theorem mid_bd (hi : Bd s i) (ht : Bd s t) (q : Nat) (hit : i ≤ t) (h : Bd (s.extract i t) q) : Bd s (i + q) ∧ i + q ≤ t := by
 have hts := ht.1
 have hsz := size_extract s i t ht.1
 have hq := h.1
 refine ⟨⟨by omega,fun j hj => ?_⟩,by omega⟩
 by_cases hji : j < i
 ·have := hi.2 j hji;omega
 ·have h2 := h.2 (j - i) (by omega)
  rw [(mid_unit s i t ht j (by omega) (by omega)).2] at h2
  omega
end
/-- Within a cluster,behind its first unit,there are marks alone,but for the newline behind a carriage return. -/
theorem inner_marks (s : ByteArray) (i : Nat) (hc : CB s i) (hi : i < s.size) (hq : ¬ crlf s i) : ∀ n j,j ≤ n → Bd s j → i < j → j < nxt s i → cls (uC s j) = 3 := by
 have hle := nxt_le s i hc.1 hi
 intro n
 induction n with
 | zero => intro j h1 _ h2;omega
 | succ n ih =>
  intro j hj hb h1 h2
  obtain ⟨y,hy,hyj⟩ := bd_prev s j hb (by omega)
  have hp := uN_pos s y
  have hyi : i ≤ y := by
   rcases Nat.lt_or_ge y i with h | h
   ·have := hc.1.2 y h;omega
   ·exact h
  have hn : ¬ CB s j := fun h => by have := nxt_least s i hc.1 hi j h h1;omega
  have hg : glueB (uC s y) (uC s j) = true := by
   cases h : glueB (uC s y) (uC s j) with
   | true => rfl
   | false => exact absurd ((cb_iff s j y hy hyj (by omega)).2 h) hn
  rcases (glue_iff _ _).1 hg with h3 | h3
  ·exfalso
   rcases Nat.lt_or_ge i y with h4 | h4
   ·have := ih y (by omega) hy h4 (by omega)
    rw [h3.1,cls_cr] at this;omega
   ·obtain rfl : y = i := by omega
    exact hq ⟨h3.1,by rw [hyj];omega,by rw [hyj];exact h3.2⟩
  ·exact h3.1
theorem cls_good (c : Int) (h : cls c ≠ 5) : 0 ≤ c := by
 unfold cls at h
 split at h
 ·omega
 ·omega
theorem one_mid (s : ByteArray) (i : Nat) (hc : CB s i) (hi : i < s.size) (hq : ¬ crlf s i) (hf : cls (uC s i) = 0 ∨ cls (uC s i) = 4) : OneC (s.extract i (nxt s i)) (celB (uC s i)) := by
 have h1 := nxt_pos s i hi
 have hn := nxt_cb s i hc.1 hi
 have hle := nxt_le s i hc.1 hi
 have hsz := size_extract s i (nxt s i) hle
 have h0 := (mid_unit s i (nxt s i) hn.1 i (Nat.le_refl _) (by omega)).1
 rw [Nat.sub_self] at h0
 have hin : ∀ j,Bd (s.extract i (nxt s i)) j → 0 < j → j < (s.extract i (nxt s i)).size → cls (uC (s.extract i (nxt s i)) j) = 3 := by
  intro j hb hj0 hj
  obtain ⟨hb2,_⟩ := mid_bd s i (nxt s i) hc.1 hn.1 j (by omega) hb
  have h2 := (mid_unit s i (nxt s i) hn.1 (i + j) (by omega) (by omega)).1
  rw [show i + j - i = j by omega] at h2
  rw [h2]
  exact inner_marks s i hc hi hq (i + j) (i + j) (Nat.le_refl _) hb2 (by omega) (by omega)
 refine ⟨fun j hb hj => ?_,by omega,by rw [h0];exact hf,hin,by rw [h0]⟩
 apply cls_good
 rcases Nat.eq_zero_or_pos j with h | h
 ·rw [h,h0];omega
 ·have := hin j hb h hj;omega
/-- The marks that stand in a cluster from x on. -/
theorem marks_mid (s : ByteArray) (i x : Nat) (hc : CB s i) (hi : i < s.size) (hq : ¬ crlf s i) (hx : Bd s x) (hix : i ≤ x) (hxt : x ≤ nxt s i) (hx0 : x = i → cls (uC s i) = 3) :
  Valid (s.extract x (nxt s i)) ∧ ∀ j,Bd (s.extract x (nxt s i)) j → j < (s.extract x (nxt s i)).size → cls (uC (s.extract x (nxt s i)) j) = 3 := by
 have hn := nxt_cb s i hc.1 hi
 have hle := nxt_le s i hc.1 hi
 have hsz := size_extract s x (nxt s i) hle
 have hm : ∀ j,Bd (s.extract x (nxt s i)) j → j < (s.extract x (nxt s i)).size → cls (uC (s.extract x (nxt s i)) j) = 3 := by
  intro j hb hj
  obtain ⟨hb2,_⟩ := mid_bd s x (nxt s i) hx hn.1 j hxt hb
  have h2 := (mid_unit s x (nxt s i) hn.1 (x + j) (by omega) (by omega)).1
  rw [show x + j - x = j by omega] at h2
  rw [h2]
  by_cases h3 : x + j = i
  ·have : x = i := by omega
   rw [h3];exact hx0 this
  ·exact inner_marks s i hc hi hq (x + j) (x + j) (Nat.le_refl _) hb2 (by omega) (by omega)
 refine ⟨fun j hb hj => cls_good _ (by have := hm j hb hj;omega),hm⟩
theorem encode_caret (k : Nat) (h : k < 32) : ∃ b : UInt8,b.toNat = k + 64 ∧ Utf8.encode ((k : Int) + 64) = ⟨#[b]⟩ := by
 refine ⟨UInt8.ofNat (k + 64),by rw [UInt8.toNat_ofNat'];omega,?_⟩
 have hv : Utf8.valid ((k : Int) + 64) = true := by unfold Utf8.valid;simp;omega
 unfold Utf8.encode
 simp only [hv,if_true]
 have : ((k : Int) + 64).toNat = k + 64 := by omega
 rw [this,if_pos (by omega)]
/-- What is drawn of one cluster. -/
theorem piece_good (s : ByteArray) (i : Nat) (hc : CB s i) (hi : i < s.size) : Good (drawB s (clAt s i)) (celAt s i) ∧ Seam (drawB s (clAt s i)) := by
 have e0 : (clAt s i).f0.toNat = i := Int.toNat_natCast i
 have e1 : (clAt s i).f1.toNat = nxt s i := Int.toNat_natCast _
 have e2 : (clAt s i).f2 = clsAt s i := rfl
 have h1 := nxt_pos s i hi
 have hle := nxt_le s i hc.1 hi
 have hsz := size_extract s i (nxt s i) hle
 have hlow := ctl_low s i
 unfold drawB
 rw [e0,e1,e2]
 have hgs : ∀ {p : ByteArray} {k : Int},OneC p k → Good p k ∧ Seam p := fun h => ⟨h.good,h.seam⟩
 by_cases hq : crlf s i
 ·have hcl : clsAt s i = 1 := by unfold clsAt;rw [if_pos hq]
  have hce : celAt s i = 0 := by unfold celAt;rw [if_pos hq]
  rw [if_pos hcl,hce]
  exact ⟨good_nil,fun h => absurd h (Nat.lt_irrefl 0)⟩
 have hcl : clsAt s i = cls (uC s i) := by unfold clsAt;rw [if_neg hq]
 have hce : celAt s i = celB (uC s i) := by unfold celAt;rw [if_neg hq]
 rw [hcl] at hlow ⊢
 rw [hce]
 have hC : celB (uC s i) = if cls (uC s i) = 1 then 0 else if cls (uC s i) = 4 ∨ (cls (uC s i) = 2 ∧ uC s i ≤ 127) then 2 else 1 := rfl
 have ho : ∀ b : UInt8,32 ≤ b.toNat → b.toNat < 127 → Good ((⟨#[94]⟩ : ByteArray) ++ ⟨#[b]⟩) 2 ∧ Seam ((⟨#[94]⟩ : ByteArray) ++ ⟨#[b]⟩) := fun b hb hb2 => by
  have h94 := one_ascii 94 (by decide) (by decide)
  have hbb := one_ascii b hb hb2
  exact ⟨good_two h94.good hbb.good hbb.seam,seam_two _ _ h94.valid h94.pos h94.seam⟩
 by_cases q1 : cls (uC s i) = 1
 ·rw [if_pos q1,hC,if_pos q1]
  exact ⟨good_nil,fun h => absurd h (Nat.lt_irrefl 0)⟩
 rw [if_neg q1]
 by_cases q2 : cls (uC s i) = 2
 ·have hlo := hlow q2
  rw [if_pos q2]
  by_cases q7 : byt s i = 127
  ·rw [if_pos q7]
   have hu : uC s i = 127 := (uC_low s i 127 (by omega)).2 q7
   rw [hC,if_neg q1,if_pos (.inr ⟨q2,by omega⟩)]
   exact ho 63 (by decide) (by decide)
  rw [if_neg q7]
  by_cases q8 : byt s i < 128
  ·have hu : uC s i = (byt s i : Nat) := (uC_low s i (byt s i) q8).2 rfl
   rw [if_pos q8,hC,if_neg q1,if_pos (.inr ⟨q2,by omega⟩)]
   obtain ⟨b,hb,he⟩ := encode_caret (byt s i) (by omega)
   rw [he]
   exact ho b (by omega) (by omega)
  ·rw [if_neg q8,hC,if_neg q1,if_neg (by
    intro h
    rcases h with h | h
    ·omega
    ·have hp := cls_good (uC s i) (by omega)
     have := (uC_low s i (uC s i).toNat (by omega))
     rcases bad_or s i with h5 | h5 | h5
     ·have hr := uC_cases s i
      omega
     ·omega
     ·omega)]
   have := one_fffd ⟨#[]⟩ valid_nil (fun j _ h => absurd h (Nat.not_lt_zero _))
   have e : (⟨#[239,191,189]⟩ : ByteArray) ++ ⟨#[]⟩ = ⟨#[239,191,189]⟩ := rfl
   rw [e] at this
   exact hgs this
 rw [if_neg q2]
 by_cases q3 : cls (uC s i) = 3
 ·rw [if_pos q3,hC,if_neg q1,if_neg (by omega)]
  have hm := marks_mid s i i hc hi hq hc.1 (Nat.le_refl _) (by omega) (fun _ => q3)
  exact hgs (one_space _ hm.1 hm.2)
 rw [if_neg q3]
 by_cases q5 : cls (uC s i) = 5
 ·rw [if_pos q5,hC,if_neg q1,if_neg (by omega)]
  have hN : uN s i = 1 := by
   rcases uC_range s i with h | h
   ·exact h.2
   ·exfalso
    have hb : ¬ (uC s i < 0 ∨ uC s i > 1114111 ∨ (55296 ≤ uC s i ∧ uC s i ≤ 57343)) := by
     have hr := uC_cases s i
     have hlt := byt_lt s i
     omega
    unfold cls at q5
    rw [if_neg hb] at q5
    split at q5
    ·omega
    split at q5
    ·omega
    split at q5
    ·omega
    split at q5 <;> omega
  have hbn := bd_next s i hc.1 hi
  rw [hN] at hbn
  have hm := marks_mid s i (i + 1) hc hi hq hbn (by omega) (by omega) (fun h => by omega)
  have e : (s.extract i (nxt s i)).extract 1 (s.extract i (nxt s i)).size = s.extract (i + 1) (nxt s i) := by
   apply ByteArray.ext
   apply Array.toList_inj.1
   rw [Lib.extract_data,Lib.extract_data,Lib.extract_data,hsz,List.drop_take,List.drop_drop,List.take_take]
   congr 1
   omega
  rw [e]
  exact hgs (one_fffd _ hm.1 hm.2)
 rw [if_neg q5]
 have hf : cls (uC s i) = 0 ∨ cls (uC s i) = 4 := by
  have : 0 ≤ cls (uC s i) ∧ cls (uC s i) ≤ 5 := by unfold cls;repeat' split <;> omega
  omega
 exact hgs (one_mid s i hc hi hq hf)
/-- What is drawn of a text. -/
theorem drawn_good (s : ByteArray) : Good (drawnS s) (sumC (clusL s)) := by
 have key : ∀ (rest pre : List S53),clusL s = pre ++ rest → Good ⟨(drawU s pre).toArray⟩ (sumC pre) → Good (drawnS s) (sumC (clusL s)) := by
  intro rest
  induction rest with
  | nil => intro pre h hg;rw [List.append_nil] at h;unfold drawnS;rw [h];exact hg
  | cons c rest ih =>
   intro pre h hg
   have hm : c ∈ clusL s := by rw [h];simp
   obtain ⟨i,hci,hi,hc⟩ := clus_mem s s.size 0 (cb_zero s) c hm
   have hp := piece_good s i hci hi
   rw [← hc] at hp
   have h2 := good_two hg hp.1 hp.2
   have e : (⟨(drawU s pre).toArray⟩ : ByteArray) ++ drawB s c = ⟨(drawU s (pre ++ [c])).toArray⟩ := by
    apply ByteArray.ext
    apply Array.toList_inj.1
    rw [data_app,drawU_snoc]
   rw [e] at h2
   have e2 : sumC (pre ++ [c]) = sumC pre + celAt s i := by rw [sumC_app,hc];simp [sumC,clAt]
   rw [← e2] at h2
   exact ih (pre ++ [c]) (by rw [h];simp) h2
 exact key (clusL s) [] rfl good_nil
end Go.Proofs.YtfhnfhgpaoddbaaDoor.Pu
end
section
namespace Go.Proofs.YtfhnfhgpaoddbaaDoor.Pure
open Go Go.RowKit Go.Proofs.YtfhnfhgpaoddbaaDoor.Mu Go.Proofs.YtfhnfhgpaoddbaaDoor.Pu Go.Proofs.YtfhnfhgpaoddbaaDoor.U Go.Proofs.YtfhnfhgpaoddbaaDoorW.PrintWords Go.Proofs.YtfhnfhgpaoddbaaDoorW.PrintLast Go.Proofs.YtfhnfhgpaoddbaaDoorW.PrintMore
set_option linter.unusedVariables false
/-- What is valid,the library finds valid. -/
theorem validGo_of (d : ByteArray) (h : Valid d) : ∀ n j,Bd d j → Lib.validGoD n (d.data.toList.drop j) = true := by
 intro n
 induction n with
 | zero => intro j _;rfl
 | succ n ih =>
  intro j hj
  show (if d.data.toList.drop j = [] then true else if (Lib.decodeL (d.data.toList.drop j)).1 = 65533 ∧ (Lib.decodeL (d.data.toList.drop j)).2 = 1 then false else Lib.validGoD n ((d.data.toList.drop j).drop (Lib.decodeL (d.data.toList.drop j)).2)) = true
  split
  ·rfl
  ·rename_i hne
   have hlt : j < d.size := by
    rcases Nat.lt_or_ge j d.size with h1 | h1
    ·exact h1
    ·exact absurd (List.drop_eq_nil_of_le (by rw [← Lib.size_eq];exact h1)) hne
   have hu := h j hj hlt
   rw [Lib.decodeL_drop]
   split
   ·rename_i hb
    unfold uC at hu
    rw [if_pos hb] at hu
    omega
   ·rw [List.drop_drop]
    exact ih (j + uN d j) (bd_next d j hj hlt)
theorem clu_rd (l : List S53) (i : Nat) (h : i < l.length) : rd_T53 l (i : Int) ∈ l := by
 unfold rd_T53
 rw [Int.toNat_natCast,List.getD_eq_getElem?_getD,List.getElem?_eq_getElem h]
 exact List.getElem_mem h
theorem shows_loop (s d : ByteArray) (h1 : s.size ≤ 1099511627776) (h2 : d.size ≤ 1099511627776) (hg : Pu.Good d (sumC (clusL s))) : ∀ n i : Nat,i + n = (clusL d).length → Ev (fun k => bodkinlaw03_ClusterShows.l0 k s d (clusL d) i) true := by
 have hll := clusL_length d
 have f1 : cluster_Cells.f s = some (sumC (clusL s)) := by unfold cluster_Cells.f;rw [if_pos h1]
 have f2 : cluster_Cells.f d = some (sumC (clusL d)) := by unfold cluster_Cells.f;rw [if_pos h2]
 intro n
 induction n with
 | zero =>
  intro i hi
  refine Ev.step (fun k => bodkinlaw03_ClusterShows.l0.eq_2 ..) (ev_neg (by omega) (ev_some f2 (ev_some f1 ?_)))
  rw [hg.sum,beq_self_eq_true]
  exact Ev.now _
 | succ n ih =>
  intro i hi
  have hn := ih (i + 1) (by omega)
  have e : wrap64 ((i : Int) + 1) = ((i + 1 : Nat) : Int) := by rw [w64 (by omega) (by omega)];rfl
  refine Ev.step (fun k => bodkinlaw03_ClusterShows.l0.eq_2 ..) (ev_pos (by omega) (ev_pos (by omega) ?_))
  rw [e]
  rcases hg.cla _ (clu_rd (clusL d) i (by omega)) with hc | hc
  ·exact ev_pos hc hn
  ·exact ev_neg (by rw [hc];decide) (ev_pos hc hn)
theorem ClusterShows (a0 : ByteArray) (u0 : a0.size ≤ 1048576) : ∃ k,bodkinlaw03_ClusterShows.f k a0 = some true := by
 apply Ev.rounds
 unfold bodkinlaw03_ClusterShows.f
 have h1 : a0.size ≤ 1099511627776 := by omega
 have hg := drawn_good a0
 have hz : (drawnS a0).size ≤ 4 * a0.size := by
  have := draw_size a0 (clusL a0) 0 (cb_zero a0) (Nat.zero_le _) (List.prefix_refl _)
  have e : (drawnS a0).size = (drawU a0 (clusL a0)).length := by unfold drawnS;rw [Lib.size_eq]
  omega
 have h2 : (drawnS a0).size ≤ 1099511627776 := by omega
 have f1 : cluster_Drawn.f a0 = some (drawnS a0) := by unfold cluster_Drawn.f;rw [if_pos h1]
 have f2 : cluster_Drawn.f (drawnS a0) = some (drawnS (drawnS a0)) := by unfold cluster_Drawn.f;rw [if_pos h2]
 have f3 : utf8_ValidString.f (drawnS a0) = some true := by
  unfold utf8_ValidString.f
  rw [if_pos (by omega)]
  exact congrArg some (validGo_of _ hg.valid _ 0 (bd_zero _))
 have f4 : cluster_List.f (drawnS a0) = some (clusL (drawnS a0)) := by unfold cluster_List.f;rw [if_pos h2]
 have e : drawnS (drawnS a0) = drawnS a0 := by
  apply ByteArray.ext
  exact Array.toList_inj.1 hg.draw
 refine Ev.bind fixed_ans (ev_pos rfl (ev_some f1 (ev_some f3 (ev_pos rfl (ev_some f2 ?_)))))
 rw [e]
 refine Ev.step (fun k => bodkinlaw03_ClusterShows.j0.eq_2 ..) (ev_neg (by simp) (ev_some f4 ?_))
 exact shows_loop a0 (drawnS a0) h1 h2 hg (clusL (drawnS a0)).length 0 (by omega)
end Go.Proofs.YtfhnfhgpaoddbaaDoor.Pure
end
section
namespace Go.Proofs.YtfhnfhgpaoddbaaDoor.Lf
open Go.Lib Go.Proofs
theorem own : ownKnob Tryd.prog.godebug = none := by kernel_rfl
theorem extra : U8Extra Tryd.prog Tryd.lays260_ren := {
 n3 := by kernel_rfl
 n4 := by kernel_rfl
 y3 := by kernel_rfl
 y4 := by kernel_rfl
 c5 := by kernel_rfl
 c119 := by kernel_rfl
 c138 := by kernel_rfl }
theorem first_eq : Rows.laid_unicode_utf8_first = Lib.firstData := by kernel_rfl
theorem accept_eq : (Rows.laid_unicode_utf8_acceptRanges : DataW Unit) = Lib.acceptData := by kernel_rfl
abbrev laid : List (String × DataW Unit) := [("unicode/utf8.acceptRanges", Rows.laid_unicode_utf8_acceptRanges), ("unicode/utf8.first", Rows.laid_unicode_utf8_first)]
/-- The two tables lie as the contracts ask. -/
theorem tabs {W : World} (h : laidMetH Tryd.prog laid W) : Lib.Utf8Tabs 0 1 W := by
  rw [MakeChecks.laidMetH_plain _ _ _ (by kernel_rfl)] at h
  have h3 := laidMet.reads h (n := "unicode/utf8.first") (d := Rows.laid_unicode_utf8_first) (List.mem_cons_of_mem _ List.mem_cons_self)
  have h4 := laidMet.reads h (n := "unicode/utf8.acceptRanges") (d := Rows.laid_unicode_utf8_acceptRanges) List.mem_cons_self
  rw [first_eq] at h3
  rw [accept_eq] at h4
  exact utf8Tabs_of_reads Tryd.lays260 extra h3 h4
/-- The world of the witness: the settled one,the tables laid. -/
noncomputable abbrev wit (os : Os) : World := World.laidAll Tryd.prog os laid
theorem wit_laid (os : Os) (args : Array Value) : laidMetH Tryd.prog laid ((wit os).forCall (fun _ _ => 0) ⟨#[],args,[]⟩).memory := by
 rw [MakeChecks.laidMetH_plain _ _ _ (by kernel_rfl)]
 exact laidMet_laidAll _ (by kernel_rfl) (by kernel_rfl)
theorem wit_shaped (os : Os) (args : Array Value) : ((wit os).forCall (fun _ _ => 0) ⟨#[],args,[]⟩).Shaped Tryd.prog :=
 World.shaped_of_ZipB (by kernel_rfl) (by kernel_rfl)
end Go.Proofs.YtfhnfhgpaoddbaaDoor.Lf
end
