/- What the law ClusterWalks reaches of this seat's own texts, merged; what nothing uses is left out. -/
import Derived.Test.YtfhnfhgpaoddbaaDoorProg
import Derived.Below
import Derived.Deep.Draws
import Derived.Deep.AppendLies
import Derived.Maps.AppendAt
import Derived.OwnWalk
import Derived.Laws.BytesArg
import Derived.Laws.MakeOwn
import Derived.Laws.OwnMore
import Derived.Deep.OwnRows
import Derived.Tactics
import Derived.Lib.ConvBytes
import Derived.Laws.Slices
import Derived.WalkKit
import Derived.KernelRfl
import Derived.RowKit3
import Derived.Deep.LoopGhost
import Derived.Deep.QuietTactic
import Derived.BigQuiet
import Derived.WideLaws
import Derived.Deep.DeepCutAuto
import Derived.Deep.CutBlock
import Derived.Deep.RegionHeld3
import Derived.Laws.Rows
import Derived.Lib.AppendStr
import Derived.ArgAppend
import Derived.Laws.IdiomCopy
import Derived.OrdersHeld
import Derived.Laws.BitsLemmas
import Derived.RowKit
import Derived.Shelf.Strings.Builder1
import Derived.Shelf.Small.Utf8
import Derived.Shelf.Strings.BuilderF
import Derived.Shelf.Strings.BuilderK
import Derived.Shelf.Utf8.AppendRunePlain
import Derived.Shelf.Utf8.RuneCount
import Derived.Shelf.Strings.Prefix
import Derived.Shelf.Unicode.Decode
import Derived.Shelf.Strings.RuneCount
import Derived.Shelf.Unicode.DecodeSlow
import Derived.Shelf.Unicode.DecodeAny
import Derived.Shelf.Strings.BuilderCap
import Derived.Lib.LaidU8
import Derived.RangeFuncNested
import Derived.RangeFuncBound
import Derived.RangeFuncCalls
import Derived.RangeFuncLeaves
import Derived.Lib.DecodeN
import Derived.Lib.MapLaws
import Derived.Laws.DeepStrings4
import Derived.Shelf.Unicode.DecodeLastEight
import Derived.Shelf.Abstract
import Derived.Shelf.RegionOpen
import Derived.OwnWalkIn
import Derived.TacticsInMore
import Derived.LoopNIn
import Derived.LoopIn
import Derived.Lib.Hide
import Derived.Sort.BigQuietIn
import Derived.Sort.CutIn
import Derived.Lib.Builder
import Derived.Lib.FrozenHead
import Derived.Test.YtfhnfhgpaoddbaaDoorRows
import Derived.ProofKit
import Derived.Deep.DeepHandedRow
import Derived.LaidMore
import Derived.Lay
import Derived.Test.YtfhnfhgpaoddbaaDoorWWords
import Derived.Test.YtfhnfhgpaoddbaaDoorWLast
import Derived.Test.YtfhnfhgpaoddbaaDoorWTab
import Derived.Test.YtfhnfhgpaoddbaaDoorWQPut
import Derived.Test.YtfhnfhgpaoddbaaDoorWApart
import Derived.Test.YtfhnfhgpaoddbaaDoorWArr
import Derived.Test.YtfhnfhgpaoddbaaDoorWZeros
import Derived.Test.YtfhnfhgpaoddbaaDoorWFoot
import Derived.Test.YtfhnfhgpaoddbaaDoorWKept
import Derived.Test.YtfhnfhgpaoddbaaDoorWShare
import Derived.Test.YtfhnfhgpaoddbaaDoorWN
import Derived.Test.YtfhnfhgpaoddbaaDoorWEqStruct
import Derived.Test.YtfhnfhgpaoddbaaDoorWRepsOne
import Derived.Test.YtfhnfhgpaoddbaaDoorWInv
import Derived.Test.YtfhnfhgpaoddbaaDoorWGuard
import Derived.Test.YtfhnfhgpaoddbaaDoorWNEv
import Derived.Test.YtfhnfhgpaoddbaaDoorWMore
import Derived.Test.YtfhnfhgpaoddbaaDoorZClusterWalks0
import Derived.Test.YtfhnfhgpaoddbaaDoorZClusterWalks3
import Derived.Test.YtfhnfhgpaoddbaaDoorZClusterWalks5
import Derived.Test.YtfhnfhgpaoddbaaDoorZClusterWalks6
section
namespace Go.Proofs.YtfhnfhgpaoddbaaDoor.U
open Go.RowKit Go.Proofs.YtfhnfhgpaoddbaaDoorW.PrintWords Go.Proofs.YtfhnfhgpaoddbaaDoorW.PrintLast Go.Proofs.YtfhnfhgpaoddbaaDoorW.PrintMore
attribute [local go_sem] max2_int min2_int max_two min_two max_three min_three max_four min_four   -- for this text's walks alone
set_option linter.unusedVariables false
set_option linter.unusedSimpArgs false
mutual
def bodkinref03_List.l0 : Nat → List (S53) → List (S30) → Int → Int → Option ((List (S53)))
 | 0,_,_,_,_ => none
 | k + 1,x3,x4,x5,x6 => if x6 < (x4.length : Int) then (if x6 > 0 then (if 0 ≤ (wrap64 (x6 - 1)) then (if (wrap64 (x6 - 1)) < (x4.length : Int) then (if 0 ≤ x6 then ((bodkinref03_joined.f k ((rd_T30 x4 (wrap64 (x6 - 1))).f0) ((rd_T30 x4 (wrap64 (x6 - 1))).f1) ((rd_T30 x4 x6).f0) ((rd_T30 x4 x6).f1)).bind fun t299 => (bodkinref03_List.j1 k x3 x4 x5 x6 t299)) else (none)) else (none)) else (none)) else (bodkinref03_List.j1 k x3 x4 x5 x6 false)) else (some x3)
def bodkinref03_List.j1 : Nat → List (S53) → List (S30) → Int → Int → Bool → Option ((List (S53)))
 | 0,_,_,_,_,_ => none
 | k + 1,x3,x4,x5,x6,x30 => if x30 = true then (if 0 ≤ (wrap64 ((x3.length : Int) - 1)) then (if (wrap64 ((x3.length : Int) - 1)) < (x3.length : Int) then (if 0 ≤ x6 then (if x6 < (x4.length : Int) then (if ((rd_T30 x4 x6).f0) = 10 then (bodkinref03_List.l0 k (x3.set ((wrap64 ((x3.length : Int) - 1)) : Int).toNat (⟨(rd_T53 x3 (wrap64 ((x3.length : Int) - 1))).f0,wrap64 (x5 + ((rd_T30 x4 x6).f1)),1,0⟩ : S53)) x4 (wrap64 (x5 + ((rd_T30 x4 x6).f1))) (wrap64 (x6 + 1))) else (bodkinref03_List.l0 k (x3.set ((wrap64 ((x3.length : Int) - 1)) : Int).toNat (⟨(rd_T53 x3 (wrap64 ((x3.length : Int) - 1))).f0,wrap64 (x5 + ((rd_T30 x4 x6).f1)),(rd_T53 x3 (wrap64 ((x3.length : Int) - 1))).f2,(rd_T53 x3 (wrap64 ((x3.length : Int) - 1))).f3⟩ : S53)) x4 (wrap64 (x5 + ((rd_T30 x4 x6).f1))) (wrap64 (x6 + 1)))) else (none)) else (none)) else (none)) else (none)) else (if 0 ≤ x6 then (if x6 < (x4.length : Int) then ((bodkinref02_Class.f k ((rd_T30 x4 x6).f0)).bind fun t310 => ((bodkinref02_Cells.f k ((rd_T30 x4 x6).f0)).bind fun t311 => (if x3.length < 4398046511104 then (bodkinref03_List.l0 k (x3 ++ [(⟨x5,wrap64 (x5 + ((rd_T30 x4 x6).f1)),t310,t311⟩ : S53)]) x4 (wrap64 (x5 + ((rd_T30 x4 x6).f1))) (wrap64 (x6 + 1))) else (none)))) else (none)) else (none))
end
def bodkinref03_List.f (k : Nat) (a0 : ByteArray) : Option ((List (S53))) := (bodkinref01_Units.f k a0).bind fun t294 => (bodkinref03_List.l0 k ([] : List (S53)) t294 0 0)
def bodkinref03_List.T7 : Bool × List (List Nat × List Nat) := (true,[([],[]),([0],[0]),([1],[1]),([2],[2]),([2],[2]),([4,2],[2,4]),([3,5,2],[2,3,5]),([6,2],[2,6]),([2],[2]),([2],[2]),([8,9,2],[2,8,9]),([10,2],[2,10]),([7,11,2,2],[2,7,11]),([2,12],[2,12])])
def bodkinref03_List.B7 : List Nat := [0,1,3,7,7,23,63,127,7,7,775,1799,4095,8191]
theorem bodkinref03_List.tab7 : rtab .any (opsOf Tryd.f40 7) = bodkinref03_List.T7 := by kernel_rfl
theorem bodkinref03_List.bits7 : waitsOk bodkinref03_List.T7.2 bodkinref03_List.B7 = true := by kernel_rfl
def bodkinref03_List.T15 : Bool × List (List Nat × List Nat) := (true,[([],[]),([],[]),([],[]),([],[]),([],[]),([3,4],[3,4]),([5],[5]),([6],[6]),([2,7],[2,7]),([],[]),([9],[9]),([],[]),([11,10],[11]),([1,8,10,12],[1,8,10,12]),([13],[13]),([0,14,12],[0,14]),([15,15,0,1,2,3,4,5,6,7,8,9,10,11,12,13,14,15],[0,15])])
def bodkinref03_List.B15 : List Nat := [0,0,0,0,0,24,56,120,252,0,512,0,3584,8190,16382,32767,65535]
theorem bodkinref03_List.tab15 : rtab .any (opsOf Tryd.f40 15) = bodkinref03_List.T15 := by kernel_rfl
theorem bodkinref03_List.bits15 : waitsOk bodkinref03_List.T15.2 bodkinref03_List.B15 = true := by kernel_rfl
set_option maxHeartbeats 8000000 in
set_option maxRecDepth 100000 in
theorem bodkinref03_List.calls (k : Nat) (a0 : ByteArray) (r : List (S53)) (w : World) (h : bodkinref03_List.f k a0 = some r) :
  Calls Tryd.prog 40 #[.string a0] w fun e w' => ∃ v0_ : Value,e = .returned (v0_) ∧ Kd.R k53 53 w' w.heap.size (fun _ => True) v0_ r ∧ Below w.heap.size w w' := by
 have hu30 := Tryd.underlying30
 have hu53 := Tryd.underlying53
 have HB := Aside0.mk (Below.refl w.heap.size w)
 have H : ((bodkinref01_Units.f k a0).bind fun t294 => (bodkinref03_List.l0 k ([] : List (S53)) t294 0 0)) = some r := h
 clear h
 replace H := Option.bind_eq_some_iff.mp H
 obtain ⟨t294,A20,H⟩ := H
 replace H : (bodkinref03_List.l0 k ([] : List (S53)) t294 0 0) = some r := H
 have A2 := Aside0.mk A20
 clear A20
 have H' := Aside0.mk H
 clear H
 go_enter Tryd.func40,Tryd.ntmps40
 go_wp2_with (first | ((with_reducible refine gate_callee (f := 28) rfl ?_);refine goesL_ (some 10) rfl rfl Tryd.func28 (by kernel_rfl) rfl #[.string a0] rfl (by (try simp only [List.map_toArray,List.map_cons,List.map_nil]);first | done | rfl | (simp only [List.length_drop,List.length_take];rfl)) ?_;(with_reducible refine (bodkinref01_Units.calls k a0 t294 _ A2.out).mono ?_);rintro e w3 ⟨v295,rfl,ho0,hb⟩;refine ⟨_,rfl,?_⟩;have n0_ := Aside0.mk (Kd.R_lower ho0 (below_size (by repeat (first | (with_reducible first | exact HB.out | apply below_alloc | apply pw_below_drewN | apply below_drew1) | exact HB.out))));have n1_ := Aside0.mk (below_step (by repeat (first | (with_reducible first | exact HB.out | apply below_alloc | apply pw_below_drewN | apply below_drew1) | exact HB.out)) hb);clear HB;have HO296 := n0_;have HB := n1_;clear n0_ n1_;(try clear hb);(try clear hb2);(try clear hk);(try clear hi);(try clear ho0)))
 go_loopg [3,5,6] k (fun kq v3 v5 v6 w' => ∃ (x3_1 : List (S53)) (x5_1 : Int) (x6_1 : Int),v5 = .int .i64 x5_1 ∧ v6 = .int .i64 x6_1 ∧ Aside0 (bodkinref03_List.l0 kq x3_1 t294 x5_1 x6_1 = some r) ∧ Aside0 (kq ≤ k) ∧ Aside0 (Kd.R k53 53 w' w.heap.size (fun _ => True) v3 x3_1) ∧ Aside0 (Kd.R k30 30 w' w.heap.size (fun _ => True) v295 t294) ∧ Aside0 (Below w.heap.size w w'))
 case atStart => exact ⟨(([] : List (S53))),(0),(0),(by first | rfl | (simp;done) | (simp [*];done)),(by first | rfl | (simp;done) | (simp [*];done)),H',⟨Nat.le_refl _⟩,⟨by first | exact Kd.R_nil _ _ _ _ _ | exact Kd.N_nil _ _ _ _ _ | exact Kd.V_nil _ _ _ _ _ | exact Kd.Q_nil _ _ _ _ _ | exact Kd.S_nil _ _ _ _ _⟩,⟨by (with_reducible repeat (first | apply Kd.R_alloc | apply Kd.R_drewN | apply Kd.R_drew));exact HO296.out⟩,⟨by repeat (first | (with_reducible first | exact HB.out | apply below_alloc | apply pw_below_drewN | apply below_drew1) | exact HB.out)⟩⟩
 case round =>
  clear H'
  try clear c2
  try clear p2
  obtain ⟨x3_1,x5_1,x6_1,rfl,rfl,HA,HK1,HO_3,HO_4,HB⟩ := hrel
  cases gk with
  | zero => exact absurd HA.out (by simp [bodkinref03_List.l0])
  | succ k1 =>
   have H := HA.out
   clear HA
   simp only [bodkinref03_List.l0] at H
   by_cases c4 : x6_1 < (t294.length : Int)
   ·rw [if_pos c4] at H
    have c4b0 : decide (x6_1 < (t294.length : Int)) = true := decide_eq_true c4
    clear c4
    have HC5 := Aside0.mk H
    clear H
    obtain ⟨Ao6,co6,eo6⟩ := Kd.R_slice HO_4.out
    subst eo6
    go_upto_region 7 with (fail)
    go_cut [30] (fun v30 wc => ∃ (kq : Nat) (x30_4 : Bool),v30 = .bool x30_4 ∧ Aside0 (bodkinref03_List.j1 kq x3_1 t294 x5_1 x6_1 x30_4 = some r) ∧ Aside0 (kq ≤ k1) ∧ Aside0 (Kd.R k53 53 wc w.heap.size (fun _ => True) u3 x3_1) ∧ Aside0 (Kd.R k30 30 wc w.heap.size (fun _ => True) (.slice Ao6 t294.length co6) t294) ∧ Aside0 (Below w.heap.size w wc))
    case first =>
     have H := HC5.out
     clear HC5
     by_cases c7 : x6_1 > 0
     ·rw [if_pos c7] at H
      have c7b0 : decide (0 < x6_1) = true := decide_eq_true c7
      clear c7
      (first | rw [c7b0] | (simp only [i64_w,i32_w];rw [c7b0]) | skip)
      obtain ⟨ji8,hji8⟩ : ∃ j_ : Int,(wrap64 (x6_1 - 1)) = j_ := ⟨_,rfl⟩
      replace H : (if 0 ≤ (ji8) then (if (ji8) < (t294.length : Int) then (if 0 ≤ x6_1 then ((bodkinref03_joined.f k1 ((rd_T30 t294 (ji8)).f0) ((rd_T30 t294 (ji8)).f1) ((rd_T30 t294 x6_1).f0) ((rd_T30 t294 x6_1).f1)).bind fun t299 => (bodkinref03_List.j1 k1 x3_1 t294 x5_1 x6_1 t299)) else (none)) else (none)) else (none)) = some r := by first | (rw [hji8] at H;exact H) | (simp only [hji8] at H ⊢;exact H)
      have hji8w : (IntKind.i64.wrap (x6_1 - 1)) = ji8 := (i64_w _).trans hji8
      by_cases c9 : 0 ≤ (ji8)
      ·rw [if_pos c9] at H
       have c9b0 : decide (0 ≤ (ji8)) = true := decide_eq_true c9
       clear c9
       by_cases c10 : (ji8) < (t294.length : Int)
       ·rw [if_pos c10] at H
        have c10b0 : decide ((ji8) < (t294.length : Int)) = true := decide_eq_true c10
        clear c10
        by_cases c11 : 0 ≤ x6_1
        ·rw [if_pos c11] at H
         have c11b0 : decide (0 ≤ x6_1) = true := decide_eq_true c11
         clear c11
         replace H := Option.bind_eq_some_iff.mp H
         obtain ⟨t299,A120,H⟩ := H
         replace H : (bodkinref03_List.j1 k1 x3_1 t294 x5_1 x6_1 t299) = some r := H
         have A12 := Aside0.mk A120
         clear A120
         have H' := Aside0.mk H
         clear H
         try go_wp2
         have n0_ := Aside0.mk (Kd.R_drew HO_3.out)
         have n1_ := Aside0.mk (Kd.R_drew HO_4.out)
         have n2_ := Aside0.mk (below_drew1 HB.out)
         clear HO_3
         clear HO_4
         clear HB
         have HO_3 := n0_
         have HO_4 := n1_
         have HB := n2_
         clear n0_ n1_ n2_
         have p297 : 0 ≤ ((ji8) : Int) := of_decide_eq_true (by first | (with_reducible assumption) | assumption)
         have q297 : (ji8) < (t294.length : Int) := of_decide_eq_true (by first | (with_reducible assumption) | assumption)
         obtain ⟨ad297,e297,hx297_0,hx297_1⟩ := at_T30 (Kd.R_reads' HO_4.out).2.2 (ji8) p297 q297
         cases e297
         replace p297 := eq_true p297
         replace q297 := eq_true q297
         have p298 : 0 ≤ (x6_1 : Int) := of_decide_eq_true (by first | (with_reducible assumption) | assumption)
         have q298 : x6_1 < (t294.length : Int) := of_decide_eq_true (by first | (with_reducible assumption) | assumption)
         obtain ⟨ad298,e298,hx298_0,hx298_1⟩ := at_T30 (Kd.R_reads' HO_4.out).2.2 x6_1 p298 q298
         obtain rfl : ad297 = ad298 := (by injection e298)
         replace p298 := eq_true p298
         replace q298 := eq_true q298
         refine start_ (n := 14) (S := fun w' => w'.cell? (ad297.add (((ji8)).toNat * 2)) = some (.int .i32 ((rd_T30 t294 (ji8)).f0)) ∧ w'.cell? ⟨(ad297.add (((ji8)).toNat * 2)).block,(ad297.add (((ji8)).toNat * 2)).off + 1,none⟩ = some (.int .i64 ((rd_T30 t294 (ji8)).f1)) ∧ w'.cell? (ad297.add ((x6_1).toNat * 2)) = some (.int .i32 ((rd_T30 t294 x6_1).f0)) ∧ w'.cell? ⟨(ad297.add ((x6_1).toNat * 2)).block,(ad297.add ((x6_1).toNat * 2)).off + 1,none⟩ = some (.int .i64 ((rd_T30 t294 x6_1).f1))) (ds := []) #[false,false,false,false,false,false,false,false,false,false,false,false,false,false] (by kernel_rfl) rfl rfl ⟨hx297_0,hx297_1,hx298_0,hx298_1⟩ (fun hHeld => ?_);refine with_tabW bodkinref03_List.tab7 bodkinref03_List.bits7 (fun HT_ HW_ => ?_)
         generalize wr.drew = w13 at HO_3 HO_4 HB hx297_0 hx297_1 hx298_0 hx298_1 hHeld ⊢
         refine pure_ (i := 0) (N := some 17) (v := ?_) (a' := ?_) #[true,false,false,false,false,false,false,false,false,false,false,false,false,false] rfl rfl (any_of HT_.out (by kernel_rfl)) (fun _ _ _ h => h) (Or.inl ⟨by rfl,?_⟩) ?_ ?_
         rotate_left
         ·intro w'
          go_simp
          with_reducible rfl
         rotate_left
         ·simp only [Act.put,List.setIfInBounds_toArray,List.set_cons_zero,List.set_cons_succ,i64_w,i32_w]
          rfl
         refine pure_ (i := 1) (N := some 18) (v := ?_) (a' := ?_) #[true,true,false,false,false,false,false,false,false,false,false,false,false,false] rfl rfl (any_of HT_.out (by kernel_rfl)) (fun _ _ _ h => h) (Or.inl ⟨by rfl,?_⟩) ?_ ?_
         rotate_left
         ·intro w'
          go_simp
          with_reducible rfl
         rotate_left
         ·simp only [Act.put,List.setIfInBounds_toArray,List.set_cons_zero,List.set_cons_succ,i64_w,i32_w]
          rfl
         refine pure_ (i := 2) (N := some 19) (v := ?_) (a' := ?_) #[true,true,true,false,false,false,false,false,false,false,false,false,false,false] rfl rfl (any_of HT_.out (by kernel_rfl)) (fun _ _ _ h => h) (Or.inl ⟨by rfl,?_⟩) ?_ ?_
         rotate_left
         ·intro w'
          go_simp
          with_reducible rfl
         rotate_left
         ·simp only [Act.put,List.setIfInBounds_toArray,List.set_cons_zero,List.set_cons_succ,i64_w,i32_w]
          rfl
         refine pure_ (i := 3) (N := some 20) (v := ?_) (a' := ?_) #[true,true,true,true,false,false,false,false,false,false,false,false,false,false] rfl rfl (any_of HT_.out (by kernel_rfl)) (fun _ _ _ h => h) (Or.inl ⟨by rfl,?_⟩) ?_ ?_
         rotate_left
         ·intro w'
          go_simp
          with_reducible rfl
         rotate_left
         ·simp only [Act.put,List.setIfInBounds_toArray,List.set_cons_zero,List.set_cons_succ,i64_w,i32_w]
          rfl
         refine pure_ (i := 4) (N := some 21) (v := ?_) (a' := ?_) #[true,true,true,true,true,false,false,false,false,false,false,false,false,false] rfl rfl (any_of HT_.out (by kernel_rfl)) (fun _ _ _ h => h) (Or.inl ⟨by rfl,?_⟩) ?_ ?_
         rotate_left
         ·intro w'
          go_simp
          with_reducible rfl
         rotate_left
         ·simp only [Act.put,List.setIfInBounds_toArray,List.set_cons_zero,List.set_cons_succ,i64_w,i32_w]
          rfl
         refine pure_ (i := 5) (N := some 22) (v := ?_) (a' := ?_) #[true,true,true,true,true,true,false,false,false,false,false,false,false,false] rfl rfl (any_of HT_.out (by kernel_rfl)) (fun _ _ _ h => h) (Or.inl ⟨by rfl,?_⟩) ?_ ?_
         rotate_left
         ·intro w'
          go_simp
          with_reducible rfl
         rotate_left
         ·simp only [Act.put,List.setIfInBounds_toArray,List.set_cons_zero,List.set_cons_succ,i64_w,i32_w]
          rfl
         refine pure_ (i := 6) (N := some 23) (v := ?_) (a' := ?_) #[true,true,true,true,true,true,true,false,false,false,false,false,false,false] rfl rfl (any_of HT_.out (by kernel_rfl)) (fun _ _ _ h => h) (Or.inl ⟨by rfl,?_⟩) ?_ ?_
         rotate_left
         ·intro w'
          go_simp
          with_reducible rfl
         rotate_left
         ·simp only [Act.put,List.setIfInBounds_toArray,List.set_cons_zero,List.set_cons_succ,i64_w,i32_w]
          rfl
         refine pure_ (i := 8) (N := some 25) (v := ?_) (a' := ?_) #[true,true,true,true,true,true,true,false,true,false,false,false,false,false] rfl rfl (any_of HT_.out (by kernel_rfl)) (fun _ _ _ h => h) (Or.inl ⟨by rfl,?_⟩) ?_ ?_
         rotate_left
         ·intro w'
          go_simp
          with_reducible rfl
         rotate_left
         ·simp only [Act.put,List.setIfInBounds_toArray,List.set_cons_zero,List.set_cons_succ,i64_w,i32_w]
          rfl
         refine pure_ (i := 9) (N := some 26) (v := ?_) (a' := ?_) #[true,true,true,true,true,true,true,false,true,true,false,false,false,false] rfl rfl (any_of HT_.out (by kernel_rfl)) (fun _ _ _ h => h) (Or.inl ⟨by rfl,?_⟩) ?_ ?_
         rotate_left
         ·intro w'
          go_simp
          with_reducible rfl
         rotate_left
         ·simp only [Act.put,List.setIfInBounds_toArray,List.set_cons_zero,List.set_cons_succ,i64_w,i32_w]
          rfl
         refine pure_ (i := 10) (N := some 27) (v := ?_) (a' := ?_) #[true,true,true,true,true,true,true,false,true,true,true,false,false,false] rfl rfl (any_of HT_.out (by kernel_rfl)) (fun _ _ _ h => h) (Or.inl ⟨by rfl,?_⟩) ?_ ?_
         rotate_left
         ·intro w'
          go_simp
          with_reducible rfl
         rotate_left
         ·simp only [Act.put,List.setIfInBounds_toArray,List.set_cons_zero,List.set_cons_succ,i64_w,i32_w]
          rfl
         refine take_ (i := 7) (N := some 24) (v := ?_) (a' := ?_) #[true,true,true,true,true,true,true,true,true,true,true,false,false,false] rfl rfl (take_ofW HT_.out HW_.out (by kernel_rfl)) (fun _ _ _ h => h) (Or.inl ⟨by rfl,?_⟩) hHeld ?_ ?_
         rotate_left
         ·rintro w' ⟨s0,s1,s2,s3⟩
          go_simp
          with_reducible rfl
         rotate_left
         ·simp only [Act.put,List.setIfInBounds_toArray,List.set_cons_zero,List.set_cons_succ,i64_w,i32_w]
          rfl
         refine take_ (i := 11) (N := some 28) (v := ?_) (a' := ?_) #[true,true,true,true,true,true,true,true,true,true,true,true,false,false] rfl rfl (take_ofW HT_.out HW_.out (by kernel_rfl)) (fun _ _ _ h => h) (Or.inl ⟨by rfl,?_⟩) hHeld ?_ ?_
         rotate_left
         ·rintro w' ⟨s0,s1,s2,s3⟩
          go_simp
          with_reducible rfl
         rotate_left
         ·simp only [Act.put,List.setIfInBounds_toArray,List.set_cons_zero,List.set_cons_succ,i64_w,i32_w]
          rfl
         refine one_ (i := 12) (N := some 29) #[true,true,true,true,true,true,true,true,true,true,true,true,true,false] rfl rfl (one_of HT_.out (by kernel_rfl)) (by decide) (fun K hK => ?_)
         refine goes_ Tryd.func80 (by kernel_rfl) rfl #[.agg #[.int .i32 ((rd_T30 t294 (ji8)).f0),.int .i64 ((rd_T30 t294 (ji8)).f1)],.agg #[.int .i32 ((rd_T30 t294 x6_1).f0),.int .i64 ((rd_T30 t294 x6_1).f1)]] (by rfl) rfl rfl (by (try simp only [List.map_toArray,List.map_cons,List.map_nil]);first | done | (simp only [hji8];rfl) | rfl | (simp only [List.length_drop,List.length_take];rfl)) ?_
         with_reducible refine (bodkinref03_joined.calls k1 ((rd_T30 t294 (ji8)).f0) ((rd_T30 t294 (ji8)).f1) ((rd_T30 t294 x6_1).f0) ((rd_T30 t294 x6_1).f1) t299 _ A12.out).mono ?_
         rintro e w14 ⟨rfl,hb⟩
         have HS0_ := (hb.cell (World.block_lt_of_cell? _ _ (hHeld.1))).trans (hHeld.1)
         have HS1_ := (hb.cell (World.block_lt_of_cell? _ _ (hHeld.2.1))).trans (hHeld.2.1)
         have HS2_ := (hb.cell (World.block_lt_of_cell? _ _ (hHeld.2.2.1))).trans (hHeld.2.2.1)
         have HS3_ := (hb.cell (World.block_lt_of_cell? _ _ (hHeld.2.2.2))).trans (hHeld.2.2.2)
         refine ⟨_,rfl,?_⟩
         have n0_ := Aside0.mk (Kd.R_below (by (with_reducible repeat (first | apply Kd.R_alloc | apply Kd.R_drewN | apply Kd.R_drew));exact HO_3.out) hb)
         have n1_ := Aside0.mk (Kd.R_below (by (with_reducible repeat (first | apply Kd.R_alloc | apply Kd.R_drewN | apply Kd.R_drew));exact HO_4.out) hb)
         have n2_ := Aside0.mk (below_step (by repeat (first | (with_reducible first | exact HB.out | apply below_alloc | apply pw_below_drewN | apply below_drew1) | exact HB.out)) hb)
         clear HO_3
         clear HO_4
         clear HB
         have HO_3 := n0_
         have HO_4 := n1_
         have HB := n2_
         clear n0_ n1_ n2_
         (try clear hb)
         (try clear hb2)
         (try clear hk)
         (try clear hi)
         refine hK.out _ _ ⟨HS0_,HS1_,HS2_,HS3_⟩ (fun hHeld => ?_)
         clear hK K
         refine norm_ (a' := ?_) ?_ ?_
         rotate_left
         ·show Act.put _ (some 29) _ = _
          simp only [Act.put,List.setIfInBounds_toArray,List.set_cons_zero,List.set_cons_succ,i64_w,i32_w]
          rfl
         refine pure_ (i := 13) (N := some 30) (v := ?_) (a' := ?_) #[true,true,true,true,true,true,true,true,true,true,true,true,true,true] rfl rfl (any_of HT_.out (by kernel_rfl)) (fun _ _ _ h => h) (Or.inl ⟨by rfl,?_⟩) ?_ ?_
         rotate_left
         ·intro w'
          go_simp
          with_reducible rfl
         rotate_left
         ·simp only [Act.put,List.setIfInBounds_toArray,List.set_cons_zero,List.set_cons_succ,i64_w,i32_w]
          rfl
         refine done_ (done_of HT_.out (by kernel_rfl)) ?_
         try go_wp2
         go_meet
         case rel => exact ⟨_,(t299),(by first | rfl | (simp;done) | (simp [*];done)),H',⟨by have := HK1.out;first | omega | exact Nat.le_refl _⟩,⟨by (with_reducible repeat (first | apply Kd.R_alloc | apply Kd.R_drewN | apply Kd.R_drew));exact HO_3.out⟩,⟨by (with_reducible repeat (first | apply Kd.R_alloc | apply Kd.R_drewN | apply Kd.R_drew));exact HO_4.out⟩,⟨by repeat (first | (with_reducible first | exact HB.out | apply below_alloc | apply pw_below_drewN | apply below_drew1) | exact HB.out)⟩⟩
        ·rw [if_neg c11] at H
         exact absurd H (by simp)
       ·rw [if_neg c10] at H
        exact absurd H (by simp)
      ·rw [if_neg c9] at H
       exact absurd H (by simp)
     ·rw [if_neg c7] at H
      have c7b0 : decide (0 < x6_1) = false := decide_eq_false c7
      clear c7
      (first | rw [c7b0] | (simp only [i64_w,i32_w];rw [c7b0]) | skip)
      have H' := Aside0.mk H
      clear H
      try go_wp2
      have n0_ := Aside0.mk (Kd.R_drew HO_3.out)
      have n1_ := Aside0.mk (Kd.R_drew HO_4.out)
      have n2_ := Aside0.mk (below_drew1 HB.out)
      clear HO_3
      clear HO_4
      clear HB
      have HO_3 := n0_
      have HO_4 := n1_
      have HB := n2_
      clear n0_ n1_ n2_
      refine start_ (n := 14) (S := fun w' => True) (ds := []) #[false,false,false,false,false,false,false,false,false,false,false,false,false,false] (by kernel_rfl) rfl rfl trivial (fun hHeld => ?_);refine with_tabW bodkinref03_List.tab7 bodkinref03_List.bits7 (fun HT_ HW_ => ?_)
      generalize wr.drew = w15 at HO_3 HO_4 HB hHeld ⊢
      refine pure_ (i := 0) (N := some 17) (v := ?_) (a' := ?_) #[true,false,false,false,false,false,false,false,false,false,false,false,false,false] rfl rfl (any_of HT_.out (by kernel_rfl)) (fun _ _ _ h => h) (Or.inl ⟨by rfl,?_⟩) ?_ ?_
      rotate_left
      ·intro w'
       go_simp
       with_reducible rfl
      rotate_left
      ·simp only [Act.put,List.setIfInBounds_toArray,List.set_cons_zero,List.set_cons_succ,i64_w,i32_w]
       rfl
      refine pure_ (i := 1) (N := some 18) (v := ?_) (a' := ?_) #[true,true,false,false,false,false,false,false,false,false,false,false,false,false] rfl rfl (any_of HT_.out (by kernel_rfl)) (fun _ _ _ h => h) (Or.inl ⟨by rfl,?_⟩) ?_ ?_
      rotate_left
      ·intro w'
       go_simp
       with_reducible rfl
      rotate_left
      ·simp only [Act.put,List.setIfInBounds_toArray,List.set_cons_zero,List.set_cons_succ,i64_w,i32_w]
       rfl
      refine pure_ (i := 2) (N := some 19) (v := ?_) (a' := ?_) #[true,true,true,false,false,false,false,false,false,false,false,false,false,false] rfl rfl (any_of HT_.out (by kernel_rfl)) (fun _ _ _ h => h) (Or.inl ⟨by rfl,?_⟩) ?_ ?_
      rotate_left
      ·intro w'
       go_simp
       with_reducible rfl
      rotate_left
      ·simp only [Act.put,List.setIfInBounds_toArray,List.set_cons_zero,List.set_cons_succ,i64_w,i32_w]
       rfl
      refine pure_ (i := 3) (N := some 20) (v := undef) (a' := ?_) #[true,true,true,true,false,false,false,false,false,false,false,false,false,false] rfl rfl (any_of HT_.out (by kernel_rfl)) (fun _ _ _ h => h) (Or.inr ⟨by rfl,rfl⟩) ?_ ?_
      rotate_left
      ·simp only [Act.put,List.setIfInBounds_toArray,List.set_cons_zero,List.set_cons_succ,i64_w,i32_w]
       rfl
      refine pure_ (i := 4) (N := some 21) (v := undef) (a' := ?_) #[true,true,true,true,true,false,false,false,false,false,false,false,false,false] rfl rfl (any_of HT_.out (by kernel_rfl)) (fun _ _ _ h => h) (Or.inr ⟨by rfl,rfl⟩) ?_ ?_
      rotate_left
      ·simp only [Act.put,List.setIfInBounds_toArray,List.set_cons_zero,List.set_cons_succ,i64_w,i32_w]
       rfl
      refine pure_ (i := 5) (N := some 22) (v := undef) (a' := ?_) #[true,true,true,true,true,true,false,false,false,false,false,false,false,false] rfl rfl (any_of HT_.out (by kernel_rfl)) (fun _ _ _ h => h) (Or.inr ⟨by rfl,rfl⟩) ?_ ?_
      rotate_left
      ·simp only [Act.put,List.setIfInBounds_toArray,List.set_cons_zero,List.set_cons_succ,i64_w,i32_w]
       rfl
      refine pure_ (i := 6) (N := some 23) (v := undef) (a' := ?_) #[true,true,true,true,true,true,true,false,false,false,false,false,false,false] rfl rfl (any_of HT_.out (by kernel_rfl)) (fun _ _ _ h => h) (Or.inr ⟨by rfl,rfl⟩) ?_ ?_
      rotate_left
      ·simp only [Act.put,List.setIfInBounds_toArray,List.set_cons_zero,List.set_cons_succ,i64_w,i32_w]
       rfl
      refine pure_ (i := 7) (N := some 24) (v := undef) (a' := ?_) #[true,true,true,true,true,true,true,true,false,false,false,false,false,false] rfl rfl (any_of HT_.out (by kernel_rfl)) (fun _ _ _ h => h) (Or.inr ⟨by rfl,rfl⟩) ?_ ?_
      rotate_left
      ·simp only [Act.put,List.setIfInBounds_toArray,List.set_cons_zero,List.set_cons_succ,i64_w,i32_w]
       rfl
      refine pure_ (i := 8) (N := some 25) (v := undef) (a' := ?_) #[true,true,true,true,true,true,true,true,true,false,false,false,false,false] rfl rfl (any_of HT_.out (by kernel_rfl)) (fun _ _ _ h => h) (Or.inr ⟨by rfl,rfl⟩) ?_ ?_
      rotate_left
      ·simp only [Act.put,List.setIfInBounds_toArray,List.set_cons_zero,List.set_cons_succ,i64_w,i32_w]
       rfl
      refine pure_ (i := 9) (N := some 26) (v := undef) (a' := ?_) #[true,true,true,true,true,true,true,true,true,true,false,false,false,false] rfl rfl (any_of HT_.out (by kernel_rfl)) (fun _ _ _ h => h) (Or.inr ⟨by rfl,rfl⟩) ?_ ?_
      rotate_left
      ·simp only [Act.put,List.setIfInBounds_toArray,List.set_cons_zero,List.set_cons_succ,i64_w,i32_w]
       rfl
      refine pure_ (i := 10) (N := some 27) (v := undef) (a' := ?_) #[true,true,true,true,true,true,true,true,true,true,true,false,false,false] rfl rfl (any_of HT_.out (by kernel_rfl)) (fun _ _ _ h => h) (Or.inr ⟨by rfl,rfl⟩) ?_ ?_
      rotate_left
      ·simp only [Act.put,List.setIfInBounds_toArray,List.set_cons_zero,List.set_cons_succ,i64_w,i32_w]
       rfl
      refine pure_ (i := 11) (N := some 28) (v := undef) (a' := ?_) #[true,true,true,true,true,true,true,true,true,true,true,true,false,false] rfl rfl (any_of HT_.out (by kernel_rfl)) (fun _ _ _ h => h) (Or.inr ⟨by rfl,rfl⟩) ?_ ?_
      rotate_left
      ·simp only [Act.put,List.setIfInBounds_toArray,List.set_cons_zero,List.set_cons_succ,i64_w,i32_w]
       rfl
      refine pure_ (i := 12) (N := some 29) (v := undef) (a' := ?_) #[true,true,true,true,true,true,true,true,true,true,true,true,true,false] rfl rfl (any_of HT_.out (by kernel_rfl)) (fun _ _ _ h => h) (Or.inr ⟨by rfl,rfl⟩) ?_ ?_
      rotate_left
      ·simp only [Act.put,List.setIfInBounds_toArray,List.set_cons_zero,List.set_cons_succ,i64_w,i32_w]
       rfl
      refine pure_ (i := 13) (N := some 30) (v := ?_) (a' := ?_) #[true,true,true,true,true,true,true,true,true,true,true,true,true,true] rfl rfl (any_of HT_.out (by kernel_rfl)) (fun _ _ _ h => h) (Or.inl ⟨by rfl,?_⟩) ?_ ?_
      rotate_left
      ·intro w'
       go_simp
       with_reducible rfl
      rotate_left
      ·simp only [Act.put,List.setIfInBounds_toArray,List.set_cons_zero,List.set_cons_succ,i64_w,i32_w]
       rfl
      refine done_ (done_of HT_.out (by kernel_rfl)) ?_
      try go_wp2
      go_meet
      case rel => exact ⟨_,(false),(by first | rfl | (simp;done) | (simp [*];done)),H',⟨by have := HK1.out;first | omega | exact Nat.le_refl _⟩,⟨by (with_reducible repeat (first | apply Kd.R_alloc | apply Kd.R_drewN | apply Kd.R_drew));exact HO_3.out⟩,⟨by (with_reducible repeat (first | apply Kd.R_alloc | apply Kd.R_drewN | apply Kd.R_drew));exact HO_4.out⟩,⟨by repeat (first | (with_reducible first | exact HB.out | apply below_alloc | apply pw_below_drewN | apply below_drew1) | exact HB.out)⟩⟩
    case rest =>
     clear HC5
     try clear c1
     try clear c2
     try clear p2
     try clear q2
     try clear hx2
     try clear c4
     try clear c4b0
     try clear p6
     try clear c7
     try clear c7b0
     try clear c8
     try clear c9
     try clear c9b0
     try clear c10
     try clear c10b0
     try clear c11
     try clear c11b0
     try clear hx297_0
     try clear hx297_1
     try clear hx298_0
     try clear hx298_1
     try clear p2
     try clear p297
     try clear p298
     try clear q297
     try clear q298
     obtain ⟨kq,x30_4,rfl,HA,HJ4,HO_3,HO_4,HB⟩ := hcut
     cases kq with
     | zero => exact absurd HA.out (by simp [bodkinref03_List.j1])
     | succ kj4 =>
      have H := HA.out
      clear HA
      simp only [bodkinref03_List.j1] at H
      by_cases c16 : x30_4 = true
      ·subst c16
       have H1 : (if 0 ≤ (wrap64 ((x3_1.length : Int) - 1)) then (if (wrap64 ((x3_1.length : Int) - 1)) < (x3_1.length : Int) then (if 0 ≤ x6_1 then (if x6_1 < (t294.length : Int) then (if ((rd_T30 t294 x6_1).f0) = 10 then (bodkinref03_List.l0 kj4 (x3_1.set ((wrap64 ((x3_1.length : Int) - 1)) : Int).toNat (⟨(rd_T53 x3_1 (wrap64 ((x3_1.length : Int) - 1))).f0,wrap64 (x5_1 + ((rd_T30 t294 x6_1).f1)),1,0⟩ : S53)) t294 (wrap64 (x5_1 + ((rd_T30 t294 x6_1).f1))) (wrap64 (x6_1 + 1))) else (bodkinref03_List.l0 kj4 (x3_1.set ((wrap64 ((x3_1.length : Int) - 1)) : Int).toNat (⟨(rd_T53 x3_1 (wrap64 ((x3_1.length : Int) - 1))).f0,wrap64 (x5_1 + ((rd_T30 t294 x6_1).f1)),(rd_T53 x3_1 (wrap64 ((x3_1.length : Int) - 1))).f2,(rd_T53 x3_1 (wrap64 ((x3_1.length : Int) - 1))).f3⟩ : S53)) t294 (wrap64 (x5_1 + ((rd_T30 t294 x6_1).f1))) (wrap64 (x6_1 + 1)))) else (none)) else (none)) else (none)) else (none)) = some r := by rw [if_pos rfl] at H;exact H
       clear H
       have H := H1
       clear H1
       obtain ⟨ji17,hji17⟩ : ∃ j_ : Int,(wrap64 ((x3_1.length : Int) - 1)) = j_ := ⟨_,rfl⟩
       replace H : (if 0 ≤ (ji17) then (if (ji17) < (x3_1.length : Int) then (if 0 ≤ x6_1 then (if x6_1 < (t294.length : Int) then (if ((rd_T30 t294 x6_1).f0) = 10 then (bodkinref03_List.l0 kj4 (x3_1.set ((ji17) : Int).toNat (⟨(rd_T53 x3_1 (ji17)).f0,wrap64 (x5_1 + ((rd_T30 t294 x6_1).f1)),1,0⟩ : S53)) t294 (wrap64 (x5_1 + ((rd_T30 t294 x6_1).f1))) (wrap64 (x6_1 + 1))) else (bodkinref03_List.l0 kj4 (x3_1.set ((ji17) : Int).toNat (⟨(rd_T53 x3_1 (ji17)).f0,wrap64 (x5_1 + ((rd_T30 t294 x6_1).f1)),(rd_T53 x3_1 (ji17)).f2,(rd_T53 x3_1 (ji17)).f3⟩ : S53)) t294 (wrap64 (x5_1 + ((rd_T30 t294 x6_1).f1))) (wrap64 (x6_1 + 1)))) else (none)) else (none)) else (none)) else (none)) = some r := by first | (rw [hji17] at H;exact H) | (simp only [hji17] at H ⊢;exact H)
       have hji17w : (IntKind.i64.wrap ((x3_1.length : Int) - 1)) = ji17 := (i64_w _).trans hji17
       by_cases c18 : 0 ≤ (ji17)
       ·rw [if_pos c18] at H
        have c18b0 : decide (0 ≤ (ji17)) = true := decide_eq_true c18
        clear c18
        by_cases c19 : (ji17) < (x3_1.length : Int)
        ·rw [if_pos c19] at H
         have c19b0 : decide ((ji17) < (x3_1.length : Int)) = true := decide_eq_true c19
         clear c19
         by_cases c20 : 0 ≤ x6_1
         ·rw [if_pos c20] at H
          have c20b0 : decide (0 ≤ x6_1) = true := decide_eq_true c20
          clear c20
          by_cases c21 : x6_1 < (t294.length : Int)
          ·rw [if_pos c21] at H
           have c21b0 : decide (x6_1 < (t294.length : Int)) = true := decide_eq_true c21
           clear c21
           by_cases c22 : ((rd_T30 t294 x6_1).f0) = 10
           ·rw [if_pos c22] at H
            have c22b0 : (((rd_T30 t294 x6_1).f0) == 10) = true := beq_iff_eq.mpr c22
            have c22b1 : (((rd_T30 t294 x6_1).f0) != 10) = false := bne_eq_false_iff_eq.mpr c22
            clear c22
            obtain ⟨y304,hy304⟩ : ∃ y_ : List (S53),y_ = (x3_1.set ((ji17) : Int).toNat (⟨(rd_T53 x3_1 (ji17)).f0,wrap64 (x5_1 + ((rd_T30 t294 x6_1).f1)),1,0⟩ : S53)) := ⟨_,rfl⟩
            replace H : (bodkinref03_List.l0 kj4 y304 t294 (wrap64 (x5_1 + ((rd_T30 t294 x6_1).f1))) (wrap64 (x6_1 + 1))) = some r := by first | (rw [hy304];with_reducible exact H) | (have H2_ := (Option.bind_some _ _).symm.trans H;rw [hy304];with_reducible exact H2_) | (have H2_ := (Option.bind_some _ _).symm.trans H;with_reducible exact H2_) | with_reducible exact H | (rw [hy304];exact H) | exact H
            have Ny304 := Aside0.mk hy304
            clear hy304
            have H' := Aside0.mk H
            clear H
            obtain ⟨Ao24,co24,eo24⟩ := Kd.R_slice HO_3.out
            subst eo24
            have p300 : 0 ≤ ((ji17) : Int) := of_decide_eq_true (by first | (with_reducible assumption) | assumption)
            have q300 : (ji17) < (x3_1.length : Int) := of_decide_eq_true (by first | (with_reducible assumption) | assumption)
            obtain ⟨ad300,e300,hx300_0,hx300_1,hx300_2,hx300_3⟩ := at_T53 (Kd.R_reads' HO_3.out).2.2 (ji17) p300 q300
            cases e300
            replace p300 := eq_true p300
            replace q300 := eq_true q300
            go_wp2_with (first | ((with_reducible refine gate_dst (N := 7) rfl ?_);refine box_event ?hg (N := 7) ?hd (cs := #[.int .i64 0,.int .i64 0,.int .i64 0,.int .i64 0]) (t := 53) ?hr ?_;(case hd => rfl);(case hg => rfl);(case hr => first | (go_simp;done) | (go_simp;rfl));intro gb301 hg w25 hbox hb;have n0_ := Aside0.mk (Kd.R_below (Kd.R_elderB (by (with_reducible repeat (first | apply Kd.R_alloc | apply Kd.R_drewN | apply Kd.R_drew));exact HO_3.out) gb301 (Nat.le_of_eq hg.symm)) hb);have n1_ := Aside0.mk (Kd.R_below (by (with_reducible repeat (first | apply Kd.R_alloc | apply Kd.R_drewN | apply Kd.R_drew));exact HO_4.out) hb);have n2_ := Aside0.mk (below_step (by repeat (first | (with_reducible first | exact HB.out | apply below_alloc | apply pw_below_drewN | apply below_drew1) | exact HB.out)) hb);have n3_ := Aside0.mk (hbox);have n4_ := Aside0.mk ((by rw [hg];exact (below_size (by repeat (first | (with_reducible first | exact HB.out | apply below_alloc | apply pw_below_drewN | apply below_drew1) | exact HB.out))) : w.heap.size ≤ gb301));have n5_ := Aside0.mk ((by rw [hg];exact (below_size (by repeat (first | (with_reducible first | exact HB.out | apply below_alloc | apply pw_below_drewN | apply below_drew1) | exact HB.out))) : w.heap.size ≤ gb301));clear HO_3;clear HO_4;clear HB;have HO_3 := n0_;have HO_4 := n1_;have HB := n2_;have BK301 := n3_;have GW301 := n4_;have GE301 := n5_;clear n0_ n1_ n2_ n3_ n4_ n5_;clear hb hbox hg;have hcz26_0 : w25.cell? ⟨gb301,0,none⟩ = some (.int .i64 0) := (blk_cell BK301.out 0).trans rfl;have hcz26_1 : w25.cell? ⟨gb301,1,none⟩ = some (.int .i64 0) := (blk_cell BK301.out 1).trans rfl;have hcz26_2 : w25.cell? ⟨gb301,2,none⟩ = some (.int .i64 0) := (blk_cell BK301.out 2).trans rfl;have hcz26_3 : w25.cell? ⟨gb301,3,none⟩ = some (.int .i64 0) := (blk_cell BK301.out 3).trans rfl;have hfz26_0 := blk_frozen BK301.out 0;have hfz26_1 := blk_frozen BK301.out 1;have hfz26_2 := blk_frozen BK301.out 2;have hfz26_3 := blk_frozen BK301.out 3) | ((with_reducible refine gate_store (t := 53) (p := 7) rfl ?_);refine store_event (t := 53) (p := 7) (v := ?vo_w27) (w1 := ((((w25.setCell ⟨gb301,0,none⟩ (.int .i64 ((rd_T53 x3_1 (ji17)).f0))).setCell ⟨gb301,1,none⟩ (.int .i64 ((rd_T53 x3_1 (ji17)).f1))).setCell ⟨gb301,2,none⟩ (.int .i64 ((rd_T53 x3_1 (ji17)).f2))).setCell ⟨gb301,3,none⟩ (.int .i64 ((rd_T53 x3_1 (ji17)).f3)))) ?hg ?ho ?hn ?hr ?_;(case ho => rfl);(case hg => rfl);(case hn => rfl);(case hr => first | (go_simp;done) | (go_simp;rfl));intro w27 hw;have n0_ : Aside0 (Kd.R k53 53 w27 w.heap.size (fun k_ => k_ ≠ gb301) (.slice (some ad300) x3_1.length co24) x3_1) := ⟨(by rw [hw];exact (by (with_reducible repeat (first | apply Kd.R_alloc | apply Kd.R_drewN | apply Kd.R_drew));exact Kd.R_mono (Kd.R_far (p := ⟨gb301,3,none⟩) (Kd.R_far (p := ⟨gb301,2,none⟩) (Kd.R_far (p := ⟨gb301,1,none⟩) (Kd.R_far (p := ⟨gb301,0,none⟩) (Kd.R_mono HO_3.out (fun k_ hk => (⟨hk,hk.2⟩ : _ ∧ k_ ≠ gb301))) (fun _ hk => hk.2) (.int .i64 ((rd_T53 x3_1 (ji17)).f0))) (fun _ hk => hk.2) (.int .i64 ((rd_T53 x3_1 (ji17)).f1))) (fun _ hk => hk.2) (.int .i64 ((rd_T53 x3_1 (ji17)).f2))) (fun _ hk => hk.2) (.int .i64 ((rd_T53 x3_1 (ji17)).f3))) (fun _ hk => hk.1.2)))⟩;have n1_ : Aside0 (Kd.R k30 30 w27 w.heap.size (fun _ => True) (.slice Ao6 t294.length co6) t294) := ⟨(by rw [hw];exact (by (with_reducible repeat (first | apply Kd.R_alloc | apply Kd.R_drewN | apply Kd.R_drew));exact Kd.R_mono (Kd.R_far (p := ⟨gb301,3,none⟩) (Kd.R_far (p := ⟨gb301,2,none⟩) (Kd.R_far (p := ⟨gb301,1,none⟩) (Kd.R_far (p := ⟨gb301,0,none⟩) (Kd.R_types HO_4.out BK301.out (by decide)) (fun _ hk => hk.2) (.int .i64 ((rd_T53 x3_1 (ji17)).f0))) (fun _ hk => hk.2) (.int .i64 ((rd_T53 x3_1 (ji17)).f1))) (fun _ hk => hk.2) (.int .i64 ((rd_T53 x3_1 (ji17)).f2))) (fun _ hk => hk.2) (.int .i64 ((rd_T53 x3_1 (ji17)).f3))) (fun _ hk => trivial)))⟩;have n2_ : Aside0 (w27.heap[gb301]? = some (.cells #[.int .i64 ((rd_T53 x3_1 (ji17)).f0),.int .i64 ((rd_T53 x3_1 (ji17)).f1),.int .i64 ((rd_T53 x3_1 (ji17)).f2),.int .i64 ((rd_T53 x3_1 (ji17)).f3)] 53 (0,0))) := ⟨(by rw [hw];exact (by (with_reducible repeat (first | refine blk_drewN ?_ _ | refine blk_drew ?_ | refine blk_alloc ?_ _));refine blk_put (cs := #[.int .i64 ((rd_T53 x3_1 (ji17)).f0),.int .i64 ((rd_T53 x3_1 (ji17)).f1),.int .i64 ((rd_T53 x3_1 (ji17)).f2),.int .i64 0]) ?_ 3 _ rfl;(with_reducible repeat (first | refine blk_drewN ?_ _ | refine blk_drew ?_ | refine blk_alloc ?_ _));refine blk_put (cs := #[.int .i64 ((rd_T53 x3_1 (ji17)).f0),.int .i64 ((rd_T53 x3_1 (ji17)).f1),.int .i64 0,.int .i64 0]) ?_ 2 _ rfl;(with_reducible repeat (first | refine blk_drewN ?_ _ | refine blk_drew ?_ | refine blk_alloc ?_ _));refine blk_put (cs := #[.int .i64 ((rd_T53 x3_1 (ji17)).f0),.int .i64 0,.int .i64 0,.int .i64 0]) ?_ 1 _ rfl;(with_reducible repeat (first | refine blk_drewN ?_ _ | refine blk_drew ?_ | refine blk_alloc ?_ _));refine blk_put (cs := #[.int .i64 0,.int .i64 0,.int .i64 0,.int .i64 0]) ?_ 0 _ rfl;(with_reducible repeat (first | refine blk_drewN ?_ _ | refine blk_drew ?_ | refine blk_alloc ?_ _));exact BK301.out))⟩;have n3_ : Aside0 (Below w.heap.size w w27) := ⟨(by rw [hw];exact (by repeat (first | (with_reducible first | exact HB.out | apply below_alloc | apply pw_below_drewN | apply below_drew1 | refine below_set ?_ GE301.out) | exact HB.out)))⟩;clear hw;clear HO_3;clear HO_4;clear BK301;clear HB;have HO_3 := n0_;have HO_4 := n1_;have BK301 := n2_;have HB := n3_;clear n0_ n1_ n2_ n3_;have p302 : 0 ≤ (x6_1 : Int) := of_decide_eq_true (by first | (with_reducible assumption) | assumption);have q302 : x6_1 < (t294.length : Int) := of_decide_eq_true (by first | (with_reducible assumption) | assumption);obtain ⟨ad302,e302,hx302_0,hx302_1⟩ := at_T30 (Kd.R_reads' HO_4.out).2.2 x6_1 p302 q302;cases e302;replace p302 := eq_true p302;replace q302 := eq_true q302;have hcz28_0 : w27.cell? ⟨gb301,0,none⟩ = some (.int .i64 ((rd_T53 x3_1 (ji17)).f0)) := (blk_cell BK301.out 0).trans rfl;have hcz28_1 : w27.cell? ⟨gb301,1,none⟩ = some (.int .i64 ((rd_T53 x3_1 (ji17)).f1)) := (blk_cell BK301.out 1).trans rfl;have hcz28_2 : w27.cell? ⟨gb301,2,none⟩ = some (.int .i64 ((rd_T53 x3_1 (ji17)).f2)) := (blk_cell BK301.out 2).trans rfl;have hcz28_3 : w27.cell? ⟨gb301,3,none⟩ = some (.int .i64 ((rd_T53 x3_1 (ji17)).f3)) := (blk_cell BK301.out 3).trans rfl;have hfz28_0 := blk_frozen BK301.out 0;have hfz28_1 := blk_frozen BK301.out 1;have hfz28_2 := blk_frozen BK301.out 2;have hfz28_3 := blk_frozen BK301.out 3) | ((with_reducible refine gate_store (t := 3) (p := 44) rfl ?_);refine store_event (t := 3) (p := 44) (v := ?vo_w29) (w1 := (w27.setCell ⟨gb301,1,none⟩ (.int .i64 (wrap64 (x5_1 + ((rd_T30 t294 x6_1).f1)))))) ?hg ?ho ?hn ?hr ?_;(case ho => rfl);(case hg => rfl);(case hn => rfl);(case hr => first | (go_simp;done) | (go_simp;rfl));intro w29 hw;have n0_ : Aside0 (Kd.R k53 53 w29 w.heap.size (fun k_ => k_ ≠ gb301) (.slice (some ad300) x3_1.length co24) x3_1) := ⟨(by rw [hw];exact (by (with_reducible repeat (first | apply Kd.R_alloc | apply Kd.R_drewN | apply Kd.R_drew));exact Kd.R_mono (Kd.R_far (p := ⟨gb301,1,none⟩) (Kd.R_mono HO_3.out (fun k_ hk => (⟨hk,hk⟩ : _ ∧ k_ ≠ gb301))) (fun _ hk => hk.2) (.int .i64 (wrap64 (x5_1 + ((rd_T30 t294 x6_1).f1))))) (fun _ hk => hk.1)))⟩;have n1_ : Aside0 (Kd.R k30 30 w29 w.heap.size (fun _ => True) (.slice (some ad302) t294.length co6) t294) := ⟨(by rw [hw];exact (by (with_reducible repeat (first | apply Kd.R_alloc | apply Kd.R_drewN | apply Kd.R_drew));exact Kd.R_mono (Kd.R_far (p := ⟨gb301,1,none⟩) (Kd.R_types HO_4.out BK301.out (by decide)) (fun _ hk => hk.2) (.int .i64 (wrap64 (x5_1 + ((rd_T30 t294 x6_1).f1))))) (fun _ hk => trivial)))⟩;have n2_ : Aside0 (w29.heap[gb301]? = some (.cells #[.int .i64 ((rd_T53 x3_1 (ji17)).f0),.int .i64 (wrap64 (x5_1 + ((rd_T30 t294 x6_1).f1))),.int .i64 ((rd_T53 x3_1 (ji17)).f2),.int .i64 ((rd_T53 x3_1 (ji17)).f3)] 53 (0,0))) := ⟨(by rw [hw];exact (by (with_reducible repeat (first | refine blk_drewN ?_ _ | refine blk_drew ?_ | refine blk_alloc ?_ _));refine blk_put (cs := #[.int .i64 ((rd_T53 x3_1 (ji17)).f0),.int .i64 ((rd_T53 x3_1 (ji17)).f1),.int .i64 ((rd_T53 x3_1 (ji17)).f2),.int .i64 ((rd_T53 x3_1 (ji17)).f3)]) ?_ 1 _ rfl;(with_reducible repeat (first | refine blk_drewN ?_ _ | refine blk_drew ?_ | refine blk_alloc ?_ _));exact BK301.out))⟩;have n3_ : Aside0 (Below w.heap.size w w29) := ⟨(by rw [hw];exact (by repeat (first | (with_reducible first | exact HB.out | apply below_alloc | apply pw_below_drewN | apply below_drew1 | refine below_set ?_ GE301.out) | exact HB.out)))⟩;clear hw;clear HO_3;clear HO_4;clear BK301;clear HB;have HO_3 := n0_;have HO_4 := n1_;have BK301 := n2_;have HB := n3_;clear n0_ n1_ n2_ n3_;have p303 : 0 ≤ (x6_1 : Int) := of_decide_eq_true (by first | (with_reducible assumption) | assumption);have q303 : x6_1 < (t294.length : Int) := of_decide_eq_true (by first | (with_reducible assumption) | assumption);obtain ⟨ad303,e303,hx303_0,hx303_1⟩ := at_T30 (Kd.R_reads' HO_4.out).2.2 x6_1 p303 q303;obtain rfl : ad302 = ad303 := (by injection e303);replace p303 := eq_true p303;replace q303 := eq_true q303;have hcz30_0 : w29.cell? ⟨gb301,0,none⟩ = some (.int .i64 ((rd_T53 x3_1 (ji17)).f0)) := (blk_cell BK301.out 0).trans rfl;have hcz30_1 : w29.cell? ⟨gb301,1,none⟩ = some (.int .i64 (wrap64 (x5_1 + ((rd_T30 t294 x6_1).f1)))) := (blk_cell BK301.out 1).trans rfl;have hcz30_2 : w29.cell? ⟨gb301,2,none⟩ = some (.int .i64 ((rd_T53 x3_1 (ji17)).f2)) := (blk_cell BK301.out 2).trans rfl;have hcz30_3 : w29.cell? ⟨gb301,3,none⟩ = some (.int .i64 ((rd_T53 x3_1 (ji17)).f3)) := (blk_cell BK301.out 3).trans rfl;have hfz30_0 := blk_frozen BK301.out 0;have hfz30_1 := blk_frozen BK301.out 1;have hfz30_2 := blk_frozen BK301.out 2;have hfz30_3 := blk_frozen BK301.out 3) | ((with_reducible refine gate_store (t := 51) (p := 51) rfl ?_);refine store_event (t := 51) (p := 51) (v := ?vo_w31) (w1 := (w29.setCell ⟨gb301,2,none⟩ (.int .i64 1))) ?hg ?ho ?hn ?hr ?_;(case ho => rfl);(case hg => rfl);(case hn => rfl);(case hr => first | (go_simp;done) | (go_simp;rfl));intro w31 hw;have n0_ : Aside0 (Kd.R k53 53 w31 w.heap.size (fun k_ => k_ ≠ gb301) (.slice (some ad300) x3_1.length co24) x3_1) := ⟨(by rw [hw];exact (by (with_reducible repeat (first | apply Kd.R_alloc | apply Kd.R_drewN | apply Kd.R_drew));exact Kd.R_mono (Kd.R_far (p := ⟨gb301,2,none⟩) (Kd.R_mono HO_3.out (fun k_ hk => (⟨hk,hk⟩ : _ ∧ k_ ≠ gb301))) (fun _ hk => hk.2) (.int .i64 1)) (fun _ hk => hk.1)))⟩;have n1_ : Aside0 (Kd.R k30 30 w31 w.heap.size (fun _ => True) (.slice (some ad302) t294.length co6) t294) := ⟨(by rw [hw];exact (by (with_reducible repeat (first | apply Kd.R_alloc | apply Kd.R_drewN | apply Kd.R_drew));exact Kd.R_mono (Kd.R_far (p := ⟨gb301,2,none⟩) (Kd.R_types HO_4.out BK301.out (by decide)) (fun _ hk => hk.2) (.int .i64 1)) (fun _ hk => trivial)))⟩;have n2_ : Aside0 (w31.heap[gb301]? = some (.cells #[.int .i64 ((rd_T53 x3_1 (ji17)).f0),.int .i64 (wrap64 (x5_1 + ((rd_T30 t294 x6_1).f1))),.int .i64 1,.int .i64 ((rd_T53 x3_1 (ji17)).f3)] 53 (0,0))) := ⟨(by rw [hw];exact (by (with_reducible repeat (first | refine blk_drewN ?_ _ | refine blk_drew ?_ | refine blk_alloc ?_ _));refine blk_put (cs := #[.int .i64 ((rd_T53 x3_1 (ji17)).f0),.int .i64 (wrap64 (x5_1 + ((rd_T30 t294 x6_1).f1))),.int .i64 ((rd_T53 x3_1 (ji17)).f2),.int .i64 ((rd_T53 x3_1 (ji17)).f3)]) ?_ 2 _ rfl;(with_reducible repeat (first | refine blk_drewN ?_ _ | refine blk_drew ?_ | refine blk_alloc ?_ _));exact BK301.out))⟩;have n3_ : Aside0 (Below w.heap.size w w31) := ⟨(by rw [hw];exact (by repeat (first | (with_reducible first | exact HB.out | apply below_alloc | apply pw_below_drewN | apply below_drew1 | refine below_set ?_ GE301.out) | exact HB.out)))⟩;clear hw;clear HO_3;clear HO_4;clear BK301;clear HB;have HO_3 := n0_;have HO_4 := n1_;have BK301 := n2_;have HB := n3_;clear n0_ n1_ n2_ n3_;have hcz32_0 : w31.cell? ⟨gb301,0,none⟩ = some (.int .i64 ((rd_T53 x3_1 (ji17)).f0)) := (blk_cell BK301.out 0).trans rfl;have hcz32_1 : w31.cell? ⟨gb301,1,none⟩ = some (.int .i64 (wrap64 (x5_1 + ((rd_T30 t294 x6_1).f1)))) := (blk_cell BK301.out 1).trans rfl;have hcz32_2 : w31.cell? ⟨gb301,2,none⟩ = some (.int .i64 1) := (blk_cell BK301.out 2).trans rfl;have hcz32_3 : w31.cell? ⟨gb301,3,none⟩ = some (.int .i64 ((rd_T53 x3_1 (ji17)).f3)) := (blk_cell BK301.out 3).trans rfl;have hfz32_0 := blk_frozen BK301.out 0;have hfz32_1 := blk_frozen BK301.out 1;have hfz32_2 := blk_frozen BK301.out 2;have hfz32_3 := blk_frozen BK301.out 3) | ((with_reducible refine gate_store (t := 3) (p := 52) rfl ?_);refine store_event (t := 3) (p := 52) (v := ?vo_w33) (w1 := (w31.setCell ⟨gb301,3,none⟩ (.int .i64 0))) ?hg ?ho ?hn ?hr ?_;(case ho => rfl);(case hg => rfl);(case hn => rfl);(case hr => first | (go_simp;done) | (go_simp;rfl));intro w33 hw;have n0_ : Aside0 (Kd.R k53 53 w33 w.heap.size (fun k_ => k_ ≠ gb301) (.slice (some ad300) x3_1.length co24) x3_1) := ⟨(by rw [hw];exact (by (with_reducible repeat (first | apply Kd.R_alloc | apply Kd.R_drewN | apply Kd.R_drew));exact Kd.R_mono (Kd.R_far (p := ⟨gb301,3,none⟩) (Kd.R_mono HO_3.out (fun k_ hk => (⟨hk,hk⟩ : _ ∧ k_ ≠ gb301))) (fun _ hk => hk.2) (.int .i64 0)) (fun _ hk => hk.1)))⟩;have n1_ : Aside0 (Kd.R k30 30 w33 w.heap.size (fun _ => True) (.slice (some ad302) t294.length co6) t294) := ⟨(by rw [hw];exact (by (with_reducible repeat (first | apply Kd.R_alloc | apply Kd.R_drewN | apply Kd.R_drew));exact Kd.R_mono (Kd.R_far (p := ⟨gb301,3,none⟩) (Kd.R_types HO_4.out BK301.out (by decide)) (fun _ hk => hk.2) (.int .i64 0)) (fun _ hk => trivial)))⟩;have n2_ : Aside0 (w33.heap[gb301]? = some (.cells #[.int .i64 ((rd_T53 x3_1 (ji17)).f0),.int .i64 (wrap64 (x5_1 + ((rd_T30 t294 x6_1).f1))),.int .i64 1,.int .i64 0] 53 (0,0))) := ⟨(by rw [hw];exact (by (with_reducible repeat (first | refine blk_drewN ?_ _ | refine blk_drew ?_ | refine blk_alloc ?_ _));refine blk_put (cs := #[.int .i64 ((rd_T53 x3_1 (ji17)).f0),.int .i64 (wrap64 (x5_1 + ((rd_T30 t294 x6_1).f1))),.int .i64 1,.int .i64 ((rd_T53 x3_1 (ji17)).f3)]) ?_ 3 _ rfl;(with_reducible repeat (first | refine blk_drewN ?_ _ | refine blk_drew ?_ | refine blk_alloc ?_ _));exact BK301.out))⟩;have n3_ : Aside0 (Below w.heap.size w w33) := ⟨(by rw [hw];exact (by repeat (first | (with_reducible first | exact HB.out | apply below_alloc | apply pw_below_drewN | apply below_drew1 | refine below_set ?_ GE301.out) | exact HB.out)))⟩;clear hw;clear HO_3;clear HO_4;clear BK301;clear HB;have HO_3 := n0_;have HO_4 := n1_;have BK301 := n2_;have HB := n3_;clear n0_ n1_ n2_ n3_;have hcz34_0 : w33.cell? ⟨gb301,0,none⟩ = some (.int .i64 ((rd_T53 x3_1 (ji17)).f0)) := (blk_cell BK301.out 0).trans rfl;have hcz34_1 : w33.cell? ⟨gb301,1,none⟩ = some (.int .i64 (wrap64 (x5_1 + ((rd_T30 t294 x6_1).f1)))) := (blk_cell BK301.out 1).trans rfl;have hcz34_2 : w33.cell? ⟨gb301,2,none⟩ = some (.int .i64 1) := (blk_cell BK301.out 2).trans rfl;have hcz34_3 : w33.cell? ⟨gb301,3,none⟩ = some (.int .i64 0) := (blk_cell BK301.out 3).trans rfl;have hfz34_0 := blk_frozen BK301.out 0;have hfz34_1 := blk_frozen BK301.out 1;have hfz34_2 := blk_frozen BK301.out 2;have hfz34_3 := blk_frozen BK301.out 3;have p23 : 0 ≤ ((ji17) : Int) := of_decide_eq_true (by first | (with_reducible assumption) | assumption);have q23 : ((ji17) : Int) < ((x3_1.length : Int) : Int) := of_decide_eq_true (by first | (with_reducible assumption) | assumption);obtain ⟨go23,co23,eo23,gb23,gl23,cl23,HG23⟩ := Kd.R_form HO_3.out (by omega);(first | cases eo23 | (injection eo23 with ea_ en_ ec_;(first | subst ea_ | (injection ea_ with ea_;subst ea_));subst ec_;clear en_));have GB23 := Aside0.mk gb23;have GG23 := Aside0.mk HG23;clear gb23 gl23 HG23;(first | simp only [add_plain] at hx300_0 | skip);(first | simp only [add_plain] at hx300_1 | skip);(first | simp only [add_plain] at hx300_2 | skip);(first | simp only [add_plain] at hx300_3 | skip);obtain ⟨ce23,hcl23,hM23,hcc23,hfr23⟩ := Kd.R_elem HO_3.out z53 ((ji17) : Int) p23 q23;obtain rfl := k53_openM hM23;have hx23_0 : w33.cell? ⟨go23,((ji17) : Int).toNat * 4,none⟩ = some (.int .i64 ((rd_T53 x3_1 (ji17)).f0)) := hcc23 0 _ rfl;have hx23_1 : w33.cell? ⟨go23,((ji17) : Int).toNat * 4 + 1,none⟩ = some (.int .i64 ((rd_T53 x3_1 (ji17)).f1)) := hcc23 1 _ rfl;have hx23_2 : w33.cell? ⟨go23,((ji17) : Int).toNat * 4 + 2,none⟩ = some (.int .i64 ((rd_T53 x3_1 (ji17)).f2)) := hcc23 2 _ rfl;have hx23_3 : w33.cell? ⟨go23,((ji17) : Int).toNat * 4 + 3,none⟩ = some (.int .i64 ((rd_T53 x3_1 (ji17)).f3)) := hcc23 3 _ rfl;have hf23_0 : w33.frozen? ⟨go23,((ji17) : Int).toNat * 4,none⟩ = false := hfr23 0;have hf23_1 : w33.frozen? ⟨go23,((ji17) : Int).toNat * 4 + 1,none⟩ = false := hfr23 1;have hf23_2 : w33.frozen? ⟨go23,((ji17) : Int).toNat * 4 + 2,none⟩ = false := hfr23 2;have hf23_3 : w33.frozen? ⟨go23,((ji17) : Int).toNat * 4 + 3,none⟩ = false := hfr23 3;clear hcl23 hcc23 hfr23 hM23;replace p23 := eq_true p23;replace q23 := eq_true q23;have HX35 := Aside0.mk (show Kd.R k53 53 w33 w.heap.size (fun k_ => k_ ≠ gb301) (.slice (some ⟨go23,0,none⟩) x3_1.length co24) x3_1 from (by (with_reducible repeat (first | apply Kd.R_alloc | apply Kd.R_drewN | apply Kd.R_drew));exact HO_3.out));obtain ⟨ce35,hcl35,hM35,hcc35,hfr35⟩ := Kd.R_elem HX35.out z53 ((ji17) : Int) (of_decide_eq_true (by first | (with_reducible assumption) | assumption)) (by have h_ : ((ji17) : Int) < ((x3_1.length : Int) : Int) := of_decide_eq_true (by first | (with_reducible assumption) | assumption);first | exact h_ | (have e_ := (Kd.R_reads' HO_3.out).1;omega) | simpa using h_);obtain rfl := k53_openM hM35;have HP35 := Kd.R_seg HX35.out ((ji17) : Int) (of_decide_eq_true (by first | (with_reducible assumption) | assumption)) (by have h_ : ((ji17) : Int) < ((x3_1.length : Int) : Int) := of_decide_eq_true (by first | (with_reducible assumption) | assumption);first | exact h_ | (have e_ := (Kd.R_reads' HO_3.out).1;omega) | simpa using h_) (seg := [.int .i64 ((rd_T53 x3_1 (ji17)).f0),.int .i64 (wrap64 (x5_1 + ((rd_T30 t294 x6_1).f1))),.int .i64 1,.int .i64 0]) (j := 0) hcl35 hcc35 (show 4 ≤ 4 from by decide) (x' := (⟨(rd_T53 x3_1 (ji17)).f0,wrap64 (x5_1 + ((rd_T30 t294 x6_1).f1)),1,0⟩ : S53)) (k53_mkM _ _ _ (⟨(rd_T53 x3_1 (ji17)).f0,wrap64 (x5_1 + ((rd_T30 t294 x6_1).f1)),1,0⟩ : S53) ) (fun _ hk => hk);have hx35_0 := hcc35 0 _ rfl;(try simp only [show (k53).sz = 4 from rfl,Nat.mul_one,Nat.add_zero] at hx35_0);have hf35_0 := hfr35 0;(try simp only [show (k53).sz = 4 from rfl,Nat.mul_one,Nat.add_zero] at hf35_0);have hx35_1 := hcc35 1 _ rfl;(try simp only [show (k53).sz = 4 from rfl,Nat.mul_one,Nat.add_zero] at hx35_1);have hf35_1 := hfr35 1;(try simp only [show (k53).sz = 4 from rfl,Nat.mul_one,Nat.add_zero] at hf35_1);have hx35_2 := hcc35 2 _ rfl;(try simp only [show (k53).sz = 4 from rfl,Nat.mul_one,Nat.add_zero] at hx35_2);have hf35_2 := hfr35 2;(try simp only [show (k53).sz = 4 from rfl,Nat.mul_one,Nat.add_zero] at hf35_2);have hx35_3 := hcc35 3 _ rfl;(try simp only [show (k53).sz = 4 from rfl,Nat.mul_one,Nat.add_zero] at hx35_3);have hf35_3 := hfr35 3;(try simp only [show (k53).sz = 4 from rfl,Nat.mul_one,Nat.add_zero] at hf35_3);clear hcl35 hcc35 hfr35 hM35) | ((with_reducible refine gate_store (t := 53) (p := 58) rfl ?_);refine store_event (t := 53) (p := 58) (v := ?vo_w36) (w1 := ((((w33.setCell ⟨go23,((ji17) : Int).toNat * 4,none⟩ (.int .i64 ((rd_T53 x3_1 (ji17)).f0))).setCell ⟨go23,((ji17) : Int).toNat * 4 + 1,none⟩ (.int .i64 (wrap64 (x5_1 + ((rd_T30 t294 x6_1).f1))))).setCell ⟨go23,((ji17) : Int).toNat * 4 + 2,none⟩ (.int .i64 1)).setCell ⟨go23,((ji17) : Int).toNat * 4 + 3,none⟩ (.int .i64 0))) ?hg ?ho ?hn ?hr ?_;(case ho => rfl);(case hg => rfl);(case hn => rfl);(case hr => first | (go_simp;done) | (go_simp;rfl));intro w36 hw;have hg : w33.grownBy w36 (some go23) := (by rw [hw];exact HP35.2);have hp_ : Kd.R k53 53 w36 w.heap.size (fun k_ => k_ ≠ gb301) (.slice (some ⟨go23,0,none⟩) x3_1.length co24) y304 := (by rw [hw,Ny304.out];exact HP35.1);clear HP35;have n0_ := Aside0.mk (hp_);have n1_ := Aside0.mk (Kd.R_over' (v := (.slice (some ⟨go23,0,none⟩) x3_1.length co24)) (by (with_reducible repeat (first | apply Kd.R_alloc | apply Kd.R_drewN | apply Kd.R_drew));exact HO_4.out) (Kd.R_typed HO_3.out) (by decide) hg);have n2_ := Aside0.mk (blk_grown (g := gb301) (o := .cells #[.int .i64 ((rd_T53 x3_1 (ji17)).f0),.int .i64 (wrap64 (x5_1 + ((rd_T30 t294 x6_1).f1))),.int .i64 1,.int .i64 0] 53 (0,0)) (by (with_reducible repeat (first | refine blk_drewN ?_ _ | refine blk_drew ?_ | refine blk_alloc ?_ _));exact BK301.out) hg (Kd.R_away HO_3.out (fun _ hk => hk)));have n3_ := Aside0.mk ((by rw [hw];exact below_set (below_set (below_set (below_set (HB.out) GB23.out) GB23.out) GB23.out) GB23.out : Below w.heap.size w w36));clear HO_3;clear HO_4;clear BK301;clear HB;have HO_3 := n0_;have HO_4 := n1_;have BK301 := n2_;have HB := n3_;clear n0_ n1_ n2_ n3_;clear hg hw hp_;have p305 : 0 ≤ (x6_1 : Int) := of_decide_eq_true (by first | (with_reducible assumption) | assumption);have q305 : x6_1 < (t294.length : Int) := of_decide_eq_true (by first | (with_reducible assumption) | assumption);obtain ⟨ad305,e305,hx305_0,hx305_1⟩ := at_T30 (Kd.R_reads' HO_4.out).2.2 x6_1 p305 q305;obtain rfl : ad302 = ad305 := (by injection e305);replace p305 := eq_true p305;replace q305 := eq_true q305))
            go_roundg kj4
            case measure => have := HK1.out;have := HJ4.out;omega
            case rel => exact ⟨(y304),(wrap64 (x5_1 + ((rd_T30 t294 x6_1).f1))),(wrap64 (x6_1 + 1)),(by first | rfl | (simp;done) | (simp [*];done)),(by first | rfl | (simp;done) | (simp [*];done)),H',⟨by have := HK1.out;have := HJ4.out;omega⟩,⟨by (with_reducible repeat (first | apply Kd.R_alloc | apply Kd.R_drewN | apply Kd.R_drew));exact Kd.R_mono HO_3.out (fun _ hk => trivial)⟩,⟨by (with_reducible repeat (first | apply Kd.R_alloc | apply Kd.R_drewN | apply Kd.R_drew));exact HO_4.out⟩,⟨by repeat (first | (with_reducible first | exact HB.out | apply below_alloc | apply pw_below_drewN | apply below_drew1 | refine below_set ?_ GE301.out) | exact HB.out)⟩⟩
           ·rw [if_neg c22] at H
            have c22b0 : (((rd_T30 t294 x6_1).f0) == 10) = false := beq_eq_false_iff_ne.mpr c22
            have c22b1 : (((rd_T30 t294 x6_1).f0) != 10) = true := bne_iff_ne.mpr c22
            obtain ⟨y306,hy306⟩ : ∃ y_ : List (S53),y_ = (x3_1.set ((ji17) : Int).toNat (⟨(rd_T53 x3_1 (ji17)).f0,wrap64 (x5_1 + ((rd_T30 t294 x6_1).f1)),(rd_T53 x3_1 (ji17)).f2,(rd_T53 x3_1 (ji17)).f3⟩ : S53)) := ⟨_,rfl⟩
            replace H : (bodkinref03_List.l0 kj4 y306 t294 (wrap64 (x5_1 + ((rd_T30 t294 x6_1).f1))) (wrap64 (x6_1 + 1))) = some r := by first | (rw [hy306];with_reducible exact H) | (have H2_ := (Option.bind_some _ _).symm.trans H;rw [hy306];with_reducible exact H2_) | (have H2_ := (Option.bind_some _ _).symm.trans H;with_reducible exact H2_) | with_reducible exact H | (rw [hy306];exact H) | exact H
            have Ny306 := Aside0.mk hy306
            clear hy306
            have H' := Aside0.mk H
            clear H
            obtain ⟨Ao38,co38,eo38⟩ := Kd.R_slice HO_3.out
            subst eo38
            have p300 : 0 ≤ ((ji17) : Int) := of_decide_eq_true (by first | (with_reducible assumption) | assumption)
            have q300 : (ji17) < (x3_1.length : Int) := of_decide_eq_true (by first | (with_reducible assumption) | assumption)
            obtain ⟨ad300,e300,hx300_0,hx300_1,hx300_2,hx300_3⟩ := at_T53 (Kd.R_reads' HO_3.out).2.2 (ji17) p300 q300
            cases e300
            replace p300 := eq_true p300
            replace q300 := eq_true q300
            go_wp2_with (first | ((with_reducible refine gate_dst (N := 7) rfl ?_);refine box_event ?hg (N := 7) ?hd (cs := #[.int .i64 0,.int .i64 0,.int .i64 0,.int .i64 0]) (t := 53) ?hr ?_;(case hd => rfl);(case hg => rfl);(case hr => first | (go_simp;done) | (go_simp;rfl));intro gb301 hg w39 hbox hb;have n0_ := Aside0.mk (Kd.R_below (Kd.R_elderB (by (with_reducible repeat (first | apply Kd.R_alloc | apply Kd.R_drewN | apply Kd.R_drew));exact HO_3.out) gb301 (Nat.le_of_eq hg.symm)) hb);have n1_ := Aside0.mk (Kd.R_below (by (with_reducible repeat (first | apply Kd.R_alloc | apply Kd.R_drewN | apply Kd.R_drew));exact HO_4.out) hb);have n2_ := Aside0.mk (below_step (by repeat (first | (with_reducible first | exact HB.out | apply below_alloc | apply pw_below_drewN | apply below_drew1) | exact HB.out)) hb);have n3_ := Aside0.mk (hbox);have n4_ := Aside0.mk ((by rw [hg];exact (below_size (by repeat (first | (with_reducible first | exact HB.out | apply below_alloc | apply pw_below_drewN | apply below_drew1) | exact HB.out))) : w.heap.size ≤ gb301));have n5_ := Aside0.mk ((by rw [hg];exact (below_size (by repeat (first | (with_reducible first | exact HB.out | apply below_alloc | apply pw_below_drewN | apply below_drew1) | exact HB.out))) : w.heap.size ≤ gb301));clear HO_3;clear HO_4;clear HB;have HO_3 := n0_;have HO_4 := n1_;have HB := n2_;have BK301 := n3_;have GW301 := n4_;have GE301 := n5_;clear n0_ n1_ n2_ n3_ n4_ n5_;clear hb hbox hg;have hcz40_0 : w39.cell? ⟨gb301,0,none⟩ = some (.int .i64 0) := (blk_cell BK301.out 0).trans rfl;have hcz40_1 : w39.cell? ⟨gb301,1,none⟩ = some (.int .i64 0) := (blk_cell BK301.out 1).trans rfl;have hcz40_2 : w39.cell? ⟨gb301,2,none⟩ = some (.int .i64 0) := (blk_cell BK301.out 2).trans rfl;have hcz40_3 : w39.cell? ⟨gb301,3,none⟩ = some (.int .i64 0) := (blk_cell BK301.out 3).trans rfl;have hfz40_0 := blk_frozen BK301.out 0;have hfz40_1 := blk_frozen BK301.out 1;have hfz40_2 := blk_frozen BK301.out 2;have hfz40_3 := blk_frozen BK301.out 3) | ((with_reducible refine gate_store (t := 53) (p := 7) rfl ?_);refine store_event (t := 53) (p := 7) (v := ?vo_w41) (w1 := ((((w39.setCell ⟨gb301,0,none⟩ (.int .i64 ((rd_T53 x3_1 (ji17)).f0))).setCell ⟨gb301,1,none⟩ (.int .i64 ((rd_T53 x3_1 (ji17)).f1))).setCell ⟨gb301,2,none⟩ (.int .i64 ((rd_T53 x3_1 (ji17)).f2))).setCell ⟨gb301,3,none⟩ (.int .i64 ((rd_T53 x3_1 (ji17)).f3)))) ?hg ?ho ?hn ?hr ?_;(case ho => rfl);(case hg => rfl);(case hn => rfl);(case hr => first | (go_simp;done) | (go_simp;rfl));intro w41 hw;have n0_ : Aside0 (Kd.R k53 53 w41 w.heap.size (fun k_ => k_ ≠ gb301) (.slice (some ad300) x3_1.length co38) x3_1) := ⟨(by rw [hw];exact (by (with_reducible repeat (first | apply Kd.R_alloc | apply Kd.R_drewN | apply Kd.R_drew));exact Kd.R_mono (Kd.R_far (p := ⟨gb301,3,none⟩) (Kd.R_far (p := ⟨gb301,2,none⟩) (Kd.R_far (p := ⟨gb301,1,none⟩) (Kd.R_far (p := ⟨gb301,0,none⟩) (Kd.R_mono HO_3.out (fun k_ hk => (⟨hk,hk.2⟩ : _ ∧ k_ ≠ gb301))) (fun _ hk => hk.2) (.int .i64 ((rd_T53 x3_1 (ji17)).f0))) (fun _ hk => hk.2) (.int .i64 ((rd_T53 x3_1 (ji17)).f1))) (fun _ hk => hk.2) (.int .i64 ((rd_T53 x3_1 (ji17)).f2))) (fun _ hk => hk.2) (.int .i64 ((rd_T53 x3_1 (ji17)).f3))) (fun _ hk => hk.1.2)))⟩;have n1_ : Aside0 (Kd.R k30 30 w41 w.heap.size (fun _ => True) (.slice Ao6 t294.length co6) t294) := ⟨(by rw [hw];exact (by (with_reducible repeat (first | apply Kd.R_alloc | apply Kd.R_drewN | apply Kd.R_drew));exact Kd.R_mono (Kd.R_far (p := ⟨gb301,3,none⟩) (Kd.R_far (p := ⟨gb301,2,none⟩) (Kd.R_far (p := ⟨gb301,1,none⟩) (Kd.R_far (p := ⟨gb301,0,none⟩) (Kd.R_types HO_4.out BK301.out (by decide)) (fun _ hk => hk.2) (.int .i64 ((rd_T53 x3_1 (ji17)).f0))) (fun _ hk => hk.2) (.int .i64 ((rd_T53 x3_1 (ji17)).f1))) (fun _ hk => hk.2) (.int .i64 ((rd_T53 x3_1 (ji17)).f2))) (fun _ hk => hk.2) (.int .i64 ((rd_T53 x3_1 (ji17)).f3))) (fun _ hk => trivial)))⟩;have n2_ : Aside0 (w41.heap[gb301]? = some (.cells #[.int .i64 ((rd_T53 x3_1 (ji17)).f0),.int .i64 ((rd_T53 x3_1 (ji17)).f1),.int .i64 ((rd_T53 x3_1 (ji17)).f2),.int .i64 ((rd_T53 x3_1 (ji17)).f3)] 53 (0,0))) := ⟨(by rw [hw];exact (by (with_reducible repeat (first | refine blk_drewN ?_ _ | refine blk_drew ?_ | refine blk_alloc ?_ _));refine blk_put (cs := #[.int .i64 ((rd_T53 x3_1 (ji17)).f0),.int .i64 ((rd_T53 x3_1 (ji17)).f1),.int .i64 ((rd_T53 x3_1 (ji17)).f2),.int .i64 0]) ?_ 3 _ rfl;(with_reducible repeat (first | refine blk_drewN ?_ _ | refine blk_drew ?_ | refine blk_alloc ?_ _));refine blk_put (cs := #[.int .i64 ((rd_T53 x3_1 (ji17)).f0),.int .i64 ((rd_T53 x3_1 (ji17)).f1),.int .i64 0,.int .i64 0]) ?_ 2 _ rfl;(with_reducible repeat (first | refine blk_drewN ?_ _ | refine blk_drew ?_ | refine blk_alloc ?_ _));refine blk_put (cs := #[.int .i64 ((rd_T53 x3_1 (ji17)).f0),.int .i64 0,.int .i64 0,.int .i64 0]) ?_ 1 _ rfl;(with_reducible repeat (first | refine blk_drewN ?_ _ | refine blk_drew ?_ | refine blk_alloc ?_ _));refine blk_put (cs := #[.int .i64 0,.int .i64 0,.int .i64 0,.int .i64 0]) ?_ 0 _ rfl;(with_reducible repeat (first | refine blk_drewN ?_ _ | refine blk_drew ?_ | refine blk_alloc ?_ _));exact BK301.out))⟩;have n3_ : Aside0 (Below w.heap.size w w41) := ⟨(by rw [hw];exact (by repeat (first | (with_reducible first | exact HB.out | apply below_alloc | apply pw_below_drewN | apply below_drew1 | refine below_set ?_ GE301.out) | exact HB.out)))⟩;clear hw;clear HO_3;clear HO_4;clear BK301;clear HB;have HO_3 := n0_;have HO_4 := n1_;have BK301 := n2_;have HB := n3_;clear n0_ n1_ n2_ n3_;have p302 : 0 ≤ (x6_1 : Int) := of_decide_eq_true (by first | (with_reducible assumption) | assumption);have q302 : x6_1 < (t294.length : Int) := of_decide_eq_true (by first | (with_reducible assumption) | assumption);obtain ⟨ad302,e302,hx302_0,hx302_1⟩ := at_T30 (Kd.R_reads' HO_4.out).2.2 x6_1 p302 q302;cases e302;replace p302 := eq_true p302;replace q302 := eq_true q302;have hcz42_0 : w41.cell? ⟨gb301,0,none⟩ = some (.int .i64 ((rd_T53 x3_1 (ji17)).f0)) := (blk_cell BK301.out 0).trans rfl;have hcz42_1 : w41.cell? ⟨gb301,1,none⟩ = some (.int .i64 ((rd_T53 x3_1 (ji17)).f1)) := (blk_cell BK301.out 1).trans rfl;have hcz42_2 : w41.cell? ⟨gb301,2,none⟩ = some (.int .i64 ((rd_T53 x3_1 (ji17)).f2)) := (blk_cell BK301.out 2).trans rfl;have hcz42_3 : w41.cell? ⟨gb301,3,none⟩ = some (.int .i64 ((rd_T53 x3_1 (ji17)).f3)) := (blk_cell BK301.out 3).trans rfl;have hfz42_0 := blk_frozen BK301.out 0;have hfz42_1 := blk_frozen BK301.out 1;have hfz42_2 := blk_frozen BK301.out 2;have hfz42_3 := blk_frozen BK301.out 3) | ((with_reducible refine gate_store (t := 3) (p := 44) rfl ?_);refine store_event (t := 3) (p := 44) (v := ?vo_w43) (w1 := (w41.setCell ⟨gb301,1,none⟩ (.int .i64 (wrap64 (x5_1 + ((rd_T30 t294 x6_1).f1)))))) ?hg ?ho ?hn ?hr ?_;(case ho => rfl);(case hg => rfl);(case hn => rfl);(case hr => first | (go_simp;done) | (go_simp;rfl));intro w43 hw;have n0_ : Aside0 (Kd.R k53 53 w43 w.heap.size (fun k_ => k_ ≠ gb301) (.slice (some ad300) x3_1.length co38) x3_1) := ⟨(by rw [hw];exact (by (with_reducible repeat (first | apply Kd.R_alloc | apply Kd.R_drewN | apply Kd.R_drew));exact Kd.R_mono (Kd.R_far (p := ⟨gb301,1,none⟩) (Kd.R_mono HO_3.out (fun k_ hk => (⟨hk,hk⟩ : _ ∧ k_ ≠ gb301))) (fun _ hk => hk.2) (.int .i64 (wrap64 (x5_1 + ((rd_T30 t294 x6_1).f1))))) (fun _ hk => hk.1)))⟩;have n1_ : Aside0 (Kd.R k30 30 w43 w.heap.size (fun _ => True) (.slice (some ad302) t294.length co6) t294) := ⟨(by rw [hw];exact (by (with_reducible repeat (first | apply Kd.R_alloc | apply Kd.R_drewN | apply Kd.R_drew));exact Kd.R_mono (Kd.R_far (p := ⟨gb301,1,none⟩) (Kd.R_types HO_4.out BK301.out (by decide)) (fun _ hk => hk.2) (.int .i64 (wrap64 (x5_1 + ((rd_T30 t294 x6_1).f1))))) (fun _ hk => trivial)))⟩;have n2_ : Aside0 (w43.heap[gb301]? = some (.cells #[.int .i64 ((rd_T53 x3_1 (ji17)).f0),.int .i64 (wrap64 (x5_1 + ((rd_T30 t294 x6_1).f1))),.int .i64 ((rd_T53 x3_1 (ji17)).f2),.int .i64 ((rd_T53 x3_1 (ji17)).f3)] 53 (0,0))) := ⟨(by rw [hw];exact (by (with_reducible repeat (first | refine blk_drewN ?_ _ | refine blk_drew ?_ | refine blk_alloc ?_ _));refine blk_put (cs := #[.int .i64 ((rd_T53 x3_1 (ji17)).f0),.int .i64 ((rd_T53 x3_1 (ji17)).f1),.int .i64 ((rd_T53 x3_1 (ji17)).f2),.int .i64 ((rd_T53 x3_1 (ji17)).f3)]) ?_ 1 _ rfl;(with_reducible repeat (first | refine blk_drewN ?_ _ | refine blk_drew ?_ | refine blk_alloc ?_ _));exact BK301.out))⟩;have n3_ : Aside0 (Below w.heap.size w w43) := ⟨(by rw [hw];exact (by repeat (first | (with_reducible first | exact HB.out | apply below_alloc | apply pw_below_drewN | apply below_drew1 | refine below_set ?_ GE301.out) | exact HB.out)))⟩;clear hw;clear HO_3;clear HO_4;clear BK301;clear HB;have HO_3 := n0_;have HO_4 := n1_;have BK301 := n2_;have HB := n3_;clear n0_ n1_ n2_ n3_;have p303 : 0 ≤ (x6_1 : Int) := of_decide_eq_true (by first | (with_reducible assumption) | assumption);have q303 : x6_1 < (t294.length : Int) := of_decide_eq_true (by first | (with_reducible assumption) | assumption);obtain ⟨ad303,e303,hx303_0,hx303_1⟩ := at_T30 (Kd.R_reads' HO_4.out).2.2 x6_1 p303 q303;obtain rfl : ad302 = ad303 := (by injection e303);replace p303 := eq_true p303;replace q303 := eq_true q303;have hcz44_0 : w43.cell? ⟨gb301,0,none⟩ = some (.int .i64 ((rd_T53 x3_1 (ji17)).f0)) := (blk_cell BK301.out 0).trans rfl;have hcz44_1 : w43.cell? ⟨gb301,1,none⟩ = some (.int .i64 (wrap64 (x5_1 + ((rd_T30 t294 x6_1).f1)))) := (blk_cell BK301.out 1).trans rfl;have hcz44_2 : w43.cell? ⟨gb301,2,none⟩ = some (.int .i64 ((rd_T53 x3_1 (ji17)).f2)) := (blk_cell BK301.out 2).trans rfl;have hcz44_3 : w43.cell? ⟨gb301,3,none⟩ = some (.int .i64 ((rd_T53 x3_1 (ji17)).f3)) := (blk_cell BK301.out 3).trans rfl;have hfz44_0 := blk_frozen BK301.out 0;have hfz44_1 := blk_frozen BK301.out 1;have hfz44_2 := blk_frozen BK301.out 2;have hfz44_3 := blk_frozen BK301.out 3;have p37 : 0 ≤ ((ji17) : Int) := of_decide_eq_true (by first | (with_reducible assumption) | assumption);have q37 : ((ji17) : Int) < ((x3_1.length : Int) : Int) := of_decide_eq_true (by first | (with_reducible assumption) | assumption);obtain ⟨go37,co37,eo37,gb37,gl37,cl37,HG37⟩ := Kd.R_form HO_3.out (by omega);(first | cases eo37 | (injection eo37 with ea_ en_ ec_;(first | subst ea_ | (injection ea_ with ea_;subst ea_));subst ec_;clear en_));have GB37 := Aside0.mk gb37;have GG37 := Aside0.mk HG37;clear gb37 gl37 HG37;(first | simp only [add_plain] at hx300_0 | skip);(first | simp only [add_plain] at hx300_1 | skip);(first | simp only [add_plain] at hx300_2 | skip);(first | simp only [add_plain] at hx300_3 | skip);obtain ⟨ce37,hcl37,hM37,hcc37,hfr37⟩ := Kd.R_elem HO_3.out z53 ((ji17) : Int) p37 q37;obtain rfl := k53_openM hM37;have hx37_0 : w43.cell? ⟨go37,((ji17) : Int).toNat * 4,none⟩ = some (.int .i64 ((rd_T53 x3_1 (ji17)).f0)) := hcc37 0 _ rfl;have hx37_1 : w43.cell? ⟨go37,((ji17) : Int).toNat * 4 + 1,none⟩ = some (.int .i64 ((rd_T53 x3_1 (ji17)).f1)) := hcc37 1 _ rfl;have hx37_2 : w43.cell? ⟨go37,((ji17) : Int).toNat * 4 + 2,none⟩ = some (.int .i64 ((rd_T53 x3_1 (ji17)).f2)) := hcc37 2 _ rfl;have hx37_3 : w43.cell? ⟨go37,((ji17) : Int).toNat * 4 + 3,none⟩ = some (.int .i64 ((rd_T53 x3_1 (ji17)).f3)) := hcc37 3 _ rfl;have hf37_0 : w43.frozen? ⟨go37,((ji17) : Int).toNat * 4,none⟩ = false := hfr37 0;have hf37_1 : w43.frozen? ⟨go37,((ji17) : Int).toNat * 4 + 1,none⟩ = false := hfr37 1;have hf37_2 : w43.frozen? ⟨go37,((ji17) : Int).toNat * 4 + 2,none⟩ = false := hfr37 2;have hf37_3 : w43.frozen? ⟨go37,((ji17) : Int).toNat * 4 + 3,none⟩ = false := hfr37 3;clear hcl37 hcc37 hfr37 hM37;replace p37 := eq_true p37;replace q37 := eq_true q37;have HX45 := Aside0.mk (show Kd.R k53 53 w43 w.heap.size (fun k_ => k_ ≠ gb301) (.slice (some ⟨go37,0,none⟩) x3_1.length co38) x3_1 from (by (with_reducible repeat (first | apply Kd.R_alloc | apply Kd.R_drewN | apply Kd.R_drew));exact HO_3.out));obtain ⟨ce45,hcl45,hM45,hcc45,hfr45⟩ := Kd.R_elem HX45.out z53 ((ji17) : Int) (of_decide_eq_true (by first | (with_reducible assumption) | assumption)) (by have h_ : ((ji17) : Int) < ((x3_1.length : Int) : Int) := of_decide_eq_true (by first | (with_reducible assumption) | assumption);first | exact h_ | (have e_ := (Kd.R_reads' HO_3.out).1;omega) | simpa using h_);obtain rfl := k53_openM hM45;have HP45 := Kd.R_seg HX45.out ((ji17) : Int) (of_decide_eq_true (by first | (with_reducible assumption) | assumption)) (by have h_ : ((ji17) : Int) < ((x3_1.length : Int) : Int) := of_decide_eq_true (by first | (with_reducible assumption) | assumption);first | exact h_ | (have e_ := (Kd.R_reads' HO_3.out).1;omega) | simpa using h_) (seg := [.int .i64 ((rd_T53 x3_1 (ji17)).f0),.int .i64 (wrap64 (x5_1 + ((rd_T30 t294 x6_1).f1))),.int .i64 ((rd_T53 x3_1 (ji17)).f2),.int .i64 ((rd_T53 x3_1 (ji17)).f3)]) (j := 0) hcl45 hcc45 (show 4 ≤ 4 from by decide) (x' := (⟨(rd_T53 x3_1 (ji17)).f0,wrap64 (x5_1 + ((rd_T30 t294 x6_1).f1)),(rd_T53 x3_1 (ji17)).f2,(rd_T53 x3_1 (ji17)).f3⟩ : S53)) (k53_mkM _ _ _ (⟨(rd_T53 x3_1 (ji17)).f0,wrap64 (x5_1 + ((rd_T30 t294 x6_1).f1)),(rd_T53 x3_1 (ji17)).f2,(rd_T53 x3_1 (ji17)).f3⟩ : S53) ) (fun _ hk => hk);have hx45_0 := hcc45 0 _ rfl;(try simp only [show (k53).sz = 4 from rfl,Nat.mul_one,Nat.add_zero] at hx45_0);have hf45_0 := hfr45 0;(try simp only [show (k53).sz = 4 from rfl,Nat.mul_one,Nat.add_zero] at hf45_0);have hx45_1 := hcc45 1 _ rfl;(try simp only [show (k53).sz = 4 from rfl,Nat.mul_one,Nat.add_zero] at hx45_1);have hf45_1 := hfr45 1;(try simp only [show (k53).sz = 4 from rfl,Nat.mul_one,Nat.add_zero] at hf45_1);have hx45_2 := hcc45 2 _ rfl;(try simp only [show (k53).sz = 4 from rfl,Nat.mul_one,Nat.add_zero] at hx45_2);have hf45_2 := hfr45 2;(try simp only [show (k53).sz = 4 from rfl,Nat.mul_one,Nat.add_zero] at hf45_2);have hx45_3 := hcc45 3 _ rfl;(try simp only [show (k53).sz = 4 from rfl,Nat.mul_one,Nat.add_zero] at hx45_3);have hf45_3 := hfr45 3;(try simp only [show (k53).sz = 4 from rfl,Nat.mul_one,Nat.add_zero] at hf45_3);clear hcl45 hcc45 hfr45 hM45) | ((with_reducible refine gate_store (t := 53) (p := 58) rfl ?_);refine store_event (t := 53) (p := 58) (v := ?vo_w46) (w1 := ((((w43.setCell ⟨go37,((ji17) : Int).toNat * 4,none⟩ (.int .i64 ((rd_T53 x3_1 (ji17)).f0))).setCell ⟨go37,((ji17) : Int).toNat * 4 + 1,none⟩ (.int .i64 (wrap64 (x5_1 + ((rd_T30 t294 x6_1).f1))))).setCell ⟨go37,((ji17) : Int).toNat * 4 + 2,none⟩ (.int .i64 ((rd_T53 x3_1 (ji17)).f2))).setCell ⟨go37,((ji17) : Int).toNat * 4 + 3,none⟩ (.int .i64 ((rd_T53 x3_1 (ji17)).f3)))) ?hg ?ho ?hn ?hr ?_;(case ho => rfl);(case hg => rfl);(case hn => rfl);(case hr => first | (go_simp;done) | (go_simp;rfl));intro w46 hw;have hg : w43.grownBy w46 (some go37) := (by rw [hw];exact HP45.2);have hp_ : Kd.R k53 53 w46 w.heap.size (fun k_ => k_ ≠ gb301) (.slice (some ⟨go37,0,none⟩) x3_1.length co38) y306 := (by rw [hw,Ny306.out];exact HP45.1);clear HP45;have n0_ := Aside0.mk (hp_);have n1_ := Aside0.mk (Kd.R_over' (v := (.slice (some ⟨go37,0,none⟩) x3_1.length co38)) (by (with_reducible repeat (first | apply Kd.R_alloc | apply Kd.R_drewN | apply Kd.R_drew));exact HO_4.out) (Kd.R_typed HO_3.out) (by decide) hg);have n2_ := Aside0.mk (blk_grown (g := gb301) (o := .cells #[.int .i64 ((rd_T53 x3_1 (ji17)).f0),.int .i64 (wrap64 (x5_1 + ((rd_T30 t294 x6_1).f1))),.int .i64 ((rd_T53 x3_1 (ji17)).f2),.int .i64 ((rd_T53 x3_1 (ji17)).f3)] 53 (0,0)) (by (with_reducible repeat (first | refine blk_drewN ?_ _ | refine blk_drew ?_ | refine blk_alloc ?_ _));exact BK301.out) hg (Kd.R_away HO_3.out (fun _ hk => hk)));have n3_ := Aside0.mk ((by rw [hw];exact below_set (below_set (below_set (below_set (HB.out) GB37.out) GB37.out) GB37.out) GB37.out : Below w.heap.size w w46));clear HO_3;clear HO_4;clear BK301;clear HB;have HO_3 := n0_;have HO_4 := n1_;have BK301 := n2_;have HB := n3_;clear n0_ n1_ n2_ n3_;clear hg hw hp_;have p307 : 0 ≤ (x6_1 : Int) := of_decide_eq_true (by first | (with_reducible assumption) | assumption);have q307 : x6_1 < (t294.length : Int) := of_decide_eq_true (by first | (with_reducible assumption) | assumption);obtain ⟨ad307,e307,hx307_0,hx307_1⟩ := at_T30 (Kd.R_reads' HO_4.out).2.2 x6_1 p307 q307;obtain rfl : ad302 = ad307 := (by injection e307);replace p307 := eq_true p307;replace q307 := eq_true q307))
            go_roundg kj4
            case measure => have := HK1.out;have := HJ4.out;omega
            case rel => exact ⟨(y306),(wrap64 (x5_1 + ((rd_T30 t294 x6_1).f1))),(wrap64 (x6_1 + 1)),(by first | rfl | (simp;done) | (simp [*];done)),(by first | rfl | (simp;done) | (simp [*];done)),H',⟨by have := HK1.out;have := HJ4.out;omega⟩,⟨by (with_reducible repeat (first | apply Kd.R_alloc | apply Kd.R_drewN | apply Kd.R_drew));exact Kd.R_mono HO_3.out (fun _ hk => trivial)⟩,⟨by (with_reducible repeat (first | apply Kd.R_alloc | apply Kd.R_drewN | apply Kd.R_drew));exact HO_4.out⟩,⟨by repeat (first | (with_reducible first | exact HB.out | apply below_alloc | apply pw_below_drewN | apply below_drew1 | refine below_set ?_ GE301.out) | exact HB.out)⟩⟩
          ·rw [if_neg c21] at H
           exact absurd H (by simp)
         ·rw [if_neg c20] at H
          exact absurd H (by simp)
        ·rw [if_neg c19] at H
         exact absurd H (by simp)
       ·rw [if_neg c18] at H
        exact absurd H (by simp)
      ·replace c16 := Bool.eq_false_iff.mpr c16
       subst c16
       have H1 : (if 0 ≤ x6_1 then (if x6_1 < (t294.length : Int) then ((bodkinref02_Class.f kj4 ((rd_T30 t294 x6_1).f0)).bind fun t310 => ((bodkinref02_Cells.f kj4 ((rd_T30 t294 x6_1).f0)).bind fun t311 => (if x3_1.length < 4398046511104 then (bodkinref03_List.l0 kj4 (x3_1 ++ [(⟨x5_1,wrap64 (x5_1 + ((rd_T30 t294 x6_1).f1)),t310,t311⟩ : S53)]) t294 (wrap64 (x5_1 + ((rd_T30 t294 x6_1).f1))) (wrap64 (x6_1 + 1))) else (none)))) else (none)) else (none)) = some r := by rw [if_neg (show ¬ (false = true) by decide)] at H;exact H
       clear H
       have H := H1
       clear H1
       by_cases c47 : 0 ≤ x6_1
       ·rw [if_pos c47] at H
        have c47b0 : decide (0 ≤ x6_1) = true := decide_eq_true c47
        clear c47
        by_cases c48 : x6_1 < (t294.length : Int)
        ·rw [if_pos c48] at H
         have c48b0 : decide (x6_1 < (t294.length : Int)) = true := decide_eq_true c48
         clear c48
         replace H := Option.bind_eq_some_iff.mp H
         obtain ⟨t310,A490,H⟩ := H
         replace H : ((bodkinref02_Cells.f kj4 ((rd_T30 t294 x6_1).f0)).bind fun t311 => (if x3_1.length < 4398046511104 then (bodkinref03_List.l0 kj4 (x3_1 ++ [(⟨x5_1,wrap64 (x5_1 + ((rd_T30 t294 x6_1).f1)),t310,t311⟩ : S53)]) t294 (wrap64 (x5_1 + ((rd_T30 t294 x6_1).f1))) (wrap64 (x6_1 + 1))) else (none))) = some r := H
         have A49 := Aside0.mk A490
         clear A490
         replace H := Option.bind_eq_some_iff.mp H
         obtain ⟨t311,A500,H⟩ := H
         replace H : (if x3_1.length < 4398046511104 then (bodkinref03_List.l0 kj4 (x3_1 ++ [(⟨x5_1,wrap64 (x5_1 + ((rd_T30 t294 x6_1).f1)),t310,t311⟩ : S53)]) t294 (wrap64 (x5_1 + ((rd_T30 t294 x6_1).f1))) (wrap64 (x6_1 + 1))) else (none)) = some r := H
         have A50 := Aside0.mk A500
         clear A500
         by_cases c51 : x3_1.length < 4398046511104
         ·rw [if_pos c51] at H
          have LMc51 := Aside0.mk c51
          clear c51
          obtain ⟨y312,hy312⟩ : ∃ y_ : List (S53),y_ = (x3_1 ++ [(⟨x5_1,wrap64 (x5_1 + ((rd_T30 t294 x6_1).f1)),t310,t311⟩ : S53)]) := ⟨_,rfl⟩
          replace H : (bodkinref03_List.l0 kj4 y312 t294 (wrap64 (x5_1 + ((rd_T30 t294 x6_1).f1))) (wrap64 (x6_1 + 1))) = some r := by first | (rw [hy312];with_reducible exact H) | (have H2_ := (Option.bind_some _ _).symm.trans H;rw [hy312];with_reducible exact H2_) | (have H2_ := (Option.bind_some _ _).symm.trans H;with_reducible exact H2_) | with_reducible exact H | (rw [hy312];exact H) | exact H
          have Ny312 := Aside0.mk hy312
          clear hy312
          have H' := Aside0.mk H
          clear H
          have p308 : 0 ≤ (x6_1 : Int) := of_decide_eq_true (by first | (with_reducible assumption) | assumption)
          have q308 : x6_1 < (t294.length : Int) := of_decide_eq_true (by first | (with_reducible assumption) | assumption)
          obtain ⟨ad308,e308,hx308_0,hx308_1⟩ := at_T30 (Kd.R_reads' HO_4.out).2.2 x6_1 p308 q308
          cases e308
          replace p308 := eq_true p308
          replace q308 := eq_true q308
          try go_wp2
          have n0_ := Aside0.mk (Kd.R_drew HO_3.out)
          have n1_ := Aside0.mk (Kd.R_drew HO_4.out)
          have n2_ := Aside0.mk (below_drew1 HB.out)
          clear HO_3
          clear HO_4
          clear HB
          have HO_3 := n0_
          have HO_4 := n1_
          have HB := n2_
          clear n0_ n1_ n2_
          have p309 : 0 ≤ (x6_1 : Int) := of_decide_eq_true (by first | (with_reducible assumption) | assumption)
          have q309 : x6_1 < (t294.length : Int) := of_decide_eq_true (by first | (with_reducible assumption) | assumption)
          obtain ⟨ad309,e309,hx309_0,hx309_1⟩ := at_T30 (Kd.R_reads' HO_4.out).2.2 x6_1 p309 q309
          obtain rfl : ad308 = ad309 := (by injection e309)
          replace p309 := eq_true p309
          replace q309 := eq_true q309
          refine start_ (n := 17) (S := fun w' => w'.cell? (ad308.add ((x6_1).toNat * 2)) = some (.int .i32 ((rd_T30 t294 x6_1).f0)) ∧ w'.cell? ⟨(ad308.add ((x6_1).toNat * 2)).block,(ad308.add ((x6_1).toNat * 2)).off + 1,none⟩ = some (.int .i64 ((rd_T30 t294 x6_1).f1))) (ds := [14,15]) #[false,false,false,false,false,false,false,false,false,false,false,false,false,false,false,false,false] (by kernel_rfl) rfl rfl ⟨hx309_0,hx309_1⟩ (fun hHeld => ?_);refine with_tabW bodkinref03_List.tab15 bodkinref03_List.bits15 (fun HT_ HW_ => ?_)
          generalize wc.drew = w52 at HO_3 HO_4 HB hx309_0 hx309_1 hHeld ⊢
          refine pure_ (i := 0) (N := some 64) (v := ?_) (a' := ?_) #[true,false,false,false,false,false,false,false,false,false,false,false,false,false,false,false,false] rfl rfl (any_of HT_.out (by kernel_rfl)) (fun _ _ _ h => h) (Or.inl ⟨by rfl,?_⟩) ?_ ?_
          rotate_left
          ·intro w'
           go_simp
           with_reducible rfl
          rotate_left
          ·simp only [Act.put,List.setIfInBounds_toArray,List.set_cons_zero,List.set_cons_succ,i64_w,i32_w]
           rfl
          refine pure_ (i := 1) (N := some 65) (v := ?_) (a' := ?_) #[true,true,false,false,false,false,false,false,false,false,false,false,false,false,false,false,false] rfl rfl (any_of HT_.out (by kernel_rfl)) (fun _ _ _ h => h) (Or.inl ⟨by rfl,?_⟩) ?_ ?_
          rotate_left
          ·intro w'
           go_simp
           with_reducible rfl
          rotate_left
          ·simp only [Act.put,List.setIfInBounds_toArray,List.set_cons_zero,List.set_cons_succ,i64_w,i32_w]
           rfl
          refine pure_ (i := 2) (N := some 66) (v := ?_) (a' := ?_) #[true,true,true,false,false,false,false,false,false,false,false,false,false,false,false,false,false] rfl rfl (any_of HT_.out (by kernel_rfl)) (fun _ _ _ h => h) (Or.inl ⟨by rfl,?_⟩) ?_ ?_
          rotate_left
          ·intro w'
           go_simp
           with_reducible rfl
          rotate_left
          ·simp only [Act.put,List.setIfInBounds_toArray,List.set_cons_zero,List.set_cons_succ,i64_w,i32_w]
           rfl
          refine pure_ (i := 3) (N := some 67) (v := ?_) (a' := ?_) #[true,true,true,true,false,false,false,false,false,false,false,false,false,false,false,false,false] rfl rfl (any_of HT_.out (by kernel_rfl)) (fun _ _ _ h => h) (Or.inl ⟨by rfl,?_⟩) ?_ ?_
          rotate_left
          ·intro w'
           go_simp
           with_reducible rfl
          rotate_left
          ·simp only [Act.put,List.setIfInBounds_toArray,List.set_cons_zero,List.set_cons_succ,i64_w,i32_w]
           rfl
          refine pure_ (i := 4) (N := some 68) (v := ?_) (a' := ?_) #[true,true,true,true,true,false,false,false,false,false,false,false,false,false,false,false,false] rfl rfl (any_of HT_.out (by kernel_rfl)) (fun _ _ _ h => h) (Or.inl ⟨by rfl,?_⟩) ?_ ?_
          rotate_left
          ·intro w'
           go_simp
           with_reducible rfl
          rotate_left
          ·simp only [Act.put,List.setIfInBounds_toArray,List.set_cons_zero,List.set_cons_succ,i64_w,i32_w]
           rfl
          refine pure_ (i := 5) (N := some 69) (v := ?_) (a' := ?_) #[true,true,true,true,true,true,false,false,false,false,false,false,false,false,false,false,false] rfl rfl (any_of HT_.out (by kernel_rfl)) (fun _ _ _ h => h) (Or.inl ⟨by rfl,?_⟩) ?_ ?_
          rotate_left
          ·intro w'
           go_simp
           with_reducible rfl
          rotate_left
          ·simp only [Act.put,List.setIfInBounds_toArray,List.set_cons_zero,List.set_cons_succ,i64_w,i32_w]
           rfl
          refine pure_ (i := 6) (N := some 70) (v := ?_) (a' := ?_) #[true,true,true,true,true,true,true,false,false,false,false,false,false,false,false,false,false] rfl rfl (any_of HT_.out (by kernel_rfl)) (fun _ _ _ h => h) (Or.inl ⟨by rfl,?_⟩) ?_ ?_
          rotate_left
          ·intro w'
           go_simp
           with_reducible rfl
          rotate_left
          ·simp only [Act.put,List.setIfInBounds_toArray,List.set_cons_zero,List.set_cons_succ,i64_w,i32_w]
           rfl
          refine pure_ (i := 9) (N := some 73) (v := ?_) (a' := ?_) #[true,true,true,true,true,true,true,false,false,true,false,false,false,false,false,false,false] rfl rfl (any_of HT_.out (by kernel_rfl)) (fun _ _ _ h => h) (Or.inl ⟨by rfl,?_⟩) ?_ ?_
          rotate_left
          ·intro w'
           go_simp
           with_reducible rfl
          rotate_left
          ·simp only [Act.put,List.setIfInBounds_toArray,List.set_cons_zero,List.set_cons_succ,i64_w,i32_w]
           rfl
          refine pure_ (i := 11) (N := some 75) (v := ?_) (a' := ?_) #[true,true,true,true,true,true,true,false,false,true,false,true,false,false,false,false,false] rfl rfl (any_of HT_.out (by kernel_rfl)) (fun _ _ _ h => h) (Or.inl ⟨by rfl,?_⟩) ?_ ?_
          rotate_left
          ·intro w'
           go_simp
           with_reducible rfl
          rotate_left
          ·simp only [Act.put,List.setIfInBounds_toArray,List.set_cons_zero,List.set_cons_succ,i64_w,i32_w]
           rfl
          refine take_ (i := 7) (N := some 71) (v := ?_) (a' := ?_) #[true,true,true,true,true,true,true,true,false,true,false,true,false,false,false,false,false] rfl rfl (take_ofW HT_.out HW_.out (by kernel_rfl)) (fun _ _ _ h => h) (Or.inl ⟨by rfl,?_⟩) hHeld ?_ ?_
          rotate_left
          ·rintro w' ⟨s0,s1⟩
           go_simp
           with_reducible rfl
          rotate_left
          ·simp only [Act.put,List.setIfInBounds_toArray,List.set_cons_zero,List.set_cons_succ,i64_w,i32_w]
           rfl
          refine pure_ (i := 8) (N := some 72) (v := ?_) (a' := ?_) #[true,true,true,true,true,true,true,true,true,true,false,true,false,false,false,false,false] rfl rfl (any_of HT_.out (by kernel_rfl)) (fun _ _ _ h => h) (Or.inl ⟨by rfl,?_⟩) ?_ ?_
          rotate_left
          ·intro w'
           go_simp
           with_reducible rfl
          rotate_left
          ·simp only [Act.put,List.setIfInBounds_toArray,List.set_cons_zero,List.set_cons_succ,i64_w,i32_w]
           rfl
          refine one_ (i := 10) (N := some 74) #[true,true,true,true,true,true,true,true,true,true,true,true,false,false,false,false,false] rfl rfl (one_of HT_.out (by kernel_rfl)) (by decide) (fun K hK => ?_)
          refine goes_ Tryd.func81 (by kernel_rfl) rfl #[.int .i32 ((rd_T30 t294 x6_1).f0)] (by rfl) rfl rfl (by (try simp only [List.map_toArray,List.map_cons,List.map_nil]);first | done | rfl | (simp only [List.length_drop,List.length_take];rfl)) ?_
          with_reducible refine (bodkinref02_Class.calls kj4 ((rd_T30 t294 x6_1).f0) t310 _ A49.out).mono ?_
          rintro e w53 ⟨rfl,hb⟩
          have HS0_ := (hb.cell (World.block_lt_of_cell? _ _ (hHeld.1))).trans (hHeld.1)
          have HS1_ := (hb.cell (World.block_lt_of_cell? _ _ (hHeld.2))).trans (hHeld.2)
          refine ⟨_,rfl,?_⟩
          have n0_ := Aside0.mk (Kd.R_below (by (with_reducible repeat (first | apply Kd.R_alloc | apply Kd.R_drewN | apply Kd.R_drew));exact HO_3.out) hb)
          have n1_ := Aside0.mk (Kd.R_below (by (with_reducible repeat (first | apply Kd.R_alloc | apply Kd.R_drewN | apply Kd.R_drew));exact HO_4.out) hb)
          have n2_ := Aside0.mk (below_step (by repeat (first | (with_reducible first | exact HB.out | apply below_alloc | apply pw_below_drewN | apply below_drew1) | exact HB.out)) hb)
          clear HO_3
          clear HO_4
          clear HB
          have HO_3 := n0_
          have HO_4 := n1_
          have HB := n2_
          clear n0_ n1_ n2_
          (try clear hb)
          (try clear hb2)
          (try clear hk)
          (try clear hi)
          refine hK.out _ _ ⟨HS0_,HS1_⟩ (fun hHeld => ?_)
          clear hK K
          refine norm_ (a' := ?_) ?_ ?_
          rotate_left
          ·show Act.put _ (some 74) _ = _
           simp only [Act.put,List.setIfInBounds_toArray,List.set_cons_zero,List.set_cons_succ,i64_w,i32_w]
           rfl
          refine one_ (i := 12) (N := some 76) #[true,true,true,true,true,true,true,true,true,true,true,true,true,false,false,false,false] rfl rfl (one_of HT_.out (by kernel_rfl)) (by decide) (fun K hK => ?_)
          refine goes_ Tryd.func82 (by kernel_rfl) rfl #[.int .i32 ((rd_T30 t294 x6_1).f0)] (by rfl) rfl rfl (by (try simp only [List.map_toArray,List.map_cons,List.map_nil]);first | done | rfl | (simp only [List.length_drop,List.length_take];rfl)) ?_
          with_reducible refine (bodkinref02_Cells.calls kj4 ((rd_T30 t294 x6_1).f0) t311 _ A50.out).mono ?_
          rintro e w54 ⟨rfl,hb⟩
          have HS0_ := (hb.cell (World.block_lt_of_cell? _ _ (hHeld.1))).trans (hHeld.1)
          have HS1_ := (hb.cell (World.block_lt_of_cell? _ _ (hHeld.2))).trans (hHeld.2)
          refine ⟨_,rfl,?_⟩
          have n0_ := Aside0.mk (Kd.R_below (by (with_reducible repeat (first | apply Kd.R_alloc | apply Kd.R_drewN | apply Kd.R_drew));exact HO_3.out) hb)
          have n1_ := Aside0.mk (Kd.R_below (by (with_reducible repeat (first | apply Kd.R_alloc | apply Kd.R_drewN | apply Kd.R_drew));exact HO_4.out) hb)
          have n2_ := Aside0.mk (below_step (by repeat (first | (with_reducible first | exact HB.out | apply below_alloc | apply pw_below_drewN | apply below_drew1) | exact HB.out)) hb)
          clear HO_3
          clear HO_4
          clear HB
          have HO_3 := n0_
          have HO_4 := n1_
          have HB := n2_
          clear n0_ n1_ n2_
          (try clear hb)
          (try clear hb2)
          (try clear hk)
          (try clear hi)
          refine hK.out _ _ ⟨HS0_,HS1_⟩ (fun hHeld => ?_)
          clear hK K
          refine norm_ (a' := ?_) ?_ ?_
          rotate_left
          ·show Act.put _ (some 76) _ = _
           simp only [Act.put,List.setIfInBounds_toArray,List.set_cons_zero,List.set_cons_succ,i64_w,i32_w]
           rfl
          refine pure_ (i := 13) (N := some 77) (v := ?_) (a' := ?_) #[true,true,true,true,true,true,true,true,true,true,true,true,true,true,false,false,false] rfl rfl (any_of HT_.out (by kernel_rfl)) (fun _ _ _ h => h) (Or.inl ⟨by rfl,?_⟩) ?_ ?_
          rotate_left
          ·intro w'
           go_simp
           with_reducible rfl
          rotate_left
          ·simp only [Act.put,List.setIfInBounds_toArray,List.set_cons_zero,List.set_cons_succ,i64_w,i32_w]
           rfl
          refine last_ (i := 14) (N := some 78) #[true,true,true,true,true,true,true,true,true,true,true,true,true,true,true,false,false] rfl rfl (one_of HT_.out (by kernel_rfl)) (by decide) (fun K hK => ?_)
          refine value_ (w1 := ?_) (v := ?_) (by rfl) rfl ?_ ?_
          rotate_left 2
          ·go_simp
           constructor
           ·rfl
           ·rfl
          refine hK.out _ _ ?_
          clear hK K
          refine norm_ (a' := ?_) ?_ ?_
          rotate_left
          ·show Act.put _ (some 78) _ = _
           simp only [Act.put,List.setIfInBounds_toArray,List.set_cons_zero,List.set_cons_succ,i64_w,i32_w]
           rfl
          refine last_ (i := 15) (N := some 79) #[true,true,true,true,true,true,true,true,true,true,true,true,true,true,true,true,false] rfl rfl (one_of HT_.out (by kernel_rfl)) (by decide) (fun K hK => ?_)
          refine Kd.R_append_step k53 (w0 := w) w.heap.size (by rfl) (.tmp 64) (.tmp 78) 46 53 (.agg #[(.int .i64 0),(.int .i64 0),(.int .i64 0),(.int .i64 0)]) 32 rfl Tryd.underlying46 info53 rfl (by decide) (by omega) u3 x3_1 (⟨x5_1,wrap64 (x5_1 + ((rd_T30 t294 x6_1).f1)),t310,t311⟩ : S53) [.int .i64 x5_1,.int .i64 (wrap64 (x5_1 + ((rd_T30 t294 x6_1).f1))),.int .i64 t310,.int .i64 t311] (fun _ => True) (fun _ => False) rfl rfl ?aP (fun _ hk => hk.elim) ?aF ?aO ?aB ?aS ?aL ?_
          (case aP => exact k53_mkM _ _ _ (⟨x5_1,wrap64 (x5_1 + ((rd_T30 t294 x6_1).f1)),t310,t311⟩ : S53))
          (case aB => exact (by repeat (first | (with_reducible first | exact HB.out | apply below_alloc | apply pw_below_drewN | apply below_drew1) | exact HB.out)))
          (case aF => exact (fun _ _ => trivial))
          (case aO => exact (by (with_reducible repeat (first | apply Kd.R_alloc | apply Kd.R_drewN | apply Kd.R_drew));exact HO_3.out))
          (case aS => exact (below_size (by repeat (first | (with_reducible first | exact HB.out | apply below_alloc | apply pw_below_drewN | apply below_drew1) | exact HB.out))))
          (case aL => have := LMc51.out;omega)
          intro v313 w55 ho hb hg hat
          rw [← Ny312.out] at ho
          have n0_ := Aside0.mk (Kd.R_over' (by (with_reducible repeat (first | apply Kd.R_alloc | apply Kd.R_drewN | apply Kd.R_drew));exact HO_4.out) (Kd.R_typed (by (with_reducible repeat (first | apply Kd.R_alloc | apply Kd.R_drewN | apply Kd.R_drew));exact HO_3.out)) (by decide) hg)
          have n1_ := Aside0.mk (hb)
          have n2_ := Aside0.mk (ho)
          clear HO_4
          clear HB
          clear HO_3
          have HO_4 := n0_
          have HB := n1_
          have HO314 := n2_
          clear n0_ n1_ n2_
          clear ho hb hg hat
          refine hK.out _ _ ?_
          clear hK K
          refine norm_ (a' := ?_) ?_ ?_
          rotate_left
          ·show Act.put _ (some 79) _ = _
           simp only [Act.put,List.setIfInBounds_toArray,List.set_cons_zero,List.set_cons_succ,i64_w,i32_w]
           rfl
          refine pure_ (i := 16) (N := some 3) (v := ?_) (a' := ?_) #[true,true,true,true,true,true,true,true,true,true,true,true,true,true,true,true,true] rfl rfl (any_of HT_.out (by kernel_rfl)) (fun _ _ _ h => h) (Or.inl ⟨by rfl,?_⟩) ?_ ?_
          rotate_left
          ·intro w'
           go_simp
           with_reducible rfl
          rotate_left
          ·simp only [Act.put,List.setIfInBounds_toArray,List.set_cons_zero,List.set_cons_succ,i64_w,i32_w]
           rfl
          refine done_ (done_of HT_.out (by kernel_rfl)) ?_
          have p315 : 0 ≤ (x6_1 : Int) := of_decide_eq_true (by first | (with_reducible assumption) | assumption)
          have q315 : x6_1 < (t294.length : Int) := of_decide_eq_true (by first | (with_reducible assumption) | assumption)
          obtain ⟨ad315,e315,hx315_0,hx315_1⟩ := at_T30 (Kd.R_reads' HO_4.out).2.2 x6_1 p315 q315
          obtain rfl : ad308 = ad315 := (by injection e315)
          replace p315 := eq_true p315
          replace q315 := eq_true q315
          try go_wp2
          go_roundg kj4
          case measure => have := HK1.out;have := HJ4.out;omega
          case rel => exact ⟨(y312),(wrap64 (x5_1 + ((rd_T30 t294 x6_1).f1))),(wrap64 (x6_1 + 1)),(by first | rfl | (simp;done) | (simp [*];done)),(by first | rfl | (simp;done) | (simp [*];done)),H',⟨by have := HK1.out;have := HJ4.out;omega⟩,⟨by (with_reducible repeat (first | apply Kd.R_alloc | apply Kd.R_drewN | apply Kd.R_drew));exact HO314.out⟩,⟨by (with_reducible repeat (first | apply Kd.R_alloc | apply Kd.R_drewN | apply Kd.R_drew));exact HO_4.out⟩,⟨by repeat (first | (with_reducible first | exact HB.out | apply below_alloc | apply pw_below_drewN | apply below_drew1) | exact HB.out)⟩⟩
         ·rw [if_neg c51] at H
          exact absurd H (by simp)
        ·rw [if_neg c48] at H
         exact absurd H (by simp)
       ·rw [if_neg c47] at H
        exact absurd H (by simp)
   ·rw [if_neg c4] at H
    have c4b0 : decide (x6_1 < (t294.length : Int)) = false := decide_eq_false c4
    clear c4
    obtain rfl := Option.some.inj H
    obtain ⟨Ao56,co56,eo56⟩ := Kd.R_slice HO_4.out
    subst eo56
    go_wp2
    go_ret
    exact ⟨_,by first | rfl | (simp [errW_none,errW_some] <;> rfl) | (simp [*,errW_none,errW_some] <;> rfl),by (with_reducible repeat (first | apply Kd.R_alloc | apply Kd.R_drewN | apply Kd.R_drew));exact HO_3.out,by repeat (first | (with_reducible first | exact HB.out | apply below_alloc | apply pw_below_drewN | apply below_drew1) | exact HB.out)⟩
end Go.Proofs.YtfhnfhgpaoddbaaDoor.U
end
section
namespace Go.Proofs.YtfhnfhgpaoddbaaDoor.Pu
open Go Go.RowKit Go.Proofs.YtfhnfhgpaoddbaaDoor.Mu Go.Proofs.YtfhnfhgpaoddbaaDoor.U Go.Proofs.YtfhnfhgpaoddbaaDoorW.PrintWords Go.Proofs.YtfhnfhgpaoddbaaDoorW.PrintLast Go.Proofs.YtfhnfhgpaoddbaaDoorW.PrintMore
theorem fixed_ans : Ev (fun k => bodkinlaw03_fixed.f k) true := Ev.of (fun k => bodkinlaw03_fixed.mono k) (k := 200) (by kernel_rfl)
end Go.Proofs.YtfhnfhgpaoddbaaDoor.Pu
end
section
namespace Go.Proofs.YtfhnfhgpaoddbaaDoor.Pu
open Go Go.RowKit Go.Proofs.YtfhnfhgpaoddbaaDoor.Mu Go.Proofs.YtfhnfhgpaoddbaaDoor.U Go.Proofs.YtfhnfhgpaoddbaaDoorW.PrintWords Go.Proofs.YtfhnfhgpaoddbaaDoorW.PrintLast Go.Proofs.YtfhnfhgpaoddbaaDoorW.PrintMore
set_option linter.unusedVariables false
theorem joined_j0 (u v x y : Int) (b : Bool) : Ev (fun k => bodkinref03_joined.j0 k b u x v y) (if b = true then true else (decide (cls v = 3) && (!decide (cls u = 1) && !decide (cls u = 2)))) := by
 refine Ev.step (fun k => bodkinref03_joined.j0.eq_2 ..) (ev_val (fun hb => ev_pos hb (Ev.now _)) (fun hb => ev_neg hb ?_))
 refine Ev.bind (ref_class_ans u) (Ev.bind (ref_class_ans v) ?_)
 by_cases h3 : cls v = 3
 ·refine ev_pos h3 ?_
  by_cases h1 : cls u = 1
  ·exact ev_pos h1 (ev_now (by simp [h1]))
  ·exact ev_neg h1 (ev_now (by by_cases h2 : cls u = 2 <;> simp [h1,h2,h3]))
 ·exact ev_neg h3 (ev_now (by simp [h3]))
theorem joined_ans (u v x y : Int) : Ev (fun k => bodkinref03_joined.f k u x v y) (glueB u v) := by
 unfold bodkinref03_joined.f
 by_cases h : u = 13
 ·refine ev_pos h ?_
  have e : glueB u v = (if (v == 10) = true then true else (decide (cls v = 3) && (!decide (cls u = 1) && !decide (cls u = 2)))) := by
   unfold glueB
   by_cases hv : v = 10 <;> simp [h,hv]
  rw [e];exact joined_j0 u v x y (v == 10)
 ·refine ev_neg h ?_
  have e : glueB u v = (if false = true then true else (decide (cls v = 3) && (!decide (cls u = 1) && !decide (cls u = 2)))) := by
   unfold glueB
   simp [h]
  rw [e];exact joined_j0 u v x y false
theorem ref_cells_ans (c : Int) : Ev (fun k => bodkinref02_Cells.f k c) (celB c) := by
 have hC : celB c = if cls c = 1 then 0 else if cls c = 4 ∨ (cls c = 2 ∧ c ≤ 127) then 2 else 1 := rfl
 unfold bodkinref02_Cells.f
 refine Ev.bind (ref_class_ans c) ?_
 by_cases h1 : cls c = 1
 ·exact ev_pos h1 (ev_now (by rw [hC,if_pos h1]))
 ·refine ev_neg h1 ?_
  by_cases h4 : cls c = 4
  ·exact ev_pos h4 (ev_now (by rw [hC,if_neg h1,if_pos (.inl h4)]))
  ·refine ev_neg h4 ?_
   by_cases h2 : cls c = 2
   ·refine ev_pos h2 ?_
    by_cases h5 : c ≤ 127
    ·exact ev_pos h5 (ev_now (by rw [hC,if_neg h1,if_pos (.inr ⟨h2,h5⟩)]))
    ·exact ev_neg h5 (ev_now (by rw [hC,if_neg h1,if_neg (by omega)]))
   ·exact ev_neg h2 (ev_now (by rw [hC,if_neg h1,if_neg (by omega)]))
theorem rd_last (L : List S53) (c : S53) : rd_T53 (L ++ [c]) (L.length : Int) = c := by
 unfold rd_T53;rw [Int.toNat_natCast,List.getD_eq_getElem?_getD];simp
theorem set_last (L : List S53) (c c' : S53) : (L ++ [c]).set L.length c' = L ++ [c'] := by simp
attribute [local irreducible] uC uN unitsL clusL tl ctl nxt cls celB
theorem el_len (L : List S53) (c : S53) (h : L.length ≤ 1099511627776) : wrap64 ((((L ++ [c]).length : Nat) : Int) - 1) = (L.length : Int) := by
 have hl : (((L ++ [c]).length : Nat) : Int) = (L.length : Int) + 1 := by simp
 rw [hl,w64 (by omega) (by omega)];omega
theorem ref_list_loop (s : ByteArray) (hs : s.size ≤ 1099511627776) : ∀ (n x i p : Nat) (L : List S53) (cur : S53),s.size - x ≤ n → Bd s x → (unitsL s).drop i = tl s x → 0 < i → (rd_T30 (unitsL s) ((i - 1 : Nat) : Int)).f0 = uC s p → L.length + 1 ≤ i →
  Ev (fun k => bodkinref03_List.l0 k (L ++ [cur]) (unitsL s) x i) (L ++ passL s n (uC s p) cur x) := by
 have hul := unitsL_length s
 intro n
 induction n with
 | zero =>
  intro x i p L cur hn hb hd hi hp hL
  have hx : s.size ≤ x := by omega
  rw [tl_end s x hx] at hd
  have := drop_nil_le hd
  exact Ev.step (fun k => bodkinref03_List.l0.eq_2 ..) (ev_neg (by omega) (ev_now rfl))
 | succ n ih =>
  intro x i p L cur hn hb hd hi hp hL
  by_cases hx : x < s.size
  ·have h1 := uN_pos s x
   have h4 := uN_le4 s x
   have hnb := bd_next s x hb hx
   rw [tl_go s x hx] at hd
   obtain ⟨hil,hg,hd'⟩ := drop_cons (d := z30) hd
   have eg : rd_T30 (unitsL s) (i : Int) = uAt s x := by unfold rd_T30;rw [Int.toNat_natCast];exact hg
   have ei : Hid (wrap64 ((i : Int) - 1) = ((i - 1 : Nat) : Int)) := Lib.hid (by rw [w64 (by omega) (by omega)];omega)
   have ei2 : Hid (wrap64 ((i : Int) + 1) = ((i + 1 : Nat) : Int)) := Lib.hid (by rw [w64 (by omega) (by omega)];omega)
   have ex : Hid (wrap64 ((x : Int) + (uN s x : Int)) = ((x + uN s x : Nat) : Int)) := Lib.hid (by rw [w64 (by omega) (by omega)];omega)
   have hL2 : L.length ≤ 1099511627776 := by omega
   have el := Lib.hid (el_len L cur hL2)
   have hl : Hid ((((L ++ [cur]).length : Nat) : Int) = (L.length : Int) + 1) := Lib.hid (by simp)
   have hp' : (rd_T30 (unitsL s) (((i + 1) - 1 : Nat) : Int)).f0 = uC s x := by rw [show i + 1 - 1 = i by omega,eg];rfl
   refine Ev.step (fun k => bodkinref03_List.l0.eq_2 ..) (ev_pos (by omega) (ev_pos (by omega) ?_))
   rw [ei.out]
   refine ev_pos (by omega) (ev_pos (by omega) (ev_pos (by omega) ?_))
   rw [hp,eg]
   refine Ev.bind (joined_ans (uC s p) (uC s x) _ _) ?_
   rw [passL,if_pos hx]
   by_cases hgl : glueB (uC s p) (uC s x) = true
   ·rw [if_pos hgl]
    refine Ev.step (fun k => bodkinref03_List.j1.eq_2 ..) (ev_pos hgl ?_)
    rw [el.out,eg]
    refine ev_pos (by omega) (ev_pos (by rw [hl.out];omega) (ev_pos (by omega) (ev_pos (by omega) ?_)))
    rw [Int.toNat_natCast,rd_last,set_last,set_last,ei2.out]
    show Ev (fun k => if uC s x = 10 then bodkinref03_List.l0 k (L ++ [⟨cur.f0,wrap64 ((x : Int) + (uN s x : Int)),1,0⟩]) (unitsL s) (wrap64 ((x : Int) + (uN s x : Int))) ((i + 1 : Nat) : Int) else bodkinref03_List.l0 k (L ++ [⟨cur.f0,wrap64 ((x : Int) + (uN s x : Int)),cur.f2,cur.f3⟩]) (unitsL s) (wrap64 ((x : Int) + (uN s x : Int))) ((i + 1 : Nat) : Int)) _
    rw [ex.out]
    by_cases h10 : uC s x = 10
    ·rw [if_pos h10,if_pos h10]
     exact ev_pos h10 (ih (x + uN s x) (i + 1) x L _ (by omega) hnb hd' (by omega) hp' (by omega))
    ·rw [if_neg h10,if_neg h10]
     exact ev_neg h10 (ih (x + uN s x) (i + 1) x L _ (by omega) hnb hd' (by omega) hp' (by omega))
   ·rw [if_neg hgl]
    refine Ev.step (fun k => bodkinref03_List.j1.eq_2 ..) (ev_neg hgl (ev_pos (by omega) (ev_pos (by omega) ?_)))
    rw [eg]
    refine Ev.bind (ref_class_ans (uC s x)) (Ev.bind (ref_cells_ans (uC s x)) (ev_pos (by simp;omega) ?_))
    rw [ei2.out]
    show Ev (fun k => bodkinref03_List.l0 k ((L ++ [cur]) ++ [⟨(x : Int),wrap64 ((x : Int) + (uN s x : Int)),cls (uC s x),celB (uC s x)⟩]) (unitsL s) (wrap64 ((x : Int) + (uN s x : Int))) ((i + 1 : Nat) : Int)) _
    rw [ex.out]
    have := ih (x + uN s x) (i + 1) x (L ++ [cur]) ⟨(x : Int),((x + uN s x : Nat) : Int),cls (uC s x),celB (uC s x)⟩ (by omega) hnb hd' (by omega) hp' (by simp;omega)
    have e9 : L ++ cur :: passL s n (uC s x) ⟨(x : Int),((x + uN s x : Nat) : Int),cls (uC s x),celB (uC s x)⟩ (x + uN s x) = (L ++ [cur]) ++ passL s n (uC s x) ⟨(x : Int),((x + uN s x : Nat) : Int),cls (uC s x),celB (uC s x)⟩ (x + uN s x) := by simp
    rw [e9]
    exact this
  ·rw [tl_end s x (by omega)] at hd
   have := drop_nil_le hd
   rw [passL,if_neg hx]
   exact Ev.step (fun k => bodkinref03_List.l0.eq_2 ..) (ev_neg (by omega) (Ev.now _))
theorem ref_list_ans (s : ByteArray) (hs : s.size ≤ 1099511627776) : Ev (fun k => bodkinref03_List.f k s) (clusL s) := by
 have hul := unitsL_length s
 refine Ev.bind (ref_units_ans s hs) ?_
 by_cases h0 : 0 < s.size
 ·have h1 := uN_pos s 0
  have h4 := uN_le4 s 0
  have hle := uN_le s 0 h0
  have hd : (unitsL s).drop 0 = uAt s 0 :: tl s (uN s 0) := by rw [List.drop_zero,unitsL_tl,tl_go s 0 h0,Nat.zero_add]
  obtain ⟨hil,hg,hd'⟩ := drop_cons (d := z30) hd
  have eg : rd_T30 (unitsL s) (0 : Int) = uAt s 0 := by unfold rd_T30;exact hg
  have e1 : Hid (wrap64 ((0 : Int) + 1) = ((1 : Nat) : Int)) := Lib.hid (by rw [w64 (by omega) (by omega)];rfl)
  have ex : Hid (wrap64 ((0 : Int) + (uN s 0 : Int)) = ((uN s 0 : Nat) : Int)) := Lib.hid (by rw [w64 (by omega) (by omega)];omega)
  refine Ev.step (fun k => bodkinref03_List.l0.eq_2 ..) (ev_pos (by omega) (ev_neg (by omega) ?_))
  refine Ev.step (fun k => bodkinref03_List.j1.eq_2 ..) (ev_neg (by simp) (ev_pos (by omega) (ev_pos (by omega) ?_)))
  rw [eg]
  refine Ev.bind (ref_class_ans (uC s 0)) (Ev.bind (ref_cells_ans (uC s 0)) (ev_pos (by simp) ?_))
  rw [e1.out]
  show Ev (fun k => bodkinref03_List.l0 k ([] ++ [⟨0,wrap64 ((0 : Int) + (uN s 0 : Int)),cls (uC s 0),celB (uC s 0)⟩]) (unitsL s) (wrap64 ((0 : Int) + (uN s 0 : Int))) ((1 : Nat) : Int)) _
  rw [ex.out]
  have := ref_list_loop s hs s.size (uN s 0) 1 0 [] ⟨0,((uN s 0 : Nat) : Int),cls (uC s 0),celB (uC s 0)⟩ (by omega) (by have := bd_next s 0 (bd_zero s) h0;rwa [Nat.zero_add] at this) hd' (by omega) (by show (rd_T30 (unitsL s) (0 : Int)).f0 = _;rw [eg];rfl) (by simp)
  rw [List.nil_append,pass_all s h0 s.size (by omega)] at this
  exact this
 ·have : unitsL s = [] := by rw [unitsL_tl,tl_end s 0 (by omega)]
  rw [this,clusL_ctl,ctl_end s 0 (by omega)]
  exact Ev.step (fun k => bodkinref03_List.l0.eq_2 ..) (ev_neg (by simp) (Ev.now _))
end Go.Proofs.YtfhnfhgpaoddbaaDoor.Pu
end
