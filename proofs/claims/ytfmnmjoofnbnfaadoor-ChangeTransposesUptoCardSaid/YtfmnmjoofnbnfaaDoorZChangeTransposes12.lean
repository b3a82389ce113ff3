/- What the law ChangeTransposes reaches of this seat's own texts, merged; what nothing uses is left out. -/
import Derived.Test.YtfmnmjoofnbnfaaDoorZChangeTransposes0
import Derived.Test.YtfmnmjoofnbnfaaDoorZChangeTransposes1
import Derived.Test.YtfmnmjoofnbnfaaDoorZChangeTransposes5
import Derived.Test.YtfmnmjoofnbnfaaDoorZChangeTransposes10
import Derived.Test.YtfmnmjoofnbnfaaDoorZChangeTransposes11
section
namespace Go.Proofs.YtfmnmjoofnbnfaaDoor.U
open Go.RowKit Go.Proofs.YtfmnmjoofnbnfaaDoorW.PrintWords Go.Proofs.YtfmnmjoofnbnfaaDoorW.PrintLast Go.Proofs.YtfmnmjoofnbnfaaDoorW.PrintMore
attribute [local go_sem] max2_int min2_int max_two min_two max_three min_three max_four min_four   -- for this text's walks alone
set_option linter.unusedVariables false
set_option linter.unusedSimpArgs false
mutual
noncomputable def bodkinlaw17_ChangeTransposes.l0 : Nat → ByteArray → Int → List Int → Int → Option (Bool)
 | 0,_,_,_,_ => none
 | k + 1,x0,x1,x5,x6 => if x6 < (x5.length : Int) then (if 0 ≤ x6 then ((change_Of.f (rd x5 x6) 7 (⟨#[]⟩ : ByteArray) 0 x0 x1 (-1)).bind fun bt292 => (if bt292.2.2.2.2.2.2 = 0 then ((bodkinlaw17_inside.f x0 bt292.1 bt292.2.1 bt292.2.2.1).bind fun t304 => (if t304 = true then (if 0 ≤ bt292.1 then (if bt292.1 ≤ (wrap64 (bt292.1 + bt292.2.1)) then (if (wrap64 (bt292.1 + bt292.2.1)) ≤ (x0.size : Int) then (if ((x0.extract (bt292.1 : Int).toNat ((wrap64 (bt292.1 + bt292.2.1)) : Int).toNat).size : Int) = (bt292.2.2.1.size : Int) then (bodkinlaw17_ChangeTransposes.j1 k x0 x1 x5 x6 (x0.extract (bt292.1 : Int).toNat ((wrap64 (bt292.1 + bt292.2.1)) : Int).toNat) (bt292.2.2.2.1 != (wrap64 (bt292.1 + bt292.2.1))) bt292.1 bt292.2.1 bt292.2.2.1 bt292.2.2.2.1 bt292.2.2.2.2.1 bt292.2.2.2.2.2.1) else (bodkinlaw17_ChangeTransposes.j1 k x0 x1 x5 x6 (x0.extract (bt292.1 : Int).toNat ((wrap64 (bt292.1 + bt292.2.1)) : Int).toNat) true bt292.1 bt292.2.1 bt292.2.2.1 bt292.2.2.2.1 bt292.2.2.2.2.1 bt292.2.2.2.2.2.1)) else (none)) else (none)) else (none)) else (some false))) else (if bt292.2.2.2.2.2.2 = 8 then (if (rd x5 x6) = 25 then ((word_Spans.f x0).bind fun t301 => (if (t301.length : Int) > 1 then (some false) else (bodkinlaw17_ChangeTransposes.l0 k x0 x1 x5 (wrap64 (x6 + 1))))) else (bodkinlaw17_ChangeTransposes.l0 k x0 x1 x5 (wrap64 (x6 + 1)))) else (some false)))) else (none)) else (some true)
noncomputable def bodkinlaw17_ChangeTransposes.j1 : Nat → ByteArray → Int → List Int → Int → ByteArray → Bool → Int → Int → ByteArray → Int → ByteArray → Bool → Option (Bool)
 | 0,_,_,_,_,_,_,_,_,_,_,_,_ => none
 | k + 1,x0,x1,x5,x6,x9,x83,x300000,x300001,x300002,x300003,x300004,x300005 => if x83 = true then (some false) else (bodkinlaw17_ChangeTransposes.l1 k x0 x1 x5 x6 x9 0 x300000 x300001 x300002 x300003 x300004 x300005)
noncomputable def bodkinlaw17_ChangeTransposes.l1 : Nat → ByteArray → Int → List Int → Int → ByteArray → Int → Int → Int → ByteArray → Int → ByteArray → Bool → Option (Bool)
 | 0,_,_,_,_,_,_,_,_,_,_,_,_ => none
 | k + 1,x0,x1,x5,x6,x9,x10,x300000,x300001,x300002,x300003,x300004,x300005 => if x10 < 256 then ((bodkinlaw17_count.f k x9 ((x10) % 256)).bind fun t305 => ((bodkinlaw17_count.f k x300002 ((x10) % 256)).bind fun t306 => (if t305 = t306 then (bodkinlaw17_ChangeTransposes.l1 k x0 x1 x5 x6 x9 (wrap64 (x10 + 1)) x300000 x300001 x300002 x300003 x300004 x300005) else (some false)))) else (if 0 ≤ x6 then (if x6 < (x5.length : Int) then (if (rd x5 x6) = 24 then ((cluster_Count.f x9).bind fun t308 => (if t308 = 2 then ((bodkinlaw17_count.f k x9 10).bind fun t309 => (bodkinlaw17_ChangeTransposes.j3 k x0 x1 x5 x6 x9 (t309 != 0))) else (bodkinlaw17_ChangeTransposes.j3 k x0 x1 x5 x6 x9 true))) else (bodkinlaw17_ChangeTransposes.j3 k x0 x1 x5 x6 x9 false)) else (none)) else (none))
noncomputable def bodkinlaw17_ChangeTransposes.j3 : Nat → ByteArray → Int → List Int → Int → ByteArray → Bool → Option (Bool)
 | 0,_,_,_,_,_,_ => none
 | k + 1,x0,x1,x5,x6,x9,x113 => if x113 = true then (some false) else (if 0 ≤ x6 then (if x6 < (x5.length : Int) then (if (rd x5 x6) = 25 then ((word_Spans.f x9).bind fun t311 => (if (t311.length : Int) = 2 then (bodkinlaw17_ChangeTransposes.l0 k x0 x1 x5 (wrap64 (x6 + 1))) else (some false))) else (bodkinlaw17_ChangeTransposes.l0 k x0 x1 x5 (wrap64 (x6 + 1)))) else (none)) else (none))
end
noncomputable def bodkinlaw17_ChangeTransposes.f (k : Nat) (a0 : ByteArray) (a1 : Int) : Option (Bool) := (bodkinlaw17_awake.f k).bind fun t287 => (if t287 = true then (bodkinlaw17_ChangeTransposes.l0 k a0 a1 (([24,25] : List Int)) 0) else (some false))
set_option maxHeartbeats 8000000 in
set_option maxRecDepth 100000 in
theorem bodkinlaw17_ChangeTransposes.calls (k : Nat) (a0 : ByteArray) (a1 : Int) (r : Bool) (hr_ : r = true) (w : World) (hT : Lib.Utf8Tabs 1 2 w) (h : bodkinlaw17_ChangeTransposes.f k a0 a1 = some r) :
  Calls Tryd.prog 7 #[.string a0,.int .i64 a1] w fun e w' => e = .returned (.bool r) ∧ Below w.heap.size w w' := by
 have hu35 := Tryd.underlying35
 have hu30 := Tryd.underlying30
 have hu28 := Tryd.underlying28
 have HT := Aside0.mk hT
 clear hT
 have HB := Aside0.mk (Below.refl w.heap.size w)
 have H : ((bodkinlaw17_awake.f k).bind fun t287 => (if t287 = true then (bodkinlaw17_ChangeTransposes.l0 k a0 a1 (([24,25] : List Int)) 0) else (some false))) = some r := h
 clear h
 replace H := Option.bind_eq_some_iff.mp H
 obtain ⟨t287,A30,H⟩ := H
 replace H : (if t287 = true then (bodkinlaw17_ChangeTransposes.l0 k a0 a1 (([24,25] : List Int)) 0) else (some false)) = some r := H
 have A3 := Aside0.mk A30
 clear A30
 by_cases c4 : t287 = true
 ·subst c4
  have H1 : (bodkinlaw17_ChangeTransposes.l0 k a0 a1 (([24,25] : List Int)) 0) = some r := by rw [if_pos rfl] at H;exact H
  clear H
  have H := H1
  clear H1
  obtain ⟨y288,hy288⟩ : ∃ y_ : List Int,y_ = (([24,25] : List Int)) := ⟨_,rfl⟩
  replace H : (bodkinlaw17_ChangeTransposes.l0 k a0 a1 y288 0) = some r := by first | (rw [hy288];with_reducible exact H) | (have H2_ := (Option.bind_some _ _).symm.trans H;rw [hy288];with_reducible exact H2_) | (have H2_ := (Option.bind_some _ _).symm.trans H;with_reducible exact H2_) | with_reducible exact H | (rw [hy288];exact H) | exact H
  have Ny288 := Aside0.mk hy288
  clear hy288
  have H' := Aside0.mk H
  clear H
  go_enter Tryd.func7,Tryd.ntmps7
  go_wp2_with (first | (go_at_call 8;(with_reducible refine (bodkinlaw17_awake.calls k true rfl _ ?side1 A3.out).mono ?_);(case side1 => exact tabs_below HT.out au0);rintro e w5 ⟨rfl,hb⟩;have n0_ := Aside0.mk (below_step au0 hb);clear HB;have HB := n0_;clear n0_;(try clear hb);(try clear hb2);(try clear hk);(try clear hi)) | ((with_reducible refine gate_dst (N := 13) rfl ?_);(try (refine gate_guard (by rfl) ?_;dsimp only));refine Kd.R_lit (Kd.int .i64) _ 25 ?hg (N := 13) ?hd (xs := ([24,25] : List Int)) (inner := [.int .i64 24,.int .i64 25]) (ok := fun _ => True) (okp := fun _ => True) ?hr ?hp (fun _ hk => hk) trivial (Below.refl _ _) (Nat.le_refl _) (by simp) ?_;(case hd => rfl);(case hg => rfl);(case hr => first | (go_simp;done) | (go_simp;rfl));(case hp => exact (Reps.one (show Kd.M (Kd.int .i64) _ _ _ 24 [.int .i64 24] from rfl) (Reps.one (show Kd.M (Kd.int .i64) _ _ _ 25 [.int .i64 25] from rfl) (Reps.none _ _))));intro v289 w6 ho7 hb hg_ hnew_;clear hg_ hnew_;(first | rw [← Ny288.out] at ho7 | (simp only [Int.reduceToNat] at ho7;rw [← Ny288.out] at ho7));have n0_ := Aside0.mk (Kd.R_lower ho7 (below_size au0));have n1_ := Aside0.mk (below_step au0 hb);clear HB;have HO290 := n0_;have HB := n1_;clear n0_ n1_;clear hb ho7))
  repeat (go_quiet (first | (go_at_call 8;(with_reducible refine (bodkinlaw17_awake.calls k true rfl _ ?side1 A3.out).mono ?_);(case side1 => exact tabs_below HT.out au0);rintro e w5 ⟨rfl,hb⟩;have n0_ := Aside0.mk (below_step au0 hb);clear HB;have HB := n0_;clear n0_;(try clear hb);(try clear hb2);(try clear hk);(try clear hi)) | ((with_reducible refine gate_dst (N := 13) rfl ?_);(try (refine gate_guard (by rfl) ?_;dsimp only));refine Kd.R_lit (Kd.int .i64) _ 25 ?hg (N := 13) ?hd (xs := ([24,25] : List Int)) (inner := [.int .i64 24,.int .i64 25]) (ok := fun _ => True) (okp := fun _ => True) ?hr ?hp (fun _ hk => hk) trivial (Below.refl _ _) (Nat.le_refl _) (by simp) ?_;(case hd => rfl);(case hg => rfl);(case hr => first | (go_simp;done) | (go_simp;rfl));(case hp => exact (Reps.one (show Kd.M (Kd.int .i64) _ _ _ 24 [.int .i64 24] from rfl) (Reps.one (show Kd.M (Kd.int .i64) _ _ _ 25 [.int .i64 25] from rfl) (Reps.none _ _))));intro v289 w6 ho7 hb hg_ hnew_;clear hg_ hnew_;(first | rw [← Ny288.out] at ho7 | (simp only [Int.reduceToNat] at ho7;rw [← Ny288.out] at ho7));have n0_ := Aside0.mk (Kd.R_lower ho7 (below_size au0));have n1_ := Aside0.mk (below_step au0 hb);clear HB;have HO290 := n0_;have HB := n1_;clear n0_ n1_;clear hb ho7));try go_wp2_with (first | (go_at_call 8;(with_reducible refine (bodkinlaw17_awake.calls k true rfl _ ?side1 A3.out).mono ?_);(case side1 => exact tabs_below HT.out au0);rintro e w5 ⟨rfl,hb⟩;have n0_ := Aside0.mk (below_step au0 hb);clear HB;have HB := n0_;clear n0_;(try clear hb);(try clear hb2);(try clear hk);(try clear hi)) | ((with_reducible refine gate_dst (N := 13) rfl ?_);(try (refine gate_guard (by rfl) ?_;dsimp only));refine Kd.R_lit (Kd.int .i64) _ 25 ?hg (N := 13) ?hd (xs := ([24,25] : List Int)) (inner := [.int .i64 24,.int .i64 25]) (ok := fun _ => True) (okp := fun _ => True) ?hr ?hp (fun _ hk => hk) trivial (Below.refl _ _) (Nat.le_refl _) (by simp) ?_;(case hd => rfl);(case hg => rfl);(case hr => first | (go_simp;done) | (go_simp;rfl));(case hp => exact (Reps.one (show Kd.M (Kd.int .i64) _ _ _ 24 [.int .i64 24] from rfl) (Reps.one (show Kd.M (Kd.int .i64) _ _ _ 25 [.int .i64 25] from rfl) (Reps.none _ _))));intro v289 w6 ho7 hb hg_ hnew_;clear hg_ hnew_;(first | rw [← Ny288.out] at ho7 | (simp only [Int.reduceToNat] at ho7;rw [← Ny288.out] at ho7));have n0_ := Aside0.mk (Kd.R_lower ho7 (below_size au0));have n1_ := Aside0.mk (below_step au0 hb);clear HB;have HO290 := n0_;have HB := n1_;clear n0_ n1_;clear hb ho7)))
  go_loopg [6] k (fun kq v6 w' => ∃ (x6_1 : Int),v6 = .int .i64 x6_1 ∧ Aside0 (bodkinlaw17_ChangeTransposes.l0 kq a0 a1 y288 x6_1 = some r) ∧ Aside0 (kq ≤ k) ∧ Aside0 (Kd.R (Kd.int .i64) 25 w' w.heap.size (fun _ => True) v289 y288) ∧ Aside0 (Below w.heap.size w w'))
  case atStart => exact ⟨(0),au8,H',⟨Nat.le_refl _⟩,⟨by (with_reducible repeat (first | apply Kd.R_alloc | apply Kd.R_drewN | apply Kd.R_drew));exact HO290.out⟩,⟨au0⟩⟩
  case round =>
   clear H'
   try clear p2
   try clear c4
   try clear c7
   obtain ⟨x6_1,rfl,HA,HK1,HO_5,HB⟩ := hrel
   cases gk with
   | zero => exact absurd HA.out (by simp [bodkinlaw17_ChangeTransposes.l0])
   | succ k1 =>
    have H := HA.out
    clear HA
    simp only [bodkinlaw17_ChangeTransposes.l0] at H
    by_cases c8 : x6_1 < (y288.length : Int)
    ·rw [if_pos c8] at H
     have c8b0 : decide (x6_1 < (y288.length : Int)) = true := decide_eq_true c8
     clear c8
     by_cases c9 : 0 ≤ x6_1
     ·rw [if_pos c9] at H
      have c9b0 : decide (0 ≤ x6_1) = true := decide_eq_true c9
      clear c9
      replace H := Option.bind_eq_some_iff.mp H
      obtain ⟨⟨t292,t293,t294,t295,t296,t297,t298⟩,A100,H⟩ := H
      replace H : (if t298 = 0 then ((bodkinlaw17_inside.f a0 t292 t293 t294).bind fun t304 => (if t304 = true then (if 0 ≤ t292 then (if t292 ≤ (wrap64 (t292 + t293)) then (if (wrap64 (t292 + t293)) ≤ (a0.size : Int) then (if ((a0.extract (t292 : Int).toNat ((wrap64 (t292 + t293)) : Int).toNat).size : Int) = (t294.size : Int) then (bodkinlaw17_ChangeTransposes.j1 k1 a0 a1 y288 x6_1 (a0.extract (t292 : Int).toNat ((wrap64 (t292 + t293)) : Int).toNat) (t295 != (wrap64 (t292 + t293))) t292 t293 t294 t295 t296 t297) else (bodkinlaw17_ChangeTransposes.j1 k1 a0 a1 y288 x6_1 (a0.extract (t292 : Int).toNat ((wrap64 (t292 + t293)) : Int).toNat) true t292 t293 t294 t295 t296 t297)) else (none)) else (none)) else (none)) else (some false))) else (if t298 = 8 then (if (rd y288 x6_1) = 25 then ((word_Spans.f a0).bind fun t301 => (if (t301.length : Int) > 1 then (some false) else (bodkinlaw17_ChangeTransposes.l0 k1 a0 a1 y288 (wrap64 (x6_1 + 1))))) else (bodkinlaw17_ChangeTransposes.l0 k1 a0 a1 y288 (wrap64 (x6_1 + 1)))) else (some false))) = some r := H
      have A10 := Aside0.mk A100
      clear A100
      by_cases c11 : t298 = 0
      ·rw [if_pos c11] at H
       have c11b0 : (t298 == 0) = true := beq_iff_eq.mpr c11
       have c11b1 : (t298 != 0) = false := bne_eq_false_iff_eq.mpr c11
       clear c11
       replace H := Option.bind_eq_some_iff.mp H
       obtain ⟨t304,A120,H⟩ := H
       replace H : (if t304 = true then (if 0 ≤ t292 then (if t292 ≤ (wrap64 (t292 + t293)) then (if (wrap64 (t292 + t293)) ≤ (a0.size : Int) then (if ((a0.extract (t292 : Int).toNat ((wrap64 (t292 + t293)) : Int).toNat).size : Int) = (t294.size : Int) then (bodkinlaw17_ChangeTransposes.j1 k1 a0 a1 y288 x6_1 (a0.extract (t292 : Int).toNat ((wrap64 (t292 + t293)) : Int).toNat) (t295 != (wrap64 (t292 + t293))) t292 t293 t294 t295 t296 t297) else (bodkinlaw17_ChangeTransposes.j1 k1 a0 a1 y288 x6_1 (a0.extract (t292 : Int).toNat ((wrap64 (t292 + t293)) : Int).toNat) true t292 t293 t294 t295 t296 t297)) else (none)) else (none)) else (none)) else (some false)) = some r := H
       have A12 := Aside0.mk A120
       clear A120
       by_cases c13 : t304 = true
       ·subst c13
        have H1 : (if 0 ≤ t292 then (if t292 ≤ (wrap64 (t292 + t293)) then (if (wrap64 (t292 + t293)) ≤ (a0.size : Int) then (if ((a0.extract (t292 : Int).toNat ((wrap64 (t292 + t293)) : Int).toNat).size : Int) = (t294.size : Int) then (bodkinlaw17_ChangeTransposes.j1 k1 a0 a1 y288 x6_1 (a0.extract (t292 : Int).toNat ((wrap64 (t292 + t293)) : Int).toNat) (t295 != (wrap64 (t292 + t293))) t292 t293 t294 t295 t296 t297) else (bodkinlaw17_ChangeTransposes.j1 k1 a0 a1 y288 x6_1 (a0.extract (t292 : Int).toNat ((wrap64 (t292 + t293)) : Int).toNat) true t292 t293 t294 t295 t296 t297)) else (none)) else (none)) else (none)) = some r := by rw [if_pos rfl] at H;exact H
        clear H
        have H := H1
        clear H1
        by_cases c14 : 0 ≤ t292
        ·rw [if_pos c14] at H
         have c14b0 := eq_true c14
         have c14b1 : decide (0 ≤ t292) = true := decide_eq_true c14
         clear c14
         by_cases c15 : t292 ≤ (wrap64 (t292 + t293))
         ·rw [if_pos c15] at H
          have c15b0 := eq_true c15
          have c15b1 : decide (t292 ≤ (wrap64 (t292 + t293))) = true := decide_eq_true c15
          by_cases c16 : (wrap64 (t292 + t293)) ≤ (a0.size : Int)
          ·rw [if_pos c16] at H
           have c16b0 := eq_true c16
           have c16b1 : decide ((wrap64 (t292 + t293)) ≤ (a0.size : Int)) = true := decide_eq_true c16
           have HC17 := Aside0.mk H
           clear H
           obtain ⟨Ao18,co18,eo18⟩ := Kd.R_slice HO_5.out
           subst eo18
           have p291 : 0 ≤ (x6_1 : Int) := of_decide_eq_true au12
           have q291 : x6_1 < (y288.length : Int) := of_decide_eq_true au12
           obtain ⟨ad291,e291,hx291_0⟩ := Kd.at_int (Kd.R_reads' HO_5.out).2.2 x6_1 p291 q291
           cases e291
           replace p291 := eq_true p291
           replace q291 := eq_true q291
           go_upto_region 14 with (first | (go_at_call 9;(with_reducible refine (change_Of.calls (rd y288 x6_1) 7 (⟨#[]⟩ : ByteArray) 0 a0 a1 (-1) t292 t293 t294 t295 t296 t297 t298 _ ?side1 A10.out).mono ?_);(case side1 => exact tabs_below HT.out au0);rintro e w19 ⟨rfl,hb⟩;have n0_ := Aside0.mk (Kd.R_below au13 hb);have n1_ := Aside0.mk (below_step au0 hb);clear HO_5;clear HB;have HO_5 := n0_;have HB := n1_;clear n0_ n1_;(try clear hb);(try clear hb2);(try clear hk);(try clear hi)) | ((with_reducible refine gate_dst (N := 7) rfl ?_);(try (refine gate_guard (by rfl) ?_;dsimp only));refine box_event ?hg (N := 7) ?hd (cs := #[.int .i64 0,.int .i64 0,.string (⟨#[]⟩ : ByteArray),.int .i64 0,.string (⟨#[]⟩ : ByteArray),.bool false]) (t := 30) ?hr ?_;(case hd => rfl);(case hg => rfl);(case hr => first | (go_simp;done) | (go_simp;rfl));intro gb299 hg w20 hbox hb;have n0_ := Aside0.mk (Kd.R_below au13 hb);have n1_ := Aside0.mk (below_step au0 hb);have n2_ := Aside0.mk (hbox);have n3_ := Aside0.mk ((by rw [hg];exact (below_size au0) : w.heap.size ≤ gb299));have n4_ := Aside0.mk ((by rw [hg];exact (below_size au0) : w.heap.size ≤ gb299));clear HO_5;clear HB;have HO_5 := n0_;have HB := n1_;have BK299 := n2_;have GW299 := n3_;have GE299 := n4_;clear n0_ n1_ n2_ n3_ n4_;clear hb hbox hg;have hcz21_0 : w20.cell? ⟨gb299,0,none⟩ = some (.int .i64 0) := (blk_cell BK299.out 0).trans rfl;have hcz21_1 : w20.cell? ⟨gb299,1,none⟩ = some (.int .i64 0) := (blk_cell BK299.out 1).trans rfl;have hcz21_2 : w20.cell? ⟨gb299,2,none⟩ = some (.string (⟨#[]⟩ : ByteArray)) := (blk_cell BK299.out 2).trans rfl;have hcz21_3 : w20.cell? ⟨gb299,3,none⟩ = some (.int .i64 0) := (blk_cell BK299.out 3).trans rfl;have hcz21_4 : w20.cell? ⟨gb299,4,none⟩ = some (.string (⟨#[]⟩ : ByteArray)) := (blk_cell BK299.out 4).trans rfl;have hcz21_5 : w20.cell? ⟨gb299,5,none⟩ = some (.bool false) := (blk_cell BK299.out 5).trans rfl;have hfz21_0 := blk_frozen BK299.out 0;have hfz21_1 := blk_frozen BK299.out 1;have hfz21_2 := blk_frozen BK299.out 2;have hfz21_3 := blk_frozen BK299.out 3;have hfz21_4 := blk_frozen BK299.out 4;have hfz21_5 := blk_frozen BK299.out 5) | (go_at_call 17;(with_reducible refine (bodkinlaw17_inside.calls a0 t292 t293 t294 true _ A12.out).mono ?_);rintro e w22 ⟨rfl,hb⟩;have n0_ := Aside0.mk (Kd.R_below au11 hb);have n1_ := Aside0.mk (blk_below (g := gb299) (o := .cells #[.int .i64 t292,.int .i64 t293,.string t294,.int .i64 t295,.string t296,.bool t297] 30 (0,0)) au2 hb);have n2_ := Aside0.mk (below_step au6 hb);clear HO_5;clear BK299;clear HB;have HO_5 := n0_;have BK299 := n1_;have HB := n2_;clear n0_ n1_ n2_;(try clear hb);(try clear hb2);(try clear hk);(try clear hi);have hcz23_0 : w22.cell? ⟨gb299,0,none⟩ = some (.int .i64 t292) := (blk_cell BK299.out 0).trans rfl;have hcz23_1 : w22.cell? ⟨gb299,1,none⟩ = some (.int .i64 t293) := (blk_cell BK299.out 1).trans rfl;have hcz23_2 : w22.cell? ⟨gb299,2,none⟩ = some (.string t294) := (blk_cell BK299.out 2).trans rfl;have hcz23_3 : w22.cell? ⟨gb299,3,none⟩ = some (.int .i64 t295) := (blk_cell BK299.out 3).trans rfl;have hcz23_4 : w22.cell? ⟨gb299,4,none⟩ = some (.string t296) := (blk_cell BK299.out 4).trans rfl;have hcz23_5 : w22.cell? ⟨gb299,5,none⟩ = some (.bool t297) := (blk_cell BK299.out 5).trans rfl;have hfz23_0 := blk_frozen BK299.out 0;have hfz23_1 := blk_frozen BK299.out 1;have hfz23_2 := blk_frozen BK299.out 2;have hfz23_3 := blk_frozen BK299.out 3;have hfz23_4 := blk_frozen BK299.out 4;have hfz23_5 := blk_frozen BK299.out 5))
           repeat (go_quiet (first | (go_at_call 9;(with_reducible refine (change_Of.calls (rd y288 x6_1) 7 (⟨#[]⟩ : ByteArray) 0 a0 a1 (-1) t292 t293 t294 t295 t296 t297 t298 _ ?side1 A10.out).mono ?_);(case side1 => exact tabs_below HT.out au0);rintro e w19 ⟨rfl,hb⟩;have n0_ := Aside0.mk (Kd.R_below au13 hb);have n1_ := Aside0.mk (below_step au0 hb);clear HO_5;clear HB;have HO_5 := n0_;have HB := n1_;clear n0_ n1_;(try clear hb);(try clear hb2);(try clear hk);(try clear hi)) | ((with_reducible refine gate_dst (N := 7) rfl ?_);(try (refine gate_guard (by rfl) ?_;dsimp only));refine box_event ?hg (N := 7) ?hd (cs := #[.int .i64 0,.int .i64 0,.string (⟨#[]⟩ : ByteArray),.int .i64 0,.string (⟨#[]⟩ : ByteArray),.bool false]) (t := 30) ?hr ?_;(case hd => rfl);(case hg => rfl);(case hr => first | (go_simp;done) | (go_simp;rfl));intro gb299 hg w20 hbox hb;have n0_ := Aside0.mk (Kd.R_below au13 hb);have n1_ := Aside0.mk (below_step au0 hb);have n2_ := Aside0.mk (hbox);have n3_ := Aside0.mk ((by rw [hg];exact (below_size au0) : w.heap.size ≤ gb299));have n4_ := Aside0.mk ((by rw [hg];exact (below_size au0) : w.heap.size ≤ gb299));clear HO_5;clear HB;have HO_5 := n0_;have HB := n1_;have BK299 := n2_;have GW299 := n3_;have GE299 := n4_;clear n0_ n1_ n2_ n3_ n4_;clear hb hbox hg;have hcz21_0 : w20.cell? ⟨gb299,0,none⟩ = some (.int .i64 0) := (blk_cell BK299.out 0).trans rfl;have hcz21_1 : w20.cell? ⟨gb299,1,none⟩ = some (.int .i64 0) := (blk_cell BK299.out 1).trans rfl;have hcz21_2 : w20.cell? ⟨gb299,2,none⟩ = some (.string (⟨#[]⟩ : ByteArray)) := (blk_cell BK299.out 2).trans rfl;have hcz21_3 : w20.cell? ⟨gb299,3,none⟩ = some (.int .i64 0) := (blk_cell BK299.out 3).trans rfl;have hcz21_4 : w20.cell? ⟨gb299,4,none⟩ = some (.string (⟨#[]⟩ : ByteArray)) := (blk_cell BK299.out 4).trans rfl;have hcz21_5 : w20.cell? ⟨gb299,5,none⟩ = some (.bool false) := (blk_cell BK299.out 5).trans rfl;have hfz21_0 := blk_frozen BK299.out 0;have hfz21_1 := blk_frozen BK299.out 1;have hfz21_2 := blk_frozen BK299.out 2;have hfz21_3 := blk_frozen BK299.out 3;have hfz21_4 := blk_frozen BK299.out 4;have hfz21_5 := blk_frozen BK299.out 5) | (go_at_call 17;(with_reducible refine (bodkinlaw17_inside.calls a0 t292 t293 t294 true _ A12.out).mono ?_);rintro e w22 ⟨rfl,hb⟩;have n0_ := Aside0.mk (Kd.R_below au11 hb);have n1_ := Aside0.mk (blk_below (g := gb299) (o := .cells #[.int .i64 t292,.int .i64 t293,.string t294,.int .i64 t295,.string t296,.bool t297] 30 (0,0)) au2 hb);have n2_ := Aside0.mk (below_step au6 hb);clear HO_5;clear BK299;clear HB;have HO_5 := n0_;have BK299 := n1_;have HB := n2_;clear n0_ n1_ n2_;(try clear hb);(try clear hb2);(try clear hk);(try clear hi);have hcz23_0 : w22.cell? ⟨gb299,0,none⟩ = some (.int .i64 t292) := (blk_cell BK299.out 0).trans rfl;have hcz23_1 : w22.cell? ⟨gb299,1,none⟩ = some (.int .i64 t293) := (blk_cell BK299.out 1).trans rfl;have hcz23_2 : w22.cell? ⟨gb299,2,none⟩ = some (.string t294) := (blk_cell BK299.out 2).trans rfl;have hcz23_3 : w22.cell? ⟨gb299,3,none⟩ = some (.int .i64 t295) := (blk_cell BK299.out 3).trans rfl;have hcz23_4 : w22.cell? ⟨gb299,4,none⟩ = some (.string t296) := (blk_cell BK299.out 4).trans rfl;have hcz23_5 : w22.cell? ⟨gb299,5,none⟩ = some (.bool t297) := (blk_cell BK299.out 5).trans rfl;have hfz23_0 := blk_frozen BK299.out 0;have hfz23_1 := blk_frozen BK299.out 1;have hfz23_2 := blk_frozen BK299.out 2;have hfz23_3 := blk_frozen BK299.out 3;have hfz23_4 := blk_frozen BK299.out 4;have hfz23_5 := blk_frozen BK299.out 5));go_upto_region 14 with (first | (go_at_call 9;(with_reducible refine (change_Of.calls (rd y288 x6_1) 7 (⟨#[]⟩ : ByteArray) 0 a0 a1 (-1) t292 t293 t294 t295 t296 t297 t298 _ ?side1 A10.out).mono ?_);(case side1 => exact tabs_below HT.out au0);rintro e w19 ⟨rfl,hb⟩;have n0_ := Aside0.mk (Kd.R_below au13 hb);have n1_ := Aside0.mk (below_step au0 hb);clear HO_5;clear HB;have HO_5 := n0_;have HB := n1_;clear n0_ n1_;(try clear hb);(try clear hb2);(try clear hk);(try clear hi)) | ((with_reducible refine gate_dst (N := 7) rfl ?_);(try (refine gate_guard (by rfl) ?_;dsimp only));refine box_event ?hg (N := 7) ?hd (cs := #[.int .i64 0,.int .i64 0,.string (⟨#[]⟩ : ByteArray),.int .i64 0,.string (⟨#[]⟩ : ByteArray),.bool false]) (t := 30) ?hr ?_;(case hd => rfl);(case hg => rfl);(case hr => first | (go_simp;done) | (go_simp;rfl));intro gb299 hg w20 hbox hb;have n0_ := Aside0.mk (Kd.R_below au13 hb);have n1_ := Aside0.mk (below_step au0 hb);have n2_ := Aside0.mk (hbox);have n3_ := Aside0.mk ((by rw [hg];exact (below_size au0) : w.heap.size ≤ gb299));have n4_ := Aside0.mk ((by rw [hg];exact (below_size au0) : w.heap.size ≤ gb299));clear HO_5;clear HB;have HO_5 := n0_;have HB := n1_;have BK299 := n2_;have GW299 := n3_;have GE299 := n4_;clear n0_ n1_ n2_ n3_ n4_;clear hb hbox hg;have hcz21_0 : w20.cell? ⟨gb299,0,none⟩ = some (.int .i64 0) := (blk_cell BK299.out 0).trans rfl;have hcz21_1 : w20.cell? ⟨gb299,1,none⟩ = some (.int .i64 0) := (blk_cell BK299.out 1).trans rfl;have hcz21_2 : w20.cell? ⟨gb299,2,none⟩ = some (.string (⟨#[]⟩ : ByteArray)) := (blk_cell BK299.out 2).trans rfl;have hcz21_3 : w20.cell? ⟨gb299,3,none⟩ = some (.int .i64 0) := (blk_cell BK299.out 3).trans rfl;have hcz21_4 : w20.cell? ⟨gb299,4,none⟩ = some (.string (⟨#[]⟩ : ByteArray)) := (blk_cell BK299.out 4).trans rfl;have hcz21_5 : w20.cell? ⟨gb299,5,none⟩ = some (.bool false) := (blk_cell BK299.out 5).trans rfl;have hfz21_0 := blk_frozen BK299.out 0;have hfz21_1 := blk_frozen BK299.out 1;have hfz21_2 := blk_frozen BK299.out 2;have hfz21_3 := blk_frozen BK299.out 3;have hfz21_4 := blk_frozen BK299.out 4;have hfz21_5 := blk_frozen BK299.out 5) | (go_at_call 17;(with_reducible refine (bodkinlaw17_inside.calls a0 t292 t293 t294 true _ A12.out).mono ?_);rintro e w22 ⟨rfl,hb⟩;have n0_ := Aside0.mk (Kd.R_below au11 hb);have n1_ := Aside0.mk (blk_below (g := gb299) (o := .cells #[.int .i64 t292,.int .i64 t293,.string t294,.int .i64 t295,.string t296,.bool t297] 30 (0,0)) au2 hb);have n2_ := Aside0.mk (below_step au6 hb);clear HO_5;clear BK299;clear HB;have HO_5 := n0_;have BK299 := n1_;have HB := n2_;clear n0_ n1_ n2_;(try clear hb);(try clear hb2);(try clear hk);(try clear hi);have hcz23_0 : w22.cell? ⟨gb299,0,none⟩ = some (.int .i64 t292) := (blk_cell BK299.out 0).trans rfl;have hcz23_1 : w22.cell? ⟨gb299,1,none⟩ = some (.int .i64 t293) := (blk_cell BK299.out 1).trans rfl;have hcz23_2 : w22.cell? ⟨gb299,2,none⟩ = some (.string t294) := (blk_cell BK299.out 2).trans rfl;have hcz23_3 : w22.cell? ⟨gb299,3,none⟩ = some (.int .i64 t295) := (blk_cell BK299.out 3).trans rfl;have hcz23_4 : w22.cell? ⟨gb299,4,none⟩ = some (.string t296) := (blk_cell BK299.out 4).trans rfl;have hcz23_5 : w22.cell? ⟨gb299,5,none⟩ = some (.bool t297) := (blk_cell BK299.out 5).trans rfl;have hfz23_0 := blk_frozen BK299.out 0;have hfz23_1 := blk_frozen BK299.out 1;have hfz23_2 := blk_frozen BK299.out 2;have hfz23_3 := blk_frozen BK299.out 3;have hfz23_4 := blk_frozen BK299.out 4;have hfz23_5 := blk_frozen BK299.out 5)))
           (try simp only [Act.put,List.setIfInBounds_toArray,List.set_cons_zero,List.set_cons_succ])
           go_cut [83] (fun v83 wc => ∃ (kq : Nat) (x83_16 : Bool),v83 = .bool x83_16 ∧ Aside0 (bodkinlaw17_ChangeTransposes.j1 kq a0 a1 y288 x6_1 (a0.extract (t292 : Int).toNat ((wrap64 (t292 + t293)) : Int).toNat) x83_16 t292 t293 t294 t295 t296 t297 = some r) ∧ Aside0 (kq ≤ k1) ∧ Aside0 (Kd.R (Kd.int .i64) 25 wc w.heap.size (fun _ => True) (.slice (some ad291) y288.length co18) y288) ∧ Aside0 (wc.heap[gb299]? = some (.cells #[.int .i64 t292,.int .i64 t293,.string t294,.int .i64 t295,.string t296,.bool t297] 30 (0,0))) ∧ Aside0 (Below w.heap.size w wc))
           case first =>
            have H := HC17.out
            clear HC17
            by_cases c24 : ((a0.extract (t292 : Int).toNat ((wrap64 (t292 + t293)) : Int).toNat).size : Int) = (t294.size : Int)
            ·rw [if_pos c24] at H
             have c24b0 : (((a0.extract (t292 : Int).toNat ((wrap64 (t292 + t293)) : Int).toNat).size : Int) == (t294.size : Int)) = true := beq_iff_eq.mpr c24
             have c24b1 : (((a0.extract (t292 : Int).toNat ((wrap64 (t292 + t293)) : Int).toNat).size : Int) != (t294.size : Int)) = false := bne_eq_false_iff_eq.mpr c24
             have c24b2 : ((a0.extract (t292 : Int).toNat ((wrap64 (t292 + t293)) : Int).toNat).size == t294.size) = true := by first | simpa using c24 | (simp at c24 ⊢;omega)
             clear c24
             (first | rw [c24b0] | (simp only [i64_w,i32_w];rw [c24b0]) | skip)
             have H' := Aside0.mk H
             clear H
             have hcz25_0 : w22.cell? ⟨gb299,0,none⟩ = some (.int .i64 t292) := (blk_cell BK299.out 0).trans rfl
             have hcz25_1 : w22.cell? ⟨gb299,1,none⟩ = some (.int .i64 t293) := (blk_cell BK299.out 1).trans rfl
             have hcz25_2 : w22.cell? ⟨gb299,2,none⟩ = some (.string t294) := (blk_cell BK299.out 2).trans rfl
             have hcz25_3 : w22.cell? ⟨gb299,3,none⟩ = some (.int .i64 t295) := (blk_cell BK299.out 3).trans rfl
             have hcz25_4 : w22.cell? ⟨gb299,4,none⟩ = some (.string t296) := (blk_cell BK299.out 4).trans rfl
             have hcz25_5 : w22.cell? ⟨gb299,5,none⟩ = some (.bool t297) := (blk_cell BK299.out 5).trans rfl
             have hfz25_0 := blk_frozen BK299.out 0
             have hfz25_1 := blk_frozen BK299.out 1
             have hfz25_2 := blk_frozen BK299.out 2
             have hfz25_3 := blk_frozen BK299.out 3
             have hfz25_4 := blk_frozen BK299.out 4
             have hfz25_5 := blk_frozen BK299.out 5
             go_wp2
             repeat (go_quiet (fail);try go_wp2)
             go_meet
             case rel => exact ⟨_,((t295 != (wrap64 (t292 + t293)))),au8,H',⟨by have := HK1.out;first | omega | exact Nat.le_refl _⟩,⟨by (with_reducible repeat (first | apply Kd.R_alloc | apply Kd.R_drewN | apply Kd.R_drew));exact HO_5.out⟩,⟨by (with_reducible repeat (first | refine blk_drewN ?_ _ | refine blk_drew ?_ | refine blk_alloc ?_ _));exact BK299.out⟩,⟨by repeat (first | (with_reducible first | exact HB.out | apply below_alloc | apply pw_below_drewN | apply below_drew1 | refine below_set ?_ GE299.out) | exact HB.out)⟩⟩
             all_goals (exfalso;rename_i hz_;have e_ := beq_iff_eq.mp c24b0;simp at e_;exact hz_ (by omega))
            ·rw [if_neg c24] at H
             exfalso
             subst hr_
             cases k1 <;> simp [bodkinlaw17_ChangeTransposes.j1] at H
           case rest =>
            clear HC17
            try clear c1
            try clear c2
            try clear p2
            try clear q2
            try clear hx2
            try clear c4
            try clear p6
            try clear c7
            try clear c8
            try clear c8b0
            try clear c9
            try clear c9b0
            try clear c11
            try clear c11b0
            try clear c11b1
            try clear c13
            try clear c14
            try clear c14b0
            try clear c14b1
            try clear c15
            try clear c15b0
            try clear c15b1
            try clear c16
            try clear c16b0
            try clear c16b1
            try clear c24
            try clear c24b0
            try clear c24b1
            try clear c24b2
            try clear hcz21_0
            try clear hcz21_1
            try clear hcz21_2
            try clear hcz21_3
            try clear hcz21_4
            try clear hcz21_5
            try clear hcz23_0
            try clear hcz23_1
            try clear hcz23_2
            try clear hcz23_3
            try clear hcz23_4
            try clear hcz23_5
            try clear hcz25_0
            try clear hcz25_1
            try clear hcz25_2
            try clear hcz25_3
            try clear hcz25_4
            try clear hcz25_5
            try clear hcz26_0
            try clear hcz26_1
            try clear hcz26_2
            try clear hcz26_3
            try clear hcz26_4
            try clear hcz26_5
            try clear hfz21_0
            try clear hfz21_1
            try clear hfz21_2
            try clear hfz21_3
            try clear hfz21_4
            try clear hfz21_5
            try clear hfz23_0
            try clear hfz23_1
            try clear hfz23_2
            try clear hfz23_3
            try clear hfz23_4
            try clear hfz23_5
            try clear hfz25_0
            try clear hfz25_1
            try clear hfz25_2
            try clear hfz25_3
            try clear hfz25_4
            try clear hfz25_5
            try clear hfz26_0
            try clear hfz26_1
            try clear hfz26_2
            try clear hfz26_3
            try clear hfz26_4
            try clear hfz26_5
            try clear hx291_0
            try clear p2
            try clear p291
            try clear q291
            obtain ⟨kq,x83_16,rfl,HA,HJ16,HO_5,BK299,HB⟩ := hcut
            cases kq with
            | zero => exact absurd HA.out (by simp [bodkinlaw17_ChangeTransposes.j1])
            | succ kj16 =>
             have H := HA.out
             clear HA
             simp only [bodkinlaw17_ChangeTransposes.j1] at H
             by_cases c27 : x83_16 = true
             ·subst c27
              have H1 : (some false) = some r := by rw [if_pos rfl] at H;exact H
              clear H
              have H := H1
              clear H1
              obtain rfl := Option.some.inj H
              cases hr_
             ·replace c27 := Bool.eq_false_iff.mpr c27
              subst c27
              have H1 : (bodkinlaw17_ChangeTransposes.l1 kj16 a0 a1 y288 x6_1 (a0.extract (t292 : Int).toNat ((wrap64 (t292 + t293)) : Int).toNat) 0 t292 t293 t294 t295 t296 t297) = some r := by rw [if_neg (show ¬ (false = true) by decide)] at H;exact H
              clear H
              have H := H1
              clear H1
              have H' := Aside0.mk H
              clear H
              go_wp2
              repeat (go_quiet (fail);try go_wp2)
              go_loopg [10] kj16 (fun kq v10 w' => ∃ (x10_3 : Int),v10 = .int .i64 x10_3 ∧ Aside0 (bodkinlaw17_ChangeTransposes.l1 kq a0 a1 y288 x6_1 (a0.extract (t292 : Int).toNat ((wrap64 (t292 + t293)) : Int).toNat) x10_3 t292 t293 t294 t295 t296 t297 = some r) ∧ Aside0 (kq ≤ kj16) ∧ Aside0 (Kd.R (Kd.int .i64) 25 w' w.heap.size (fun _ => True) (.slice (some ad291) y288.length co18) y288) ∧ Aside0 (w'.heap[gb299]? = some (.cells #[.int .i64 t292,.int .i64 t293,.string t294,.int .i64 t295,.string t296,.bool t297] 30 (0,0))) ∧ Aside0 (Below w.heap.size w w'))
              case atStart => exact ⟨(0),au8,H',⟨Nat.le_refl _⟩,⟨by (with_reducible repeat (first | apply Kd.R_alloc | apply Kd.R_drewN | apply Kd.R_drew));exact HO_5.out⟩,⟨by (with_reducible repeat (first | refine blk_drewN ?_ _ | refine blk_drew ?_ | refine blk_alloc ?_ _));exact BK299.out⟩,⟨by repeat (first | (with_reducible first | exact HB.out | apply below_alloc | apply pw_below_drewN | apply below_drew1 | refine below_set ?_ GE299.out) | exact HB.out)⟩⟩
              case round =>
               clear H'
               try clear c1
               try clear c2
               try clear p2
               try clear q2
               try clear hx2
               try clear c4
               try clear p6
               try clear c7
               try clear c8
               try clear c8b0
               try clear c9
               try clear c9b0
               try clear c11
               try clear c11b0
               try clear c11b1
               try clear c13
               try clear c14
               try clear c14b0
               try clear c14b1
               try clear c15
               try clear c15b0
               try clear c15b1
               try clear c16
               try clear c16b0
               try clear c16b1
               try clear c24
               try clear c24b0
               try clear c24b1
               try clear c24b2
               try clear c27
               try clear hcz21_0
               try clear hcz21_1
               try clear hcz21_2
               try clear hcz21_3
               try clear hcz21_4
               try clear hcz21_5
               try clear hcz23_0
               try clear hcz23_1
               try clear hcz23_2
               try clear hcz23_3
               try clear hcz23_4
               try clear hcz23_5
               try clear hcz25_0
               try clear hcz25_1
               try clear hcz25_2
               try clear hcz25_3
               try clear hcz25_4
               try clear hcz25_5
               try clear hcz26_0
               try clear hcz26_1
               try clear hcz26_2
               try clear hcz26_3
               try clear hcz26_4
               try clear hcz26_5
               try clear hfz21_0
               try clear hfz21_1
               try clear hfz21_2
               try clear hfz21_3
               try clear hfz21_4
               try clear hfz21_5
               try clear hfz23_0
               try clear hfz23_1
               try clear hfz23_2
               try clear hfz23_3
               try clear hfz23_4
               try clear hfz23_5
               try clear hfz25_0
               try clear hfz25_1
               try clear hfz25_2
               try clear hfz25_3
               try clear hfz25_4
               try clear hfz25_5
               try clear hfz26_0
               try clear hfz26_1
               try clear hfz26_2
               try clear hfz26_3
               try clear hfz26_4
               try clear hfz26_5
               try clear hx291_0
               try clear p2
               try clear p291
               try clear p6
               try clear q2
               try clear q291
               obtain ⟨x10_3,rfl,HA,HK3,HO_5,BK299,HB⟩ := hrel
               cases gk with
               | zero => exact absurd HA.out (by simp [bodkinlaw17_ChangeTransposes.l1])
               | succ k3 =>
                have H := HA.out
                clear HA
                simp only [bodkinlaw17_ChangeTransposes.l1] at H
                by_cases c28 : x10_3 < 256
                ·rw [if_pos c28] at H
                 have c28b0 : decide (x10_3 < 256) = true := decide_eq_true c28
                 clear c28
                 replace H := Option.bind_eq_some_iff.mp H
                 obtain ⟨t305,A290,H⟩ := H
                 replace H : ((bodkinlaw17_count.f k3 t294 ((x10_3) % 256)).bind fun t306 => (if t305 = t306 then (bodkinlaw17_ChangeTransposes.l1 k3 a0 a1 y288 x6_1 (a0.extract (t292 : Int).toNat ((wrap64 (t292 + t293)) : Int).toNat) (wrap64 (x10_3 + 1)) t292 t293 t294 t295 t296 t297) else (some false))) = some r := H
                 have A29 := Aside0.mk A290
                 clear A290
                 replace H := Option.bind_eq_some_iff.mp H
                 obtain ⟨t306,A300,H⟩ := H
                 replace H : (if t305 = t306 then (bodkinlaw17_ChangeTransposes.l1 k3 a0 a1 y288 x6_1 (a0.extract (t292 : Int).toNat ((wrap64 (t292 + t293)) : Int).toNat) (wrap64 (x10_3 + 1)) t292 t293 t294 t295 t296 t297) else (some false)) = some r := H
                 have A30 := Aside0.mk A300
                 clear A300
                 by_cases c31 : t305 = t306
                 ·rw [if_pos c31] at H
                  have c31b0 : (t305 == t306) = true := beq_iff_eq.mpr c31
                  have c31b1 : (t305 != t306) = false := bne_eq_false_iff_eq.mpr c31
                  clear c31
                  have H' := Aside0.mk H
                  clear H
                  go_wp2_with (first | (go_at_call 20;(with_reducible refine (bodkinlaw17_count.calls k3 (a0.extract (t292 : Int).toNat ((wrap64 (t292 + t293)) : Int).toNat) ((x10_3) % 256) t305 _ A29.out).mono ?_);rintro e w' ⟨rfl,⟨nd,rfl⟩⟩;(try first | exact ⟨rfl,_,World.drewN_drewN _ _ _⟩ | exact ⟨rfl,_,Eq.trans (World.drewN_drewN _ _ _) (congrArg (World.drewN _) (Nat.add_assoc _ _ _))⟩);have hcz32_0 : wr.cell? ⟨gb299,0,none⟩ = some (.int .i64 t292) := (blk_cell BK299.out 0).trans rfl;have hcz32_1 : wr.cell? ⟨gb299,1,none⟩ = some (.int .i64 t293) := (blk_cell BK299.out 1).trans rfl;have hcz32_2 : wr.cell? ⟨gb299,2,none⟩ = some (.string t294) := (blk_cell BK299.out 2).trans rfl;have hcz32_3 : wr.cell? ⟨gb299,3,none⟩ = some (.int .i64 t295) := (blk_cell BK299.out 3).trans rfl;have hcz32_4 : wr.cell? ⟨gb299,4,none⟩ = some (.string t296) := (blk_cell BK299.out 4).trans rfl;have hcz32_5 : wr.cell? ⟨gb299,5,none⟩ = some (.bool t297) := (blk_cell BK299.out 5).trans rfl;have hfz32_0 := blk_frozen BK299.out 0;have hfz32_1 := blk_frozen BK299.out 1;have hfz32_2 := blk_frozen BK299.out 2;have hfz32_3 := blk_frozen BK299.out 3;have hfz32_4 := blk_frozen BK299.out 4;have hfz32_5 := blk_frozen BK299.out 5) | (go_at_call 20;(with_reducible refine (bodkinlaw17_count.calls k3 t294 ((x10_3) % 256) t306 _ A30.out).mono ?_);rintro e w' ⟨rfl,⟨nd,rfl⟩⟩;(try first | exact ⟨rfl,_,World.drewN_drewN _ _ _⟩ | exact ⟨rfl,_,Eq.trans (World.drewN_drewN _ _ _) (congrArg (World.drewN _) (Nat.add_assoc _ _ _))⟩)))
                  have hcz32_0 : wr.cell? ⟨gb299,0,none⟩ = some (.int .i64 t292) := (blk_cell BK299.out 0).trans rfl
                  have hcz32_1 : wr.cell? ⟨gb299,1,none⟩ = some (.int .i64 t293) := (blk_cell BK299.out 1).trans rfl
                  have hcz32_2 : wr.cell? ⟨gb299,2,none⟩ = some (.string t294) := (blk_cell BK299.out 2).trans rfl
                  have hcz32_3 : wr.cell? ⟨gb299,3,none⟩ = some (.int .i64 t295) := (blk_cell BK299.out 3).trans rfl
                  have hcz32_4 : wr.cell? ⟨gb299,4,none⟩ = some (.string t296) := (blk_cell BK299.out 4).trans rfl
                  have hcz32_5 : wr.cell? ⟨gb299,5,none⟩ = some (.bool t297) := (blk_cell BK299.out 5).trans rfl
                  have hfz32_0 := blk_frozen BK299.out 0
                  have hfz32_1 := blk_frozen BK299.out 1
                  have hfz32_2 := blk_frozen BK299.out 2
                  have hfz32_3 := blk_frozen BK299.out 3
                  have hfz32_4 := blk_frozen BK299.out 4
                  have hfz32_5 := blk_frozen BK299.out 5
                  have hcz32_0 : wr.cell? ⟨gb299,0,none⟩ = some (.int .i64 t292) := (blk_cell BK299.out 0).trans rfl
                  have hcz32_1 : wr.cell? ⟨gb299,1,none⟩ = some (.int .i64 t293) := (blk_cell BK299.out 1).trans rfl
                  have hcz32_2 : wr.cell? ⟨gb299,2,none⟩ = some (.string t294) := (blk_cell BK299.out 2).trans rfl
                  have hcz32_3 : wr.cell? ⟨gb299,3,none⟩ = some (.int .i64 t295) := (blk_cell BK299.out 3).trans rfl
                  have hcz32_4 : wr.cell? ⟨gb299,4,none⟩ = some (.string t296) := (blk_cell BK299.out 4).trans rfl
                  have hcz32_5 : wr.cell? ⟨gb299,5,none⟩ = some (.bool t297) := (blk_cell BK299.out 5).trans rfl
                  have hfz32_0 := blk_frozen BK299.out 0
                  have hfz32_1 := blk_frozen BK299.out 1
                  have hfz32_2 := blk_frozen BK299.out 2
                  have hfz32_3 := blk_frozen BK299.out 3
                  have hfz32_4 := blk_frozen BK299.out 4
                  have hfz32_5 := blk_frozen BK299.out 5
                  repeat (go_quiet (first | (go_at_call 20;(with_reducible refine (bodkinlaw17_count.calls k3 (a0.extract (t292 : Int).toNat ((wrap64 (t292 + t293)) : Int).toNat) ((x10_3) % 256) t305 _ A29.out).mono ?_);rintro e w' ⟨rfl,⟨nd,rfl⟩⟩;(try first | exact ⟨rfl,_,World.drewN_drewN _ _ _⟩ | exact ⟨rfl,_,Eq.trans (World.drewN_drewN _ _ _) (congrArg (World.drewN _) (Nat.add_assoc _ _ _))⟩)) | (go_at_call 20;(with_reducible refine (bodkinlaw17_count.calls k3 t294 ((x10_3) % 256) t306 _ A30.out).mono ?_);rintro e w' ⟨rfl,⟨nd,rfl⟩⟩;(try first | exact ⟨rfl,_,World.drewN_drewN _ _ _⟩ | exact ⟨rfl,_,Eq.trans (World.drewN_drewN _ _ _) (congrArg (World.drewN _) (Nat.add_assoc _ _ _))⟩)));try go_wp2_with (first | (go_at_call 20;(with_reducible refine (bodkinlaw17_count.calls k3 (a0.extract (t292 : Int).toNat ((wrap64 (t292 + t293)) : Int).toNat) ((x10_3) % 256) t305 _ A29.out).mono ?_);rintro e w' ⟨rfl,⟨nd,rfl⟩⟩;(try first | exact ⟨rfl,_,World.drewN_drewN _ _ _⟩ | exact ⟨rfl,_,Eq.trans (World.drewN_drewN _ _ _) (congrArg (World.drewN _) (Nat.add_assoc _ _ _))⟩)) | (go_at_call 20;(with_reducible refine (bodkinlaw17_count.calls k3 t294 ((x10_3) % 256) t306 _ A30.out).mono ?_);rintro e w' ⟨rfl,⟨nd,rfl⟩⟩;(try first | exact ⟨rfl,_,World.drewN_drewN _ _ _⟩ | exact ⟨rfl,_,Eq.trans (World.drewN_drewN _ _ _) (congrArg (World.drewN _) (Nat.add_assoc _ _ _))⟩))))
                  go_roundg k3
                  case measure => have := HK1.out;have := HJ16.out;have := HK3.out;omega
                  case rel => exact ⟨(wrap64 (x10_3 + 1)),au8,H',⟨by have := HK1.out;have := HJ16.out;have := HK3.out;omega⟩,⟨by (with_reducible repeat (first | apply Kd.R_alloc | apply Kd.R_drewN | apply Kd.R_drew));exact HO_5.out⟩,⟨by (with_reducible repeat (first | refine blk_drewN ?_ _ | refine blk_drew ?_ | refine blk_alloc ?_ _));exact BK299.out⟩,⟨by repeat (first | (with_reducible first | exact HB.out | apply below_alloc | apply pw_below_drewN | apply below_drew1 | refine below_set ?_ GE299.out) | exact HB.out)⟩⟩
                 ·rw [if_neg c31] at H
                  have c31b0 : (t305 == t306) = false := beq_eq_false_iff_ne.mpr c31
                  have c31b1 : (t305 != t306) = true := bne_iff_ne.mpr c31
                  obtain rfl := Option.some.inj H
                  cases hr_
                ·rw [if_neg c28] at H
                 have c28b0 : decide (x10_3 < 256) = false := decide_eq_false c28
                 clear c28
                 have HC34 := Aside0.mk H
                 clear H
                 go_upto_region 21 with (fail)
                 repeat (go_quiet (fail);go_upto_region 21 with (fail))
                 go_cut [113] (fun v113 wc => ∃ (kq : Nat) (x113_33 : Bool),v113 = .bool x113_33 ∧ Aside0 (bodkinlaw17_ChangeTransposes.j3 kq a0 a1 y288 x6_1 (a0.extract (t292 : Int).toNat ((wrap64 (t292 + t293)) : Int).toNat) x113_33 = some r) ∧ Aside0 (kq ≤ k3) ∧ Aside0 (Kd.R (Kd.int .i64) 25 wc w.heap.size (fun _ => True) (.slice (some ad291) y288.length co18) y288) ∧ Aside0 (wc.heap[gb299]? = some (.cells #[.int .i64 t292,.int .i64 t293,.string t294,.int .i64 t295,.string t296,.bool t297] 30 (0,0))) ∧ Aside0 (Below w.heap.size w wc))
                 case first =>
                  have H := HC34.out
                  clear HC34
                  by_cases c35 : 0 ≤ x6_1
                  ·rw [if_pos c35] at H
                   have c35b0 : decide (0 ≤ x6_1) = true := decide_eq_true c35
                   clear c35
                   (first | rw [c35b0] | (simp only [i64_w,i32_w];rw [c35b0]) | skip)
                   by_cases c36 : x6_1 < (y288.length : Int)
                   ·rw [if_pos c36] at H
                    have c36b0 : decide (x6_1 < (y288.length : Int)) = true := decide_eq_true c36
                    clear c36
                    by_cases c37 : (rd y288 x6_1) = 24
                    ·rw [if_pos c37] at H
                     have c37b0 : ((rd y288 x6_1) == 24) = true := beq_iff_eq.mpr c37
                     have c37b1 : ((rd y288 x6_1) != 24) = false := bne_eq_false_iff_eq.mpr c37
                     clear c37
                     replace H := Option.bind_eq_some_iff.mp H
                     obtain ⟨t308,A380,H⟩ := H
                     replace H : (if t308 = 2 then ((bodkinlaw17_count.f k3 (a0.extract (t292 : Int).toNat ((wrap64 (t292 + t293)) : Int).toNat) 10).bind fun t309 => (bodkinlaw17_ChangeTransposes.j3 k3 a0 a1 y288 x6_1 (a0.extract (t292 : Int).toNat ((wrap64 (t292 + t293)) : Int).toNat) (t309 != 0))) else (bodkinlaw17_ChangeTransposes.j3 k3 a0 a1 y288 x6_1 (a0.extract (t292 : Int).toNat ((wrap64 (t292 + t293)) : Int).toNat) true)) = some r := H
                     have A38 := Aside0.mk A380
                     clear A380
                     by_cases c39 : t308 = 2
                     ·rw [if_pos c39] at H
                      have c39b0 : (t308 == 2) = true := beq_iff_eq.mpr c39
                      have c39b1 : (t308 != 2) = false := bne_eq_false_iff_eq.mpr c39
                      clear c39
                      replace H := Option.bind_eq_some_iff.mp H
                      obtain ⟨t309,A400,H⟩ := H
                      replace H : (bodkinlaw17_ChangeTransposes.j3 k3 a0 a1 y288 x6_1 (a0.extract (t292 : Int).toNat ((wrap64 (t292 + t293)) : Int).toNat) (t309 != 0)) = some r := H
                      have A40 := Aside0.mk A400
                      clear A400
                      have H' := Aside0.mk H
                      clear H
                      have p307 : 0 ≤ (x6_1 : Int) := of_decide_eq_true au12
                      have q307 : x6_1 < (y288.length : Int) := of_decide_eq_true au12
                      obtain ⟨ad307,e307,hx307_0⟩ := Kd.at_int (Kd.R_reads' HO_5.out).2.2 x6_1 p307 q307
                      obtain rfl : ad291 = ad307 := (by injection e307)
                      replace p307 := eq_true p307
                      replace q307 := eq_true q307
                      go_wp2_with (first | (go_at_call 21;(with_reducible refine (cluster_Count.calls (a0.extract (t292 : Int).toNat ((wrap64 (t292 + t293)) : Int).toNat) t308 _ ?side1 A38.out).mono ?_);(case side1 => exact tabs_below HT.out au6);rintro e w41 ⟨rfl,hb⟩;have n0_ := Aside0.mk (Kd.R_below au13 hb);have n1_ := Aside0.mk (blk_below (g := gb299) (o := .cells #[.int .i64 t292,.int .i64 t293,.string t294,.int .i64 t295,.string t296,.bool t297] 30 (0,0)) (by (with_reducible repeat (first | refine blk_drewN ?_ _ | refine blk_drew ?_ | refine blk_alloc ?_ _));exact BK299.out) hb);have n2_ := Aside0.mk (below_step au6 hb);clear HO_5;clear BK299;clear HB;have HO_5 := n0_;have BK299 := n1_;have HB := n2_;clear n0_ n1_ n2_;(try clear hb);(try clear hb2);(try clear hk);(try clear hi)) | (go_at_call 20;(with_reducible refine (bodkinlaw17_count.calls k3 (a0.extract (t292 : Int).toNat ((wrap64 (t292 + t293)) : Int).toNat) 10 t309 _ A40.out).mono ?_);rintro e w' ⟨rfl,⟨nd,rfl⟩⟩;(try first | exact ⟨rfl,_,World.drewN_drewN _ _ _⟩ | exact ⟨rfl,_,Eq.trans (World.drewN_drewN _ _ _) (congrArg (World.drewN _) (Nat.add_assoc _ _ _))⟩)))
                      repeat (go_quiet (first | (go_at_call 21;(with_reducible refine (cluster_Count.calls (a0.extract (t292 : Int).toNat ((wrap64 (t292 + t293)) : Int).toNat) t308 _ ?side1 A38.out).mono ?_);(case side1 => exact tabs_below HT.out au6);rintro e w41 ⟨rfl,hb⟩;have n0_ := Aside0.mk (Kd.R_below au13 hb);have n1_ := Aside0.mk (blk_below (g := gb299) (o := .cells #[.int .i64 t292,.int .i64 t293,.string t294,.int .i64 t295,.string t296,.bool t297] 30 (0,0)) (by (with_reducible repeat (first | refine blk_drewN ?_ _ | refine blk_drew ?_ | refine blk_alloc ?_ _));exact BK299.out) hb);have n2_ := Aside0.mk (below_step au6 hb);clear HO_5;clear BK299;clear HB;have HO_5 := n0_;have BK299 := n1_;have HB := n2_;clear n0_ n1_ n2_;(try clear hb);(try clear hb2);(try clear hk);(try clear hi)) | (go_at_call 20;(with_reducible refine (bodkinlaw17_count.calls k3 (a0.extract (t292 : Int).toNat ((wrap64 (t292 + t293)) : Int).toNat) 10 t309 _ A40.out).mono ?_);rintro e w' ⟨rfl,⟨nd,rfl⟩⟩;(try first | exact ⟨rfl,_,World.drewN_drewN _ _ _⟩ | exact ⟨rfl,_,Eq.trans (World.drewN_drewN _ _ _) (congrArg (World.drewN _) (Nat.add_assoc _ _ _))⟩)));try go_wp2_with (first | (go_at_call 21;(with_reducible refine (cluster_Count.calls (a0.extract (t292 : Int).toNat ((wrap64 (t292 + t293)) : Int).toNat) t308 _ ?side1 A38.out).mono ?_);(case side1 => exact tabs_below HT.out au6);rintro e w41 ⟨rfl,hb⟩;have n0_ := Aside0.mk (Kd.R_below au13 hb);have n1_ := Aside0.mk (blk_below (g := gb299) (o := .cells #[.int .i64 t292,.int .i64 t293,.string t294,.int .i64 t295,.string t296,.bool t297] 30 (0,0)) (by (with_reducible repeat (first | refine blk_drewN ?_ _ | refine blk_drew ?_ | refine blk_alloc ?_ _));exact BK299.out) hb);have n2_ := Aside0.mk (below_step au6 hb);clear HO_5;clear BK299;clear HB;have HO_5 := n0_;have BK299 := n1_;have HB := n2_;clear n0_ n1_ n2_;(try clear hb);(try clear hb2);(try clear hk);(try clear hi)) | (go_at_call 20;(with_reducible refine (bodkinlaw17_count.calls k3 (a0.extract (t292 : Int).toNat ((wrap64 (t292 + t293)) : Int).toNat) 10 t309 _ A40.out).mono ?_);rintro e w' ⟨rfl,⟨nd,rfl⟩⟩;(try first | exact ⟨rfl,_,World.drewN_drewN _ _ _⟩ | exact ⟨rfl,_,Eq.trans (World.drewN_drewN _ _ _) (congrArg (World.drewN _) (Nat.add_assoc _ _ _))⟩))))
                      go_meet
                      case rel => exact ⟨_,((t309 != 0)),au8,H',⟨by have := HK1.out;have := HJ16.out;have := HK3.out;first | omega | exact Nat.le_refl _⟩,⟨by (with_reducible repeat (first | apply Kd.R_alloc | apply Kd.R_drewN | apply Kd.R_drew));exact HO_5.out⟩,⟨by (with_reducible repeat (first | refine blk_drewN ?_ _ | refine blk_drew ?_ | refine blk_alloc ?_ _));exact BK299.out⟩,⟨by repeat (first | (with_reducible first | exact HB.out | apply below_alloc | apply pw_below_drewN | apply below_drew1 | refine below_set ?_ GE299.out) | exact HB.out)⟩⟩
                     ·rw [if_neg c39] at H
                      exfalso
                      subst hr_
                      cases k3 <;> simp [bodkinlaw17_ChangeTransposes.j3] at H
                    ·rw [if_neg c37] at H
                     have c37b0 : ((rd y288 x6_1) == 24) = false := beq_eq_false_iff_ne.mpr c37
                     have c37b1 : ((rd y288 x6_1) != 24) = true := bne_iff_ne.mpr c37
                     have H' := Aside0.mk H
                     clear H
                     have p307 : 0 ≤ (x6_1 : Int) := of_decide_eq_true au12
                     have q307 : x6_1 < (y288.length : Int) := of_decide_eq_true au12
                     obtain ⟨ad307,e307,hx307_0⟩ := Kd.at_int (Kd.R_reads' HO_5.out).2.2 x6_1 p307 q307
                     obtain rfl : ad291 = ad307 := (by injection e307)
                     replace p307 := eq_true p307
                     replace q307 := eq_true q307
                     go_wp2
                     repeat (go_quiet (fail);try go_wp2)
                     go_meet
                     case rel => exact ⟨_,(false),au8,H',⟨by have := HK1.out;have := HJ16.out;have := HK3.out;first | omega | exact Nat.le_refl _⟩,⟨by (with_reducible repeat (first | apply Kd.R_alloc | apply Kd.R_drewN | apply Kd.R_drew));exact HO_5.out⟩,⟨by (with_reducible repeat (first | refine blk_drewN ?_ _ | refine blk_drew ?_ | refine blk_alloc ?_ _));exact BK299.out⟩,⟨by repeat (first | (with_reducible first | exact HB.out | apply below_alloc | apply pw_below_drewN | apply below_drew1 | refine below_set ?_ GE299.out) | exact HB.out)⟩⟩
                   ·rw [if_neg c36] at H
                    exact absurd H (by simp)
                  ·rw [if_neg c35] at H
                   exact absurd H (by simp)
                 case rest =>
                  clear HC34
                  try clear c1
                  try clear c2
                  try clear p2
                  try clear q2
                  try clear hx2
                  try clear c3
                  try clear p3
                  try clear q3
                  try clear hx3
                  try clear c4
                  try clear p6
                  try clear c7
                  try clear c8
                  try clear c8b0
                  try clear c9
                  try clear c9b0
                  try clear c11
                  try clear c11b0
                  try clear c11b1
                  try clear c13
                  try clear c14
                  try clear c14b0
                  try clear c14b1
                  try clear c15
                  try clear c15b0
                  try clear c15b1
                  try clear c16
                  try clear c16b0
                  try clear c16b1
                  try clear c24
                  try clear c24b0
                  try clear c24b1
                  try clear c24b2
                  try clear c27
                  try clear c28
                  try clear c28b0
                  try clear p29
                  try clear q29
                  try clear hx29
                  try clear p30
                  try clear q30
                  try clear hx30
                  try clear c31
                  try clear c31b0
                  try clear c31b1
                  try clear c35
                  try clear c35b0
                  try clear c36
                  try clear c36b0
                  try clear c37
                  try clear c37b0
                  try clear c37b1
                  try clear c39
                  try clear c39b0
                  try clear c39b1
                  try clear hcz21_0
                  try clear hcz21_1
                  try clear hcz21_2
                  try clear hcz21_3
                  try clear hcz21_4
                  try clear hcz21_5
                  try clear hcz23_0
                  try clear hcz23_1
                  try clear hcz23_2
                  try clear hcz23_3
                  try clear hcz23_4
                  try clear hcz23_5
                  try clear hcz25_0
                  try clear hcz25_1
                  try clear hcz25_2
                  try clear hcz25_3
                  try clear hcz25_4
                  try clear hcz25_5
                  try clear hcz26_0
                  try clear hcz26_1
                  try clear hcz26_2
                  try clear hcz26_3
                  try clear hcz26_4
                  try clear hcz26_5
                  try clear hcz32_0
                  try clear hcz32_1
                  try clear hcz32_2
                  try clear hcz32_3
                  try clear hcz32_4
                  try clear hcz32_5
                  try clear hcz33_0
                  try clear hcz33_1
                  try clear hcz33_2
                  try clear hcz33_3
                  try clear hcz33_4
                  try clear hcz33_5
                  try clear hfz21_0
                  try clear hfz21_1
                  try clear hfz21_2
                  try clear hfz21_3
                  try clear hfz21_4
                  try clear hfz21_5
                  try clear hfz23_0
                  try clear hfz23_1
                  try clear hfz23_2
                  try clear hfz23_3
                  try clear hfz23_4
                  try clear hfz23_5
                  try clear hfz25_0
                  try clear hfz25_1
                  try clear hfz25_2
                  try clear hfz25_3
                  try clear hfz25_4
                  try clear hfz25_5
                  try clear hfz26_0
                  try clear hfz26_1
                  try clear hfz26_2
                  try clear hfz26_3
                  try clear hfz26_4
                  try clear hfz26_5
                  try clear hfz32_0
                  try clear hfz32_1
                  try clear hfz32_2
                  try clear hfz32_3
                  try clear hfz32_4
                  try clear hfz32_5
                  try clear hfz33_0
                  try clear hfz33_1
                  try clear hfz33_2
                  try clear hfz33_3
                  try clear hfz33_4
                  try clear hfz33_5
                  try clear hx291_0
                  try clear hx307_0
                  try clear p2
                  try clear p291
                  try clear p307
                  try clear p6
                  try clear q2
                  try clear q291
                  try clear q307
                  obtain ⟨kq,x113_33,rfl,HA,HJ33,HO_5,BK299,HB⟩ := hcut
                  cases kq with
                  | zero => exact absurd HA.out (by simp [bodkinlaw17_ChangeTransposes.j3])
                  | succ kj33 =>
                   have H := HA.out
                   clear HA
                   simp only [bodkinlaw17_ChangeTransposes.j3] at H
                   by_cases c43 : x113_33 = true
                   ·subst c43
                    have H1 : (some false) = some r := by rw [if_pos rfl] at H;exact H
                    clear H
                    have H := H1
                    clear H1
                    obtain rfl := Option.some.inj H
                    cases hr_
                   ·replace c43 := Bool.eq_false_iff.mpr c43
                    subst c43
                    have H1 : (if 0 ≤ x6_1 then (if x6_1 < (y288.length : Int) then (if (rd y288 x6_1) = 25 then ((word_Spans.f (a0.extract (t292 : Int).toNat ((wrap64 (t292 + t293)) : Int).toNat)).bind fun t311 => (if (t311.length : Int) = 2 then (bodkinlaw17_ChangeTransposes.l0 kj33 a0 a1 y288 (wrap64 (x6_1 + 1))) else (some false))) else (bodkinlaw17_ChangeTransposes.l0 kj33 a0 a1 y288 (wrap64 (x6_1 + 1)))) else (none)) else (none)) = some r := by rw [if_neg (show ¬ (false = true) by decide)] at H;exact H
                    clear H
                    have H := H1
                    clear H1
                    by_cases c44 : 0 ≤ x6_1
                    ·rw [if_pos c44] at H
                     have c44b0 : decide (0 ≤ x6_1) = true := decide_eq_true c44
                     clear c44
                     by_cases c45 : x6_1 < (y288.length : Int)
                     ·rw [if_pos c45] at H
                      have c45b0 : decide (x6_1 < (y288.length : Int)) = true := decide_eq_true c45
                      clear c45
                      by_cases c46 : (rd y288 x6_1) = 25
                      ·rw [if_pos c46] at H
                       have c46b0 : ((rd y288 x6_1) == 25) = true := beq_iff_eq.mpr c46
                       have c46b1 : ((rd y288 x6_1) != 25) = false := bne_eq_false_iff_eq.mpr c46
                       clear c46
                       replace H := Option.bind_eq_some_iff.mp H
                       obtain ⟨t311,A470,H⟩ := H
                       replace H : (if (t311.length : Int) = 2 then (bodkinlaw17_ChangeTransposes.l0 kj33 a0 a1 y288 (wrap64 (x6_1 + 1))) else (some false)) = some r := H
                       have A47 := Aside0.mk A470
                       clear A470
                       by_cases c48 : (t311.length : Int) = 2
                       ·rw [if_pos c48] at H
                        have c48b0 : ((t311.length : Int) == 2) = true := beq_iff_eq.mpr c48
                        have c48b1 : ((t311.length : Int) != 2) = false := bne_eq_false_iff_eq.mpr c48
                        clear c48
                        have H' := Aside0.mk H
                        clear H
                        have p310 : 0 ≤ (x6_1 : Int) := of_decide_eq_true au12
                        have q310 : x6_1 < (y288.length : Int) := of_decide_eq_true au12
                        obtain ⟨ad310,e310,hx310_0⟩ := Kd.at_int (Kd.R_reads' HO_5.out).2.2 x6_1 p310 q310
                        obtain rfl : ad291 = ad310 := (by injection e310)
                        replace p310 := eq_true p310
                        replace q310 := eq_true q310
                        go_wp2_with (first | (go_at_call 19;(with_reducible refine (word_Spans.calls (a0.extract (t292 : Int).toNat ((wrap64 (t292 + t293)) : Int).toNat) t311 _ ?side1 A47.out).mono ?_);(case side1 => exact tabs_below HT.out au6);rintro e w49 ⟨v312,rfl,ho0,hb⟩;have n0_ := Aside0.mk (Kd.R_below au13 hb);have n1_ := Aside0.mk (Kd.R_lower ho0 (below_size au6));have n2_ := Aside0.mk (blk_below (g := gb299) (o := .cells #[.int .i64 t292,.int .i64 t293,.string t294,.int .i64 t295,.string t296,.bool t297] 30 (0,0)) (by (with_reducible repeat (first | refine blk_drewN ?_ _ | refine blk_drew ?_ | refine blk_alloc ?_ _));exact BK299.out) hb);have n3_ := Aside0.mk (below_step au6 hb);clear HO_5;clear BK299;clear HB;have HO_5 := n0_;have HO313 := n1_;have BK299 := n2_;have HB := n3_;clear n0_ n1_ n2_ n3_;(try clear hb);(try clear hb2);(try clear hk);(try clear hi);(try clear ho0);obtain ⟨Ao50,co50,eo50⟩ := Kd.R_slice HO313.out;subst eo50))
                        repeat (go_quiet (first | (go_at_call 19;(with_reducible refine (word_Spans.calls (a0.extract (t292 : Int).toNat ((wrap64 (t292 + t293)) : Int).toNat) t311 _ ?side1 A47.out).mono ?_);(case side1 => exact tabs_below HT.out au6);rintro e w49 ⟨v312,rfl,ho0,hb⟩;have n0_ := Aside0.mk (Kd.R_below au13 hb);have n1_ := Aside0.mk (Kd.R_lower ho0 (below_size au6));have n2_ := Aside0.mk (blk_below (g := gb299) (o := .cells #[.int .i64 t292,.int .i64 t293,.string t294,.int .i64 t295,.string t296,.bool t297] 30 (0,0)) (by (with_reducible repeat (first | refine blk_drewN ?_ _ | refine blk_drew ?_ | refine blk_alloc ?_ _));exact BK299.out) hb);have n3_ := Aside0.mk (below_step au6 hb);clear HO_5;clear BK299;clear HB;have HO_5 := n0_;have HO313 := n1_;have BK299 := n2_;have HB := n3_;clear n0_ n1_ n2_ n3_;(try clear hb);(try clear hb2);(try clear hk);(try clear hi);(try clear ho0);obtain ⟨Ao50,co50,eo50⟩ := Kd.R_slice HO313.out;subst eo50));try go_wp2_with (first | (go_at_call 19;(with_reducible refine (word_Spans.calls (a0.extract (t292 : Int).toNat ((wrap64 (t292 + t293)) : Int).toNat) t311 _ ?side1 A47.out).mono ?_);(case side1 => exact tabs_below HT.out au6);rintro e w49 ⟨v312,rfl,ho0,hb⟩;have n0_ := Aside0.mk (Kd.R_below au13 hb);have n1_ := Aside0.mk (Kd.R_lower ho0 (below_size au6));have n2_ := Aside0.mk (blk_below (g := gb299) (o := .cells #[.int .i64 t292,.int .i64 t293,.string t294,.int .i64 t295,.string t296,.bool t297] 30 (0,0)) (by (with_reducible repeat (first | refine blk_drewN ?_ _ | refine blk_drew ?_ | refine blk_alloc ?_ _));exact BK299.out) hb);have n3_ := Aside0.mk (below_step au6 hb);clear HO_5;clear BK299;clear HB;have HO_5 := n0_;have HO313 := n1_;have BK299 := n2_;have HB := n3_;clear n0_ n1_ n2_ n3_;(try clear hb);(try clear hb2);(try clear hk);(try clear hi);(try clear ho0);obtain ⟨Ao50,co50,eo50⟩ := Kd.R_slice HO313.out;subst eo50)))
                        go_roundg kj33
                        case measure => have := HK1.out;have := HJ16.out;have := HK3.out;have := HJ33.out;omega
                        case rel => exact ⟨(wrap64 (x6_1 + 1)),au8,H',⟨by have := HK1.out;have := HJ16.out;have := HK3.out;have := HJ33.out;omega⟩,⟨by (with_reducible repeat (first | apply Kd.R_alloc | apply Kd.R_drewN | apply Kd.R_drew));exact HO_5.out⟩,⟨by repeat (first | (with_reducible first | exact HB.out | apply below_alloc | apply pw_below_drewN | apply below_drew1 | refine below_set ?_ GE299.out) | exact HB.out)⟩⟩
                       ·rw [if_neg c48] at H
                        have c48b0 : ((t311.length : Int) == 2) = false := beq_eq_false_iff_ne.mpr c48
                        have c48b1 : ((t311.length : Int) != 2) = true := bne_iff_ne.mpr c48
                        obtain rfl := Option.some.inj H
                        cases hr_
                      ·rw [if_neg c46] at H
                       have c46b0 : ((rd y288 x6_1) == 25) = false := beq_eq_false_iff_ne.mpr c46
                       have c46b1 : ((rd y288 x6_1) != 25) = true := bne_iff_ne.mpr c46
                       have H' := Aside0.mk H
                       clear H
                       have p310 : 0 ≤ (x6_1 : Int) := of_decide_eq_true au12
                       have q310 : x6_1 < (y288.length : Int) := of_decide_eq_true au12
                       obtain ⟨ad310,e310,hx310_0⟩ := Kd.at_int (Kd.R_reads' HO_5.out).2.2 x6_1 p310 q310
                       obtain rfl : ad291 = ad310 := (by injection e310)
                       replace p310 := eq_true p310
                       replace q310 := eq_true q310
                       go_wp2
                       repeat (go_quiet (fail);try go_wp2)
                       go_roundg kj33
                       case measure => have := HK1.out;have := HJ16.out;have := HK3.out;have := HJ33.out;omega
                       case rel => exact ⟨(wrap64 (x6_1 + 1)),au8,H',⟨by have := HK1.out;have := HJ16.out;have := HK3.out;have := HJ33.out;omega⟩,⟨by (with_reducible repeat (first | apply Kd.R_alloc | apply Kd.R_drewN | apply Kd.R_drew));exact HO_5.out⟩,⟨by repeat (first | (with_reducible first | exact HB.out | apply below_alloc | apply pw_below_drewN | apply below_drew1 | refine below_set ?_ GE299.out) | exact HB.out)⟩⟩
                     ·rw [if_neg c45] at H
                      exact absurd H (by simp)
                    ·rw [if_neg c44] at H
                     exact absurd H (by simp)
          ·rw [if_neg c16] at H
           exact absurd H (by simp)
         ·rw [if_neg c15] at H
          exact absurd H (by simp)
        ·rw [if_neg c14] at H
         exact absurd H (by simp)
       ·replace c13 := Bool.eq_false_iff.mpr c13
        subst c13
        have H1 : (some false) = some r := by rw [if_neg (show ¬ (false = true) by decide)] at H;exact H
        clear H
        have H := H1
        clear H1
        obtain rfl := Option.some.inj H
        cases hr_
      ·rw [if_neg c11] at H
       have c11b0 : (t298 == 0) = false := beq_eq_false_iff_ne.mpr c11
       have c11b1 : (t298 != 0) = true := bne_iff_ne.mpr c11
       by_cases c58 : t298 = 8
       ·rw [if_pos c58] at H
        have c58b0 : (t298 == 8) = true := beq_iff_eq.mpr c58
        have c58b1 : (t298 != 8) = false := bne_eq_false_iff_eq.mpr c58
        clear c58
        by_cases c59 : (rd y288 x6_1) = 25
        ·rw [if_pos c59] at H
         have c59b0 : ((rd y288 x6_1) == 25) = true := beq_iff_eq.mpr c59
         have c59b1 : ((rd y288 x6_1) != 25) = false := bne_eq_false_iff_eq.mpr c59
         clear c59
         replace H := Option.bind_eq_some_iff.mp H
         obtain ⟨t301,A600,H⟩ := H
         replace H : (if (t301.length : Int) > 1 then (some false) else (bodkinlaw17_ChangeTransposes.l0 k1 a0 a1 y288 (wrap64 (x6_1 + 1)))) = some r := H
         have A60 := Aside0.mk A600
         clear A600
         by_cases c61 : (t301.length : Int) > 1
         ·rw [if_pos c61] at H
          have c61b0 : decide (1 < (t301.length : Int)) = true := decide_eq_true c61
          have c61b1 : decide (1 < t301.length) = true := decide_eq_true (by omega)
          clear c61
          obtain rfl := Option.some.inj H
          cases hr_
         ·rw [if_neg c61] at H
          have c61b0 : decide (1 < (t301.length : Int)) = false := decide_eq_false c61
          have c61b1 : decide (1 < t301.length) = false := decide_eq_false (by omega)
          clear c61
          have H' := Aside0.mk H
          clear H
          obtain ⟨Ao68,co68,eo68⟩ := Kd.R_slice HO_5.out
          subst eo68
          have p291 : 0 ≤ (x6_1 : Int) := of_decide_eq_true au12
          have q291 : x6_1 < (y288.length : Int) := of_decide_eq_true au12
          obtain ⟨ad291,e291,hx291_0⟩ := Kd.at_int (Kd.R_reads' HO_5.out).2.2 x6_1 p291 q291
          cases e291
          replace p291 := eq_true p291
          replace q291 := eq_true q291
          go_wp2_with (first | (go_at_call 9;(with_reducible refine (change_Of.calls (rd y288 x6_1) 7 (⟨#[]⟩ : ByteArray) 0 a0 a1 (-1) t292 t293 t294 t295 t296 t297 t298 _ ?side1 A10.out).mono ?_);(case side1 => exact tabs_below HT.out au0);rintro e w69 ⟨rfl,hb⟩;have n0_ := Aside0.mk (Kd.R_below au13 hb);have n1_ := Aside0.mk (below_step au0 hb);clear HO_5;clear HB;have HO_5 := n0_;have HB := n1_;clear n0_ n1_;(try clear hb);(try clear hb2);(try clear hk);(try clear hi)) | ((with_reducible refine gate_dst (N := 7) rfl ?_);(try (refine gate_guard (by rfl) ?_;dsimp only));refine box_event ?hg (N := 7) ?hd (cs := #[.int .i64 0,.int .i64 0,.string (⟨#[]⟩ : ByteArray),.int .i64 0,.string (⟨#[]⟩ : ByteArray),.bool false]) (t := 30) ?hr ?_;(case hd => rfl);(case hg => rfl);(case hr => first | (go_simp;done) | (go_simp;rfl));intro gb299 hg w70 hbox hb;have n0_ := Aside0.mk (Kd.R_below au13 hb);have n1_ := Aside0.mk (below_step au0 hb);have n2_ := Aside0.mk (hbox);have n3_ := Aside0.mk ((by rw [hg];exact (below_size au0) : w.heap.size ≤ gb299));have n4_ := Aside0.mk ((by rw [hg];exact (below_size au0) : w.heap.size ≤ gb299));clear HO_5;clear HB;have HO_5 := n0_;have HB := n1_;have BK299 := n2_;have GW299 := n3_;have GE299 := n4_;clear n0_ n1_ n2_ n3_ n4_;clear hb hbox hg;have hcz71_0 : w70.cell? ⟨gb299,0,none⟩ = some (.int .i64 0) := (blk_cell BK299.out 0).trans rfl;have hcz71_1 : w70.cell? ⟨gb299,1,none⟩ = some (.int .i64 0) := (blk_cell BK299.out 1).trans rfl;have hcz71_2 : w70.cell? ⟨gb299,2,none⟩ = some (.string (⟨#[]⟩ : ByteArray)) := (blk_cell BK299.out 2).trans rfl;have hcz71_3 : w70.cell? ⟨gb299,3,none⟩ = some (.int .i64 0) := (blk_cell BK299.out 3).trans rfl;have hcz71_4 : w70.cell? ⟨gb299,4,none⟩ = some (.string (⟨#[]⟩ : ByteArray)) := (blk_cell BK299.out 4).trans rfl;have hcz71_5 : w70.cell? ⟨gb299,5,none⟩ = some (.bool false) := (blk_cell BK299.out 5).trans rfl;have hfz71_0 := blk_frozen BK299.out 0;have hfz71_1 := blk_frozen BK299.out 1;have hfz71_2 := blk_frozen BK299.out 2;have hfz71_3 := blk_frozen BK299.out 3;have hfz71_4 := blk_frozen BK299.out 4;have hfz71_5 := blk_frozen BK299.out 5;have p300 : 0 ≤ (x6_1 : Int) := of_decide_eq_true au12;have q300 : x6_1 < (y288.length : Int) := of_decide_eq_true au12;obtain ⟨ad300,e300,hx300_0⟩ := Kd.at_int (Kd.R_reads' HO_5.out).2.2 x6_1 p300 q300;obtain rfl : ad291 = ad300 := (by injection e300);have hn300_0 : ad291.block ≠ gb299 := Kd.own_blk (Kd.R_ne HO_5.out BK299.out (by decide));have hn300_1 : ad291.block ≠ gb299 := Kd.own_blk (Kd.R_ne HO_5.out BK299.out (by decide));have hn300_2 : ad291.block ≠ gb299 := Kd.own_blk (Kd.R_ne HO_5.out BK299.out (by decide));have hn300_3 : ad291.block ≠ gb299 := Kd.own_blk (Kd.R_ne HO_5.out BK299.out (by decide));have hn300_4 : ad291.block ≠ gb299 := Kd.own_blk (Kd.R_ne HO_5.out BK299.out (by decide));have hn300_5 : ad291.block ≠ gb299 := Kd.own_blk (Kd.R_ne HO_5.out BK299.out (by decide));replace hx300_0 := (cell_far (p := ⟨gb299,0,none⟩) (by first | (rw [add_block];exact hn300_0) | (show (Addr.add _ _).block ≠ _;rw [add_block];exact hn300_0) | exact hn300_0) (.int .i64 t292)).trans hx300_0;replace hx300_0 := (cell_far (p := ⟨gb299,1,none⟩) (by first | (rw [add_block];exact hn300_1) | (show (Addr.add _ _).block ≠ _;rw [add_block];exact hn300_1) | exact hn300_1) (.int .i64 t293)).trans hx300_0;replace hx300_0 := (cell_far (p := ⟨gb299,2,none⟩) (by first | (rw [add_block];exact hn300_2) | (show (Addr.add _ _).block ≠ _;rw [add_block];exact hn300_2) | exact hn300_2) (.string t294)).trans hx300_0;replace hx300_0 := (cell_far (p := ⟨gb299,3,none⟩) (by first | (rw [add_block];exact hn300_3) | (show (Addr.add _ _).block ≠ _;rw [add_block];exact hn300_3) | exact hn300_3) (.int .i64 t295)).trans hx300_0;replace hx300_0 := (cell_far (p := ⟨gb299,4,none⟩) (by first | (rw [add_block];exact hn300_4) | (show (Addr.add _ _).block ≠ _;rw [add_block];exact hn300_4) | exact hn300_4) (.string t296)).trans hx300_0;replace hx300_0 := (cell_far (p := ⟨gb299,5,none⟩) (by first | (rw [add_block];exact hn300_5) | (show (Addr.add _ _).block ≠ _;rw [add_block];exact hn300_5) | exact hn300_5) (.bool t297)).trans hx300_0;clear hn300_0;clear hn300_1;clear hn300_2;clear hn300_3;clear hn300_4;clear hn300_5;replace p300 := eq_true p300;replace q300 := eq_true q300) | (go_at_call 19;(with_reducible refine (word_Spans.calls a0 t301 _ ?side1 A60.out).mono ?_);(case side1 => exact tabs_below HT.out au6);rintro e w72 ⟨v302,rfl,ho0,hb⟩;have n0_ := Aside0.mk (Kd.R_below au11 hb);have n1_ := Aside0.mk (Kd.R_lower ho0 (below_size au6));have n2_ := Aside0.mk (blk_below (g := gb299) (o := .cells #[.int .i64 t292,.int .i64 t293,.string t294,.int .i64 t295,.string t296,.bool t297] 30 (0,0)) au2 hb);have n3_ := Aside0.mk (below_step au6 hb);clear HO_5;clear BK299;clear HB;have HO_5 := n0_;have HO303 := n1_;have BK299 := n2_;have HB := n3_;clear n0_ n1_ n2_ n3_;(try clear hb);(try clear hb2);(try clear hk);(try clear hi);(try clear ho0);obtain ⟨Ao73,co73,eo73⟩ := Kd.R_slice HO303.out;subst eo73))
          repeat (go_quiet (first | (go_at_call 9;(with_reducible refine (change_Of.calls (rd y288 x6_1) 7 (⟨#[]⟩ : ByteArray) 0 a0 a1 (-1) t292 t293 t294 t295 t296 t297 t298 _ ?side1 A10.out).mono ?_);(case side1 => exact tabs_below HT.out au0);rintro e w69 ⟨rfl,hb⟩;have n0_ := Aside0.mk (Kd.R_below au13 hb);have n1_ := Aside0.mk (below_step au0 hb);clear HO_5;clear HB;have HO_5 := n0_;have HB := n1_;clear n0_ n1_;(try clear hb);(try clear hb2);(try clear hk);(try clear hi)) | ((with_reducible refine gate_dst (N := 7) rfl ?_);(try (refine gate_guard (by rfl) ?_;dsimp only));refine box_event ?hg (N := 7) ?hd (cs := #[.int .i64 0,.int .i64 0,.string (⟨#[]⟩ : ByteArray),.int .i64 0,.string (⟨#[]⟩ : ByteArray),.bool false]) (t := 30) ?hr ?_;(case hd => rfl);(case hg => rfl);(case hr => first | (go_simp;done) | (go_simp;rfl));intro gb299 hg w70 hbox hb;have n0_ := Aside0.mk (Kd.R_below au13 hb);have n1_ := Aside0.mk (below_step au0 hb);have n2_ := Aside0.mk (hbox);have n3_ := Aside0.mk ((by rw [hg];exact (below_size au0) : w.heap.size ≤ gb299));have n4_ := Aside0.mk ((by rw [hg];exact (below_size au0) : w.heap.size ≤ gb299));clear HO_5;clear HB;have HO_5 := n0_;have HB := n1_;have BK299 := n2_;have GW299 := n3_;have GE299 := n4_;clear n0_ n1_ n2_ n3_ n4_;clear hb hbox hg;have hcz71_0 : w70.cell? ⟨gb299,0,none⟩ = some (.int .i64 0) := (blk_cell BK299.out 0).trans rfl;have hcz71_1 : w70.cell? ⟨gb299,1,none⟩ = some (.int .i64 0) := (blk_cell BK299.out 1).trans rfl;have hcz71_2 : w70.cell? ⟨gb299,2,none⟩ = some (.string (⟨#[]⟩ : ByteArray)) := (blk_cell BK299.out 2).trans rfl;have hcz71_3 : w70.cell? ⟨gb299,3,none⟩ = some (.int .i64 0) := (blk_cell BK299.out 3).trans rfl;have hcz71_4 : w70.cell? ⟨gb299,4,none⟩ = some (.string (⟨#[]⟩ : ByteArray)) := (blk_cell BK299.out 4).trans rfl;have hcz71_5 : w70.cell? ⟨gb299,5,none⟩ = some (.bool false) := (blk_cell BK299.out 5).trans rfl;have hfz71_0 := blk_frozen BK299.out 0;have hfz71_1 := blk_frozen BK299.out 1;have hfz71_2 := blk_frozen BK299.out 2;have hfz71_3 := blk_frozen BK299.out 3;have hfz71_4 := blk_frozen BK299.out 4;have hfz71_5 := blk_frozen BK299.out 5;have p300 : 0 ≤ (x6_1 : Int) := of_decide_eq_true au12;have q300 : x6_1 < (y288.length : Int) := of_decide_eq_true au12;obtain ⟨ad300,e300,hx300_0⟩ := Kd.at_int (Kd.R_reads' HO_5.out).2.2 x6_1 p300 q300;obtain rfl : ad291 = ad300 := (by injection e300);have hn300_0 : ad291.block ≠ gb299 := Kd.own_blk (Kd.R_ne HO_5.out BK299.out (by decide));have hn300_1 : ad291.block ≠ gb299 := Kd.own_blk (Kd.R_ne HO_5.out BK299.out (by decide));have hn300_2 : ad291.block ≠ gb299 := Kd.own_blk (Kd.R_ne HO_5.out BK299.out (by decide));have hn300_3 : ad291.block ≠ gb299 := Kd.own_blk (Kd.R_ne HO_5.out BK299.out (by decide));have hn300_4 : ad291.block ≠ gb299 := Kd.own_blk (Kd.R_ne HO_5.out BK299.out (by decide));have hn300_5 : ad291.block ≠ gb299 := Kd.own_blk (Kd.R_ne HO_5.out BK299.out (by decide));replace hx300_0 := (cell_far (p := ⟨gb299,0,none⟩) (by first | (rw [add_block];exact hn300_0) | (show (Addr.add _ _).block ≠ _;rw [add_block];exact hn300_0) | exact hn300_0) (.int .i64 t292)).trans hx300_0;replace hx300_0 := (cell_far (p := ⟨gb299,1,none⟩) (by first | (rw [add_block];exact hn300_1) | (show (Addr.add _ _).block ≠ _;rw [add_block];exact hn300_1) | exact hn300_1) (.int .i64 t293)).trans hx300_0;replace hx300_0 := (cell_far (p := ⟨gb299,2,none⟩) (by first | (rw [add_block];exact hn300_2) | (show (Addr.add _ _).block ≠ _;rw [add_block];exact hn300_2) | exact hn300_2) (.string t294)).trans hx300_0;replace hx300_0 := (cell_far (p := ⟨gb299,3,none⟩) (by first | (rw [add_block];exact hn300_3) | (show (Addr.add _ _).block ≠ _;rw [add_block];exact hn300_3) | exact hn300_3) (.int .i64 t295)).trans hx300_0;replace hx300_0 := (cell_far (p := ⟨gb299,4,none⟩) (by first | (rw [add_block];exact hn300_4) | (show (Addr.add _ _).block ≠ _;rw [add_block];exact hn300_4) | exact hn300_4) (.string t296)).trans hx300_0;replace hx300_0 := (cell_far (p := ⟨gb299,5,none⟩) (by first | (rw [add_block];exact hn300_5) | (show (Addr.add _ _).block ≠ _;rw [add_block];exact hn300_5) | exact hn300_5) (.bool t297)).trans hx300_0;clear hn300_0;clear hn300_1;clear hn300_2;clear hn300_3;clear hn300_4;clear hn300_5;replace p300 := eq_true p300;replace q300 := eq_true q300) | (go_at_call 19;(with_reducible refine (word_Spans.calls a0 t301 _ ?side1 A60.out).mono ?_);(case side1 => exact tabs_below HT.out au6);rintro e w72 ⟨v302,rfl,ho0,hb⟩;have n0_ := Aside0.mk (Kd.R_below au11 hb);have n1_ := Aside0.mk (Kd.R_lower ho0 (below_size au6));have n2_ := Aside0.mk (blk_below (g := gb299) (o := .cells #[.int .i64 t292,.int .i64 t293,.string t294,.int .i64 t295,.string t296,.bool t297] 30 (0,0)) au2 hb);have n3_ := Aside0.mk (below_step au6 hb);clear HO_5;clear BK299;clear HB;have HO_5 := n0_;have HO303 := n1_;have BK299 := n2_;have HB := n3_;clear n0_ n1_ n2_ n3_;(try clear hb);(try clear hb2);(try clear hk);(try clear hi);(try clear ho0);obtain ⟨Ao73,co73,eo73⟩ := Kd.R_slice HO303.out;subst eo73));try go_wp2_with (first | (go_at_call 9;(with_reducible refine (change_Of.calls (rd y288 x6_1) 7 (⟨#[]⟩ : ByteArray) 0 a0 a1 (-1) t292 t293 t294 t295 t296 t297 t298 _ ?side1 A10.out).mono ?_);(case side1 => exact tabs_below HT.out au0);rintro e w69 ⟨rfl,hb⟩;have n0_ := Aside0.mk (Kd.R_below au13 hb);have n1_ := Aside0.mk (below_step au0 hb);clear HO_5;clear HB;have HO_5 := n0_;have HB := n1_;clear n0_ n1_;(try clear hb);(try clear hb2);(try clear hk);(try clear hi)) | ((with_reducible refine gate_dst (N := 7) rfl ?_);(try (refine gate_guard (by rfl) ?_;dsimp only));refine box_event ?hg (N := 7) ?hd (cs := #[.int .i64 0,.int .i64 0,.string (⟨#[]⟩ : ByteArray),.int .i64 0,.string (⟨#[]⟩ : ByteArray),.bool false]) (t := 30) ?hr ?_;(case hd => rfl);(case hg => rfl);(case hr => first | (go_simp;done) | (go_simp;rfl));intro gb299 hg w70 hbox hb;have n0_ := Aside0.mk (Kd.R_below au13 hb);have n1_ := Aside0.mk (below_step au0 hb);have n2_ := Aside0.mk (hbox);have n3_ := Aside0.mk ((by rw [hg];exact (below_size au0) : w.heap.size ≤ gb299));have n4_ := Aside0.mk ((by rw [hg];exact (below_size au0) : w.heap.size ≤ gb299));clear HO_5;clear HB;have HO_5 := n0_;have HB := n1_;have BK299 := n2_;have GW299 := n3_;have GE299 := n4_;clear n0_ n1_ n2_ n3_ n4_;clear hb hbox hg;have hcz71_0 : w70.cell? ⟨gb299,0,none⟩ = some (.int .i64 0) := (blk_cell BK299.out 0).trans rfl;have hcz71_1 : w70.cell? ⟨gb299,1,none⟩ = some (.int .i64 0) := (blk_cell BK299.out 1).trans rfl;have hcz71_2 : w70.cell? ⟨gb299,2,none⟩ = some (.string (⟨#[]⟩ : ByteArray)) := (blk_cell BK299.out 2).trans rfl;have hcz71_3 : w70.cell? ⟨gb299,3,none⟩ = some (.int .i64 0) := (blk_cell BK299.out 3).trans rfl;have hcz71_4 : w70.cell? ⟨gb299,4,none⟩ = some (.string (⟨#[]⟩ : ByteArray)) := (blk_cell BK299.out 4).trans rfl;have hcz71_5 : w70.cell? ⟨gb299,5,none⟩ = some (.bool false) := (blk_cell BK299.out 5).trans rfl;have hfz71_0 := blk_frozen BK299.out 0;have hfz71_1 := blk_frozen BK299.out 1;have hfz71_2 := blk_frozen BK299.out 2;have hfz71_3 := blk_frozen BK299.out 3;have hfz71_4 := blk_frozen BK299.out 4;have hfz71_5 := blk_frozen BK299.out 5;have p300 : 0 ≤ (x6_1 : Int) := of_decide_eq_true au12;have q300 : x6_1 < (y288.length : Int) := of_decide_eq_true au12;obtain ⟨ad300,e300,hx300_0⟩ := Kd.at_int (Kd.R_reads' HO_5.out).2.2 x6_1 p300 q300;obtain rfl : ad291 = ad300 := (by injection e300);have hn300_0 : ad291.block ≠ gb299 := Kd.own_blk (Kd.R_ne HO_5.out BK299.out (by decide));have hn300_1 : ad291.block ≠ gb299 := Kd.own_blk (Kd.R_ne HO_5.out BK299.out (by decide));have hn300_2 : ad291.block ≠ gb299 := Kd.own_blk (Kd.R_ne HO_5.out BK299.out (by decide));have hn300_3 : ad291.block ≠ gb299 := Kd.own_blk (Kd.R_ne HO_5.out BK299.out (by decide));have hn300_4 : ad291.block ≠ gb299 := Kd.own_blk (Kd.R_ne HO_5.out BK299.out (by decide));have hn300_5 : ad291.block ≠ gb299 := Kd.own_blk (Kd.R_ne HO_5.out BK299.out (by decide));replace hx300_0 := (cell_far (p := ⟨gb299,0,none⟩) (by first | (rw [add_block];exact hn300_0) | (show (Addr.add _ _).block ≠ _;rw [add_block];exact hn300_0) | exact hn300_0) (.int .i64 t292)).trans hx300_0;replace hx300_0 := (cell_far (p := ⟨gb299,1,none⟩) (by first | (rw [add_block];exact hn300_1) | (show (Addr.add _ _).block ≠ _;rw [add_block];exact hn300_1) | exact hn300_1) (.int .i64 t293)).trans hx300_0;replace hx300_0 := (cell_far (p := ⟨gb299,2,none⟩) (by first | (rw [add_block];exact hn300_2) | (show (Addr.add _ _).block ≠ _;rw [add_block];exact hn300_2) | exact hn300_2) (.string t294)).trans hx300_0;replace hx300_0 := (cell_far (p := ⟨gb299,3,none⟩) (by first | (rw [add_block];exact hn300_3) | (show (Addr.add _ _).block ≠ _;rw [add_block];exact hn300_3) | exact hn300_3) (.int .i64 t295)).trans hx300_0;replace hx300_0 := (cell_far (p := ⟨gb299,4,none⟩) (by first | (rw [add_block];exact hn300_4) | (show (Addr.add _ _).block ≠ _;rw [add_block];exact hn300_4) | exact hn300_4) (.string t296)).trans hx300_0;replace hx300_0 := (cell_far (p := ⟨gb299,5,none⟩) (by first | (rw [add_block];exact hn300_5) | (show (Addr.add _ _).block ≠ _;rw [add_block];exact hn300_5) | exact hn300_5) (.bool t297)).trans hx300_0;clear hn300_0;clear hn300_1;clear hn300_2;clear hn300_3;clear hn300_4;clear hn300_5;replace p300 := eq_true p300;replace q300 := eq_true q300) | (go_at_call 19;(with_reducible refine (word_Spans.calls a0 t301 _ ?side1 A60.out).mono ?_);(case side1 => exact tabs_below HT.out au6);rintro e w72 ⟨v302,rfl,ho0,hb⟩;have n0_ := Aside0.mk (Kd.R_below au11 hb);have n1_ := Aside0.mk (Kd.R_lower ho0 (below_size au6));have n2_ := Aside0.mk (blk_below (g := gb299) (o := .cells #[.int .i64 t292,.int .i64 t293,.string t294,.int .i64 t295,.string t296,.bool t297] 30 (0,0)) au2 hb);have n3_ := Aside0.mk (below_step au6 hb);clear HO_5;clear BK299;clear HB;have HO_5 := n0_;have HO303 := n1_;have BK299 := n2_;have HB := n3_;clear n0_ n1_ n2_ n3_;(try clear hb);(try clear hb2);(try clear hk);(try clear hi);(try clear ho0);obtain ⟨Ao73,co73,eo73⟩ := Kd.R_slice HO303.out;subst eo73)))
          go_roundg k1
          case measure => have := HK1.out;omega
          case rel => exact ⟨(wrap64 (x6_1 + 1)),au8,H',⟨by have := HK1.out;omega⟩,⟨by (with_reducible repeat (first | apply Kd.R_alloc | apply Kd.R_drewN | apply Kd.R_drew));exact HO_5.out⟩,⟨by repeat (first | (with_reducible first | exact HB.out | apply below_alloc | apply pw_below_drewN | apply below_drew1 | refine below_set ?_ GE299.out) | exact HB.out)⟩⟩
        ·rw [if_neg c59] at H
         have c59b0 : ((rd y288 x6_1) == 25) = false := beq_eq_false_iff_ne.mpr c59
         have c59b1 : ((rd y288 x6_1) != 25) = true := bne_iff_ne.mpr c59
         have H' := Aside0.mk H
         clear H
         obtain ⟨Ao74,co74,eo74⟩ := Kd.R_slice HO_5.out
         subst eo74
         have p291 : 0 ≤ (x6_1 : Int) := of_decide_eq_true au12
         have q291 : x6_1 < (y288.length : Int) := of_decide_eq_true au12
         obtain ⟨ad291,e291,hx291_0⟩ := Kd.at_int (Kd.R_reads' HO_5.out).2.2 x6_1 p291 q291
         cases e291
         replace p291 := eq_true p291
         replace q291 := eq_true q291
         go_wp2_with (first | (go_at_call 9;(with_reducible refine (change_Of.calls (rd y288 x6_1) 7 (⟨#[]⟩ : ByteArray) 0 a0 a1 (-1) t292 t293 t294 t295 t296 t297 t298 _ ?side1 A10.out).mono ?_);(case side1 => exact tabs_below HT.out au0);rintro e w75 ⟨rfl,hb⟩;have n0_ := Aside0.mk (Kd.R_below au13 hb);have n1_ := Aside0.mk (below_step au0 hb);clear HO_5;clear HB;have HO_5 := n0_;have HB := n1_;clear n0_ n1_;(try clear hb);(try clear hb2);(try clear hk);(try clear hi)) | ((with_reducible refine gate_dst (N := 7) rfl ?_);(try (refine gate_guard (by rfl) ?_;dsimp only));refine box_event ?hg (N := 7) ?hd (cs := #[.int .i64 0,.int .i64 0,.string (⟨#[]⟩ : ByteArray),.int .i64 0,.string (⟨#[]⟩ : ByteArray),.bool false]) (t := 30) ?hr ?_;(case hd => rfl);(case hg => rfl);(case hr => first | (go_simp;done) | (go_simp;rfl));intro gb299 hg w76 hbox hb;have n0_ := Aside0.mk (Kd.R_below au13 hb);have n1_ := Aside0.mk (below_step au0 hb);have n2_ := Aside0.mk (hbox);have n3_ := Aside0.mk ((by rw [hg];exact (below_size au0) : w.heap.size ≤ gb299));have n4_ := Aside0.mk ((by rw [hg];exact (below_size au0) : w.heap.size ≤ gb299));clear HO_5;clear HB;have HO_5 := n0_;have HB := n1_;have BK299 := n2_;have GW299 := n3_;have GE299 := n4_;clear n0_ n1_ n2_ n3_ n4_;clear hb hbox hg;have hcz77_0 : w76.cell? ⟨gb299,0,none⟩ = some (.int .i64 0) := (blk_cell BK299.out 0).trans rfl;have hcz77_1 : w76.cell? ⟨gb299,1,none⟩ = some (.int .i64 0) := (blk_cell BK299.out 1).trans rfl;have hcz77_2 : w76.cell? ⟨gb299,2,none⟩ = some (.string (⟨#[]⟩ : ByteArray)) := (blk_cell BK299.out 2).trans rfl;have hcz77_3 : w76.cell? ⟨gb299,3,none⟩ = some (.int .i64 0) := (blk_cell BK299.out 3).trans rfl;have hcz77_4 : w76.cell? ⟨gb299,4,none⟩ = some (.string (⟨#[]⟩ : ByteArray)) := (blk_cell BK299.out 4).trans rfl;have hcz77_5 : w76.cell? ⟨gb299,5,none⟩ = some (.bool false) := (blk_cell BK299.out 5).trans rfl;have hfz77_0 := blk_frozen BK299.out 0;have hfz77_1 := blk_frozen BK299.out 1;have hfz77_2 := blk_frozen BK299.out 2;have hfz77_3 := blk_frozen BK299.out 3;have hfz77_4 := blk_frozen BK299.out 4;have hfz77_5 := blk_frozen BK299.out 5;have p300 : 0 ≤ (x6_1 : Int) := of_decide_eq_true au12;have q300 : x6_1 < (y288.length : Int) := of_decide_eq_true au12;obtain ⟨ad300,e300,hx300_0⟩ := Kd.at_int (Kd.R_reads' HO_5.out).2.2 x6_1 p300 q300;obtain rfl : ad291 = ad300 := (by injection e300);have hn300_0 : ad291.block ≠ gb299 := Kd.own_blk (Kd.R_ne HO_5.out BK299.out (by decide));have hn300_1 : ad291.block ≠ gb299 := Kd.own_blk (Kd.R_ne HO_5.out BK299.out (by decide));have hn300_2 : ad291.block ≠ gb299 := Kd.own_blk (Kd.R_ne HO_5.out BK299.out (by decide));have hn300_3 : ad291.block ≠ gb299 := Kd.own_blk (Kd.R_ne HO_5.out BK299.out (by decide));have hn300_4 : ad291.block ≠ gb299 := Kd.own_blk (Kd.R_ne HO_5.out BK299.out (by decide));have hn300_5 : ad291.block ≠ gb299 := Kd.own_blk (Kd.R_ne HO_5.out BK299.out (by decide));replace hx300_0 := (cell_far (p := ⟨gb299,0,none⟩) (by first | (rw [add_block];exact hn300_0) | (show (Addr.add _ _).block ≠ _;rw [add_block];exact hn300_0) | exact hn300_0) (.int .i64 t292)).trans hx300_0;replace hx300_0 := (cell_far (p := ⟨gb299,1,none⟩) (by first | (rw [add_block];exact hn300_1) | (show (Addr.add _ _).block ≠ _;rw [add_block];exact hn300_1) | exact hn300_1) (.int .i64 t293)).trans hx300_0;replace hx300_0 := (cell_far (p := ⟨gb299,2,none⟩) (by first | (rw [add_block];exact hn300_2) | (show (Addr.add _ _).block ≠ _;rw [add_block];exact hn300_2) | exact hn300_2) (.string t294)).trans hx300_0;replace hx300_0 := (cell_far (p := ⟨gb299,3,none⟩) (by first | (rw [add_block];exact hn300_3) | (show (Addr.add _ _).block ≠ _;rw [add_block];exact hn300_3) | exact hn300_3) (.int .i64 t295)).trans hx300_0;replace hx300_0 := (cell_far (p := ⟨gb299,4,none⟩) (by first | (rw [add_block];exact hn300_4) | (show (Addr.add _ _).block ≠ _;rw [add_block];exact hn300_4) | exact hn300_4) (.string t296)).trans hx300_0;replace hx300_0 := (cell_far (p := ⟨gb299,5,none⟩) (by first | (rw [add_block];exact hn300_5) | (show (Addr.add _ _).block ≠ _;rw [add_block];exact hn300_5) | exact hn300_5) (.bool t297)).trans hx300_0;clear hn300_0;clear hn300_1;clear hn300_2;clear hn300_3;clear hn300_4;clear hn300_5;replace p300 := eq_true p300;replace q300 := eq_true q300))
         repeat (go_quiet (first | (go_at_call 9;(with_reducible refine (change_Of.calls (rd y288 x6_1) 7 (⟨#[]⟩ : ByteArray) 0 a0 a1 (-1) t292 t293 t294 t295 t296 t297 t298 _ ?side1 A10.out).mono ?_);(case side1 => exact tabs_below HT.out au0);rintro e w75 ⟨rfl,hb⟩;have n0_ := Aside0.mk (Kd.R_below au13 hb);have n1_ := Aside0.mk (below_step au0 hb);clear HO_5;clear HB;have HO_5 := n0_;have HB := n1_;clear n0_ n1_;(try clear hb);(try clear hb2);(try clear hk);(try clear hi)) | ((with_reducible refine gate_dst (N := 7) rfl ?_);(try (refine gate_guard (by rfl) ?_;dsimp only));refine box_event ?hg (N := 7) ?hd (cs := #[.int .i64 0,.int .i64 0,.string (⟨#[]⟩ : ByteArray),.int .i64 0,.string (⟨#[]⟩ : ByteArray),.bool false]) (t := 30) ?hr ?_;(case hd => rfl);(case hg => rfl);(case hr => first | (go_simp;done) | (go_simp;rfl));intro gb299 hg w76 hbox hb;have n0_ := Aside0.mk (Kd.R_below au13 hb);have n1_ := Aside0.mk (below_step au0 hb);have n2_ := Aside0.mk (hbox);have n3_ := Aside0.mk ((by rw [hg];exact (below_size au0) : w.heap.size ≤ gb299));have n4_ := Aside0.mk ((by rw [hg];exact (below_size au0) : w.heap.size ≤ gb299));clear HO_5;clear HB;have HO_5 := n0_;have HB := n1_;have BK299 := n2_;have GW299 := n3_;have GE299 := n4_;clear n0_ n1_ n2_ n3_ n4_;clear hb hbox hg;have hcz77_0 : w76.cell? ⟨gb299,0,none⟩ = some (.int .i64 0) := (blk_cell BK299.out 0).trans rfl;have hcz77_1 : w76.cell? ⟨gb299,1,none⟩ = some (.int .i64 0) := (blk_cell BK299.out 1).trans rfl;have hcz77_2 : w76.cell? ⟨gb299,2,none⟩ = some (.string (⟨#[]⟩ : ByteArray)) := (blk_cell BK299.out 2).trans rfl;have hcz77_3 : w76.cell? ⟨gb299,3,none⟩ = some (.int .i64 0) := (blk_cell BK299.out 3).trans rfl;have hcz77_4 : w76.cell? ⟨gb299,4,none⟩ = some (.string (⟨#[]⟩ : ByteArray)) := (blk_cell BK299.out 4).trans rfl;have hcz77_5 : w76.cell? ⟨gb299,5,none⟩ = some (.bool false) := (blk_cell BK299.out 5).trans rfl;have hfz77_0 := blk_frozen BK299.out 0;have hfz77_1 := blk_frozen BK299.out 1;have hfz77_2 := blk_frozen BK299.out 2;have hfz77_3 := blk_frozen BK299.out 3;have hfz77_4 := blk_frozen BK299.out 4;have hfz77_5 := blk_frozen BK299.out 5;have p300 : 0 ≤ (x6_1 : Int) := of_decide_eq_true au12;have q300 : x6_1 < (y288.length : Int) := of_decide_eq_true au12;obtain ⟨ad300,e300,hx300_0⟩ := Kd.at_int (Kd.R_reads' HO_5.out).2.2 x6_1 p300 q300;obtain rfl : ad291 = ad300 := (by injection e300);have hn300_0 : ad291.block ≠ gb299 := Kd.own_blk (Kd.R_ne HO_5.out BK299.out (by decide));have hn300_1 : ad291.block ≠ gb299 := Kd.own_blk (Kd.R_ne HO_5.out BK299.out (by decide));have hn300_2 : ad291.block ≠ gb299 := Kd.own_blk (Kd.R_ne HO_5.out BK299.out (by decide));have hn300_3 : ad291.block ≠ gb299 := Kd.own_blk (Kd.R_ne HO_5.out BK299.out (by decide));have hn300_4 : ad291.block ≠ gb299 := Kd.own_blk (Kd.R_ne HO_5.out BK299.out (by decide));have hn300_5 : ad291.block ≠ gb299 := Kd.own_blk (Kd.R_ne HO_5.out BK299.out (by decide));replace hx300_0 := (cell_far (p := ⟨gb299,0,none⟩) (by first | (rw [add_block];exact hn300_0) | (show (Addr.add _ _).block ≠ _;rw [add_block];exact hn300_0) | exact hn300_0) (.int .i64 t292)).trans hx300_0;replace hx300_0 := (cell_far (p := ⟨gb299,1,none⟩) (by first | (rw [add_block];exact hn300_1) | (show (Addr.add _ _).block ≠ _;rw [add_block];exact hn300_1) | exact hn300_1) (.int .i64 t293)).trans hx300_0;replace hx300_0 := (cell_far (p := ⟨gb299,2,none⟩) (by first | (rw [add_block];exact hn300_2) | (show (Addr.add _ _).block ≠ _;rw [add_block];exact hn300_2) | exact hn300_2) (.string t294)).trans hx300_0;replace hx300_0 := (cell_far (p := ⟨gb299,3,none⟩) (by first | (rw [add_block];exact hn300_3) | (show (Addr.add _ _).block ≠ _;rw [add_block];exact hn300_3) | exact hn300_3) (.int .i64 t295)).trans hx300_0;replace hx300_0 := (cell_far (p := ⟨gb299,4,none⟩) (by first | (rw [add_block];exact hn300_4) | (show (Addr.add _ _).block ≠ _;rw [add_block];exact hn300_4) | exact hn300_4) (.string t296)).trans hx300_0;replace hx300_0 := (cell_far (p := ⟨gb299,5,none⟩) (by first | (rw [add_block];exact hn300_5) | (show (Addr.add _ _).block ≠ _;rw [add_block];exact hn300_5) | exact hn300_5) (.bool t297)).trans hx300_0;clear hn300_0;clear hn300_1;clear hn300_2;clear hn300_3;clear hn300_4;clear hn300_5;replace p300 := eq_true p300;replace q300 := eq_true q300));try go_wp2_with (first | (go_at_call 9;(with_reducible refine (change_Of.calls (rd y288 x6_1) 7 (⟨#[]⟩ : ByteArray) 0 a0 a1 (-1) t292 t293 t294 t295 t296 t297 t298 _ ?side1 A10.out).mono ?_);(case side1 => exact tabs_below HT.out au0);rintro e w75 ⟨rfl,hb⟩;have n0_ := Aside0.mk (Kd.R_below au13 hb);have n1_ := Aside0.mk (below_step au0 hb);clear HO_5;clear HB;have HO_5 := n0_;have HB := n1_;clear n0_ n1_;(try clear hb);(try clear hb2);(try clear hk);(try clear hi)) | ((with_reducible refine gate_dst (N := 7) rfl ?_);(try (refine gate_guard (by rfl) ?_;dsimp only));refine box_event ?hg (N := 7) ?hd (cs := #[.int .i64 0,.int .i64 0,.string (⟨#[]⟩ : ByteArray),.int .i64 0,.string (⟨#[]⟩ : ByteArray),.bool false]) (t := 30) ?hr ?_;(case hd => rfl);(case hg => rfl);(case hr => first | (go_simp;done) | (go_simp;rfl));intro gb299 hg w76 hbox hb;have n0_ := Aside0.mk (Kd.R_below au13 hb);have n1_ := Aside0.mk (below_step au0 hb);have n2_ := Aside0.mk (hbox);have n3_ := Aside0.mk ((by rw [hg];exact (below_size au0) : w.heap.size ≤ gb299));have n4_ := Aside0.mk ((by rw [hg];exact (below_size au0) : w.heap.size ≤ gb299));clear HO_5;clear HB;have HO_5 := n0_;have HB := n1_;have BK299 := n2_;have GW299 := n3_;have GE299 := n4_;clear n0_ n1_ n2_ n3_ n4_;clear hb hbox hg;have hcz77_0 : w76.cell? ⟨gb299,0,none⟩ = some (.int .i64 0) := (blk_cell BK299.out 0).trans rfl;have hcz77_1 : w76.cell? ⟨gb299,1,none⟩ = some (.int .i64 0) := (blk_cell BK299.out 1).trans rfl;have hcz77_2 : w76.cell? ⟨gb299,2,none⟩ = some (.string (⟨#[]⟩ : ByteArray)) := (blk_cell BK299.out 2).trans rfl;have hcz77_3 : w76.cell? ⟨gb299,3,none⟩ = some (.int .i64 0) := (blk_cell BK299.out 3).trans rfl;have hcz77_4 : w76.cell? ⟨gb299,4,none⟩ = some (.string (⟨#[]⟩ : ByteArray)) := (blk_cell BK299.out 4).trans rfl;have hcz77_5 : w76.cell? ⟨gb299,5,none⟩ = some (.bool false) := (blk_cell BK299.out 5).trans rfl;have hfz77_0 := blk_frozen BK299.out 0;have hfz77_1 := blk_frozen BK299.out 1;have hfz77_2 := blk_frozen BK299.out 2;have hfz77_3 := blk_frozen BK299.out 3;have hfz77_4 := blk_frozen BK299.out 4;have hfz77_5 := blk_frozen BK299.out 5;have p300 : 0 ≤ (x6_1 : Int) := of_decide_eq_true au12;have q300 : x6_1 < (y288.length : Int) := of_decide_eq_true au12;obtain ⟨ad300,e300,hx300_0⟩ := Kd.at_int (Kd.R_reads' HO_5.out).2.2 x6_1 p300 q300;obtain rfl : ad291 = ad300 := (by injection e300);have hn300_0 : ad291.block ≠ gb299 := Kd.own_blk (Kd.R_ne HO_5.out BK299.out (by decide));have hn300_1 : ad291.block ≠ gb299 := Kd.own_blk (Kd.R_ne HO_5.out BK299.out (by decide));have hn300_2 : ad291.block ≠ gb299 := Kd.own_blk (Kd.R_ne HO_5.out BK299.out (by decide));have hn300_3 : ad291.block ≠ gb299 := Kd.own_blk (Kd.R_ne HO_5.out BK299.out (by decide));have hn300_4 : ad291.block ≠ gb299 := Kd.own_blk (Kd.R_ne HO_5.out BK299.out (by decide));have hn300_5 : ad291.block ≠ gb299 := Kd.own_blk (Kd.R_ne HO_5.out BK299.out (by decide));replace hx300_0 := (cell_far (p := ⟨gb299,0,none⟩) (by first | (rw [add_block];exact hn300_0) | (show (Addr.add _ _).block ≠ _;rw [add_block];exact hn300_0) | exact hn300_0) (.int .i64 t292)).trans hx300_0;replace hx300_0 := (cell_far (p := ⟨gb299,1,none⟩) (by first | (rw [add_block];exact hn300_1) | (show (Addr.add _ _).block ≠ _;rw [add_block];exact hn300_1) | exact hn300_1) (.int .i64 t293)).trans hx300_0;replace hx300_0 := (cell_far (p := ⟨gb299,2,none⟩) (by first | (rw [add_block];exact hn300_2) | (show (Addr.add _ _).block ≠ _;rw [add_block];exact hn300_2) | exact hn300_2) (.string t294)).trans hx300_0;replace hx300_0 := (cell_far (p := ⟨gb299,3,none⟩) (by first | (rw [add_block];exact hn300_3) | (show (Addr.add _ _).block ≠ _;rw [add_block];exact hn300_3) | exact hn300_3) (.int .i64 t295)).trans hx300_0;replace hx300_0 := (cell_far (p := ⟨gb299,4,none⟩) (by first | (rw [add_block];exact hn300_4) | (show (Addr.add _ _).block ≠ _;rw [add_block];exact hn300_4) | exact hn300_4) (.string t296)).trans hx300_0;replace hx300_0 := (cell_far (p := ⟨gb299,5,none⟩) (by first | (rw [add_block];exact hn300_5) | (show (Addr.add _ _).block ≠ _;rw [add_block];exact hn300_5) | exact hn300_5) (.bool t297)).trans hx300_0;clear hn300_0;clear hn300_1;clear hn300_2;clear hn300_3;clear hn300_4;clear hn300_5;replace p300 := eq_true p300;replace q300 := eq_true q300)))
         go_roundg k1
         case measure => have := HK1.out;omega
         case rel => exact ⟨(wrap64 (x6_1 + 1)),au8,H',⟨by have := HK1.out;omega⟩,⟨by (with_reducible repeat (first | apply Kd.R_alloc | apply Kd.R_drewN | apply Kd.R_drew));exact Kd.R_mono (Kd.R_far (p := ⟨gb299,5,none⟩) (Kd.R_far (p := ⟨gb299,4,none⟩) (Kd.R_far (p := ⟨gb299,3,none⟩) (Kd.R_far (p := ⟨gb299,2,none⟩) (Kd.R_far (p := ⟨gb299,1,none⟩) (Kd.R_far (p := ⟨gb299,0,none⟩) (Kd.R_types HO_5.out BK299.out (by decide)) (fun _ hk => hk.2) (.int .i64 t292)) (fun _ hk => hk.2) (.int .i64 t293)) (fun _ hk => hk.2) (.string t294)) (fun _ hk => hk.2) (.int .i64 t295)) (fun _ hk => hk.2) (.string t296)) (fun _ hk => hk.2) (.bool t297)) (fun _ hk => trivial)⟩,⟨by repeat (first | (with_reducible first | exact HB.out | apply below_alloc | apply pw_below_drewN | apply below_drew1 | refine below_set ?_ GE299.out) | exact HB.out)⟩⟩
       ·rw [if_neg c58] at H
        have c58b0 : (t298 == 8) = false := beq_eq_false_iff_ne.mpr c58
        have c58b1 : (t298 != 8) = true := bne_iff_ne.mpr c58
        obtain rfl := Option.some.inj H
        cases hr_
     ·rw [if_neg c9] at H
      exact absurd H (by simp)
    ·rw [if_neg c8] at H
     have c8b0 : decide (x6_1 < (y288.length : Int)) = false := decide_eq_false c8
     clear c8
     obtain rfl := Option.some.inj H
     obtain ⟨Ao82,co82,eo82⟩ := Kd.R_slice HO_5.out
     subst eo82
     go_wp2
     repeat (go_quiet (fail);try go_wp2)
     go_ret
     exact ⟨au3,au0⟩
 ·replace c4 := Bool.eq_false_iff.mpr c4
  subst c4
  have H1 : (some false) = some r := by rw [if_neg (show ¬ (false = true) by decide)] at H;exact H
  clear H
  have H := H1
  clear H1
  obtain rfl := Option.some.inj H
  cases hr_
end Go.Proofs.YtfmnmjoofnbnfaaDoor.U
end
section
namespace Go.Proofs.YtfmnmjoofnbnfaaDoor.Pu
open Go Go.RowKit Go.Proofs.YtfmnmjoofnbnfaaDoor.Mu Go.Proofs.YtfmnmjoofnbnfaaDoor.U Go.Proofs.YtfmnmjoofnbnfaaDoorW.PrintWords Go.Proofs.YtfmnmjoofnbnfaaDoorW.PrintLast Go.Proofs.YtfmnmjoofnbnfaaDoorW.PrintMore
set_option linter.unusedVariables false
set_option linter.unusedSimpArgs false
theorem of_eq {text : ByteArray} (hs : text.size ≤ 549755813888) (kind count : Int) (tx : ByteArray) (mark at_ region : Int) : change_Of.f kind count tx mark text at_ region = some (ofB kind (ruleZ (wkOf text count at_ region)) 13 0) := by
 unfold change_Of.f
 rw [if_pos hs]
theorem snZ_at {s : ByteArray} (hs : s.size ≤ 1099511627776) {a : Int} (h : CBI s a) : snZ s a = a := (snZ_spec s hs a).one (csnapS_at h)
theorem snZ_cb (s : ByteArray) (hs : s.size ≤ 1099511627776) (a : Int) : CBI s (snZ s a) := (snZ_spec s hs a).1
theorem nxZ_end (s : ByteArray) (hs : s.size ≤ 1099511627776) : nxZ s s.size = s.size := by
 have := nxZ_range s hs s.size (by omega) (Int.le_refl _)
 omega
def smp : ByteArray := ⟨#[97,98,32,99,45,100,10,101,102]⟩
theorem smp_size : smp.size = 9 := rfl
theorem smp_cb {a : Int} (h : decide (a ∈ cbndL smp) = true) : CBI smp a := (cbndL_mem smp a).1 (of_decide_eq_true h)
theorem smp_of1 : ofB 17 (ruleZ (wkOf smp 2 6 (-1))) 13 0 = (3,3,⟨#[]⟩,3,⟨#[99,45,100]⟩,true,0) := by
 have e : snZ smp 6 = 6 := snZ_at (by rw [smp_size];omega) (smp_cb (by kernel_rfl))
 have e2 : ofB 17 (ruleZ (wkOf smp 2 6 (-1))) 13 0 = cutZ smp true true (againN (beA smp) 2 (snZ smp 6)) (snZ smp 6) := rfl
 rw [e2,e]
 exact (show cutZ smp true true (againN (beA smp) 2 6) 6 = (3,3,⟨#[]⟩,3,⟨#[99,45,100]⟩,true,0) by kernel_rfl)
theorem smp_of2 : ofB 25 (ruleZ (wkOf smp 0 4 (-1))) 13 0 = (3,3,⟨#[100,45,99]⟩,6,⟨#[]⟩,false,0) := by
 have e : snZ smp 4 = 4 := snZ_at (by rw [smp_size];omega) (smp_cb (by kernel_rfl))
 have e2 : ofB 25 (ruleZ (wkOf smp 0 4 (-1))) 13 0 = trwZ ⟨smp,snZ smp 4,-1,1⟩ := rfl
 rw [e2,e]
 exact (show trwZ ⟨smp,4,-1,1⟩ = (3,3,⟨#[100,45,99]⟩,6,⟨#[]⟩,false,0) by kernel_rfl)
theorem smp_of3 : ofB 14 (ruleZ (wkOf smp 0 9 (-1))) 13 0 = (0,0,⟨#[]⟩,0,⟨#[]⟩,false,8) := by
 have hs : smp.size ≤ 1099511627776 := by rw [smp_size];omega
 have e : snZ smp 9 = 9 := snZ_at hs (cbI_size smp)
 have en : nxZ smp 9 = 9 := nxZ_end smp hs
 have e2 : ofB 14 (ruleZ (wkOf smp 0 9 (-1))) 13 0 = cutZ smp false false (snZ smp 9) (againN (nxZ smp) 1 (snZ smp 9)) := rfl
 rw [e2,e,againN,if_pos en,cutZ,if_pos rfl]
theorem next_a : Ev (fun k => cluster_Next.f k (⟨#[97]⟩ : ByteArray) 0) 1 := Ev.of (fun k => cluster_Next.mono _ _ k) (k := 100) (by kernel_rfl)
theorem awake17_ans : Ev (fun k => bodkinlaw17_awake.f k) true := by
 have hs : smp.size ≤ 549755813888 := by rw [smp_size];omega
 unfold bodkinlaw17_awake.f
 refine Ev.bind next_a (ev_pos rfl ?_)
 refine ev_some (of_eq hs 17 2 _ _ 6 (-1)) ?_
 rw [smp_of1]
 refine ev_some (of_eq hs 25 0 _ _ 4 (-1)) ?_
 rw [smp_of2]
 refine ev_some (of_eq hs 14 0 _ _ 9 (-1)) ?_
 rw [smp_of3]
 exact ev_pos (by kernel_rfl) (ev_pos rfl (ev_pos rfl (ev_pos rfl (ev_pos (by kernel_rfl) (ev_pos rfl (ev_pos rfl (ev_some (a := true) rfl (Ev.now _))))))))
end Go.Proofs.YtfmnmjoofnbnfaaDoor.Pu
end
