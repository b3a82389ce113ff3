/- What the law LayoutLays reaches of this seat's own texts, merged; what nothing uses is left out. -/
import Derived.Test.YtnpjaaldppemlaaDoorZLayoutLays0
import Derived.Test.YtnpjaaldppemlaaDoorZLayoutLays1
import Derived.Test.YtnpjaaldppemlaaDoorZLayoutLays6
import Derived.Test.YtnpjaaldppemlaaDoorZLayoutLays7
import Derived.Test.YtnpjaaldppemlaaDoorZLayoutLays9
section
namespace Go.Proofs.YtnpjaaldppemlaaDoor.U
open Go.RowKit Go.Proofs.YtnpjaaldppemlaaDoorW.PrintWords Go.Proofs.YtnpjaaldppemlaaDoorW.PrintLast Go.Proofs.YtnpjaaldppemlaaDoorW.PrintMore
attribute [local go_sem] max2_int min2_int max_two min_two max_three min_three max_four min_four   -- for this text's walks alone
set_option linter.unusedVariables false
set_option linter.unusedSimpArgs false
mutual
def bodkinref03_List.l0 : Nat → List (S60) → List (S87) → Int → Int → Option ((List (S60)))
 | 0,_,_,_,_ => none
 | k + 1,x3,x4,x5,x6 => if x6 < (x4.length : Int) then (if x6 > 0 then (if 0 ≤ (wrap64 (x6 - 1)) then (if (wrap64 (x6 - 1)) < (x4.length : Int) then (if 0 ≤ x6 then ((bodkinref03_joined.f k ((rd_T87 x4 (wrap64 (x6 - 1))).f0) ((rd_T87 x4 (wrap64 (x6 - 1))).f1) ((rd_T87 x4 x6).f0) ((rd_T87 x4 x6).f1)).bind fun t481 => (bodkinref03_List.j1 k x3 x4 x5 x6 t481)) else (none)) else (none)) else (none)) else (bodkinref03_List.j1 k x3 x4 x5 x6 false)) else (some x3)
def bodkinref03_List.j1 : Nat → List (S60) → List (S87) → Int → Int → Bool → Option ((List (S60)))
 | 0,_,_,_,_,_ => none
 | k + 1,x3,x4,x5,x6,x30 => if x30 = true then (if 0 ≤ (wrap64 ((x3.length : Int) - 1)) then (if (wrap64 ((x3.length : Int) - 1)) < (x3.length : Int) then (if 0 ≤ x6 then (if x6 < (x4.length : Int) then (if ((rd_T87 x4 x6).f0) = 10 then (bodkinref03_List.l0 k (x3.set ((wrap64 ((x3.length : Int) - 1)) : Int).toNat (⟨(rd_T60 x3 (wrap64 ((x3.length : Int) - 1))).f0,wrap64 (x5 + ((rd_T87 x4 x6).f1)),1,0⟩ : S60)) x4 (wrap64 (x5 + ((rd_T87 x4 x6).f1))) (wrap64 (x6 + 1))) else (bodkinref03_List.l0 k (x3.set ((wrap64 ((x3.length : Int) - 1)) : Int).toNat (⟨(rd_T60 x3 (wrap64 ((x3.length : Int) - 1))).f0,wrap64 (x5 + ((rd_T87 x4 x6).f1)),(rd_T60 x3 (wrap64 ((x3.length : Int) - 1))).f2,(rd_T60 x3 (wrap64 ((x3.length : Int) - 1))).f3⟩ : S60)) x4 (wrap64 (x5 + ((rd_T87 x4 x6).f1))) (wrap64 (x6 + 1)))) else (none)) else (none)) else (none)) else (none)) else (if 0 ≤ x6 then (if x6 < (x4.length : Int) then ((bodkinref02_Class.f k ((rd_T87 x4 x6).f0)).bind fun t492 => ((bodkinref02_Cells.f k ((rd_T87 x4 x6).f0)).bind fun t493 => (if x3.length < 4398046511104 then (bodkinref03_List.l0 k (x3 ++ [(⟨x5,wrap64 (x5 + ((rd_T87 x4 x6).f1)),t492,t493⟩ : S60)]) x4 (wrap64 (x5 + ((rd_T87 x4 x6).f1))) (wrap64 (x6 + 1))) else (none)))) else (none)) else (none))
end
def bodkinref03_List.f (k : Nat) (a0 : ByteArray) : Option ((List (S60))) := (bodkinref01_Units.f k a0).bind fun t476 => (bodkinref03_List.l0 k ([] : List (S60)) t476 0 0)
def bodkinref03_List.T7 : Bool × List (List Nat × List Nat) := (true,[([],[]),([0],[0]),([1],[1]),([2],[2]),([2],[2]),([4,2],[2,4]),([3,5,2],[2,3,5]),([6,2],[2,6]),([2],[2]),([2],[2]),([8,9,2],[2,8,9]),([10,2],[2,10]),([7,11,2,2],[2,7,11]),([2,12],[2,12])])
def bodkinref03_List.B7 : List Nat := [0,1,3,7,7,23,63,127,7,7,775,1799,4095,8191]
theorem bodkinref03_List.tab7 : rtab .any (opsOf Tryd.f32 7) = bodkinref03_List.T7 := by kernel_rfl
theorem bodkinref03_List.bits7 : waitsOk bodkinref03_List.T7.2 bodkinref03_List.B7 = true := by kernel_rfl
def bodkinref03_List.T15 : Bool × List (List Nat × List Nat) := (true,[([],[]),([],[]),([],[]),([],[]),([],[]),([3,4],[3,4]),([5],[5]),([6],[6]),([2,7],[2,7]),([],[]),([9],[9]),([],[]),([11,10],[11]),([1,8,10,12],[1,8,10,12]),([13],[13]),([0,14,12],[0,14]),([15,15,0,1,2,3,4,5,6,7,8,9,10,11,12,13,14,15],[0,15])])
def bodkinref03_List.B15 : List Nat := [0,0,0,0,0,24,56,120,252,0,512,0,3584,8190,16382,32767,65535]
theorem bodkinref03_List.tab15 : rtab .any (opsOf Tryd.f32 15) = bodkinref03_List.T15 := by kernel_rfl
theorem bodkinref03_List.bits15 : waitsOk bodkinref03_List.T15.2 bodkinref03_List.B15 = true := by kernel_rfl
set_option maxHeartbeats 8000000 in
set_option maxRecDepth 100000 in
theorem bodkinref03_List.calls (k : Nat) (a0 : ByteArray) (r : List (S60)) (w : World) (h : bodkinref03_List.f k a0 = some r) :
  Calls Tryd.prog 32 #[.string a0] w fun e w' => ∃ v0_ : Value,e = .returned (v0_) ∧ Kd.R k60 60 w' w.heap.size (fun _ => True) v0_ r ∧ Below w.heap.size w w' := by
 have hu87 := Tryd.underlying87
 have hu60 := Tryd.underlying60
 have HB := Aside0.mk (Below.refl w.heap.size w)
 have H : ((bodkinref01_Units.f k a0).bind fun t476 => (bodkinref03_List.l0 k ([] : List (S60)) t476 0 0)) = some r := h
 clear h
 replace H := Option.bind_eq_some_iff.mp H
 obtain ⟨t476,A20,H⟩ := H
 replace H : (bodkinref03_List.l0 k ([] : List (S60)) t476 0 0) = some r := H
 have A2 := Aside0.mk A20
 clear A20
 have H' := Aside0.mk H
 clear H
 go_enter Tryd.func32,Tryd.ntmps32
 go_wp2_with (first | ((with_reducible refine gate_callee (f := 46) rfl ?_);refine goesL_ (some 10) rfl rfl Tryd.func46 (by kernel_rfl) rfl #[.string a0] rfl au1 ?_;(with_reducible refine (bodkinref01_Units.calls k a0 t476 _ A2.out).mono ?_);rintro e w3 ⟨v477,rfl,ho0,hb⟩;refine ⟨_,rfl,?_⟩;have n0_ := Aside0.mk (Kd.R_lower ho0 (below_size au0));have n1_ := Aside0.mk (below_step au0 hb);clear HB;have HO478 := n0_;have HB := n1_;clear n0_ n1_;(try clear hb);(try clear hb2);(try clear hk);(try clear hi);(try clear ho0)))
 go_loopg [3,5,6] k (fun kq v3 v5 v6 w' => ∃ (x3_1 : List (S60)) (x5_1 : Int) (x6_1 : Int),v5 = .int .i64 x5_1 ∧ v6 = .int .i64 x6_1 ∧ Aside0 (bodkinref03_List.l0 kq x3_1 t476 x5_1 x6_1 = some r) ∧ Aside0 (kq ≤ k) ∧ Aside0 (Kd.R k60 60 w' w.heap.size (fun _ => True) v3 x3_1) ∧ Aside0 (Kd.R k87 87 w' w.heap.size (fun _ => True) v477 t476) ∧ Aside0 (Below w.heap.size w w'))
 case atStart => exact ⟨(([] : List (S60))),(0),(0),au4,au4,H',⟨Nat.le_refl _⟩,⟨by first | exact Kd.R_nil _ _ _ _ _ | exact Kd.N_nil _ _ _ _ _ | exact Kd.V_nil _ _ _ _ _ | exact Kd.Q_nil _ _ _ _ _ | exact Kd.S_nil _ _ _ _ _⟩,⟨by (with_reducible repeat (first | apply Kd.R_alloc | apply Kd.R_drewN | apply Kd.R_drew));exact HO478.out⟩,⟨au0⟩⟩
 case round =>
  clear H'
  try clear p2
  try clear c3
  obtain ⟨x3_1,x5_1,x6_1,rfl,rfl,HA,HK1,HO_3,HO_4,HB⟩ := hrel
  cases gk with
  | zero => exact absurd HA.out (by simp [bodkinref03_List.l0])
  | succ k1 =>
   have H := HA.out
   clear HA
   simp only [bodkinref03_List.l0] at H
   by_cases c4 : x6_1 < (t476.length : Int)
   ·rw [if_pos c4] at H
    have c4b0 : decide (x6_1 < (t476.length : Int)) = true := decide_eq_true c4
    clear c4
    have HC5 := Aside0.mk H
    clear H
    obtain ⟨Ao6,co6,eo6⟩ := Kd.R_slice HO_4.out
    subst eo6
    go_upto_region 7 with (fail)
    go_cut [30] (fun v30 wc => ∃ (kq : Nat) (x30_4 : Bool),v30 = .bool x30_4 ∧ Aside0 (bodkinref03_List.j1 kq x3_1 t476 x5_1 x6_1 x30_4 = some r) ∧ Aside0 (kq ≤ k1) ∧ Aside0 (Kd.R k60 60 wc w.heap.size (fun _ => True) u3 x3_1) ∧ Aside0 (Kd.R k87 87 wc w.heap.size (fun _ => True) (.slice Ao6 t476.length co6) t476) ∧ Aside0 (Below w.heap.size w wc))
    case first =>
     have H := HC5.out
     clear HC5
     by_cases c7 : x6_1 > 0
     ·rw [if_pos c7] at H
      have c7b0 : decide (0 < x6_1) = true := decide_eq_true c7
      clear c7
      (first | rw [c7b0] | (simp only [i64_w,i32_w];rw [c7b0]) | skip)
      obtain ⟨ji8,hji8⟩ : ∃ j_ : Int,(wrap64 (x6_1 - 1)) = j_ := ⟨_,rfl⟩
      replace H : (if 0 ≤ (ji8) then (if (ji8) < (t476.length : Int) then (if 0 ≤ x6_1 then ((bodkinref03_joined.f k1 ((rd_T87 t476 (ji8)).f0) ((rd_T87 t476 (ji8)).f1) ((rd_T87 t476 x6_1).f0) ((rd_T87 t476 x6_1).f1)).bind fun t481 => (bodkinref03_List.j1 k1 x3_1 t476 x5_1 x6_1 t481)) else (none)) else (none)) else (none)) = some r := by first | (rw [hji8] at H;exact H) | (simp only [hji8] at H ⊢;exact H)
      have hji8w : (IntKind.i64.wrap (x6_1 - 1)) = ji8 := (i64_w _).trans hji8
      by_cases c9 : 0 ≤ (ji8)
      ·rw [if_pos c9] at H
       have c9b0 : decide (0 ≤ (ji8)) = true := decide_eq_true c9
       clear c9
       by_cases c10 : (ji8) < (t476.length : Int)
       ·rw [if_pos c10] at H
        have c10b0 : decide ((ji8) < (t476.length : Int)) = true := decide_eq_true c10
        clear c10
        by_cases c11 : 0 ≤ x6_1
        ·rw [if_pos c11] at H
         have c11b0 : decide (0 ≤ x6_1) = true := decide_eq_true c11
         clear c11
         replace H := Option.bind_eq_some_iff.mp H
         obtain ⟨t481,A120,H⟩ := H
         replace H : (bodkinref03_List.j1 k1 x3_1 t476 x5_1 x6_1 t481) = some r := H
         have A12 := Aside0.mk A120
         clear A120
         have H' := Aside0.mk H
         clear H
         try go_wp2
         have n0_ := Aside0.mk (Kd.R_drew HO_3.out)
         have n1_ := Aside0.mk (Kd.R_drew HO_4.out)
         have n2_ := Aside0.mk (below_drew1 HB.out)
         clear HO_3
         clear HO_4
         clear HB
         have HO_3 := n0_
         have HO_4 := n1_
         have HB := n2_
         clear n0_ n1_ n2_
         have p479 : 0 ≤ ((ji8) : Int) := of_decide_eq_true au3
         have q479 : (ji8) < (t476.length : Int) := of_decide_eq_true au3
         obtain ⟨ad479,e479,hx479_0,hx479_1⟩ := at_T87 (Kd.R_reads' HO_4.out).2.2 (ji8) p479 q479
         cases e479
         replace p479 := eq_true p479
         replace q479 := eq_true q479
         have p480 : 0 ≤ (x6_1 : Int) := of_decide_eq_true au3
         have q480 : x6_1 < (t476.length : Int) := of_decide_eq_true au3
         obtain ⟨ad480,e480,hx480_0,hx480_1⟩ := at_T87 (Kd.R_reads' HO_4.out).2.2 x6_1 p480 q480
         obtain rfl : ad479 = ad480 := (by injection e480)
         replace p480 := eq_true p480
         replace q480 := eq_true q480
         refine start_ (n := 14) (S := fun w' => w'.cell? (ad479.add (((ji8)).toNat * 2)) = some (.int .i32 ((rd_T87 t476 (ji8)).f0)) ∧ w'.cell? ⟨(ad479.add (((ji8)).toNat * 2)).block,(ad479.add (((ji8)).toNat * 2)).off + 1,none⟩ = some (.int .i64 ((rd_T87 t476 (ji8)).f1)) ∧ w'.cell? (ad479.add ((x6_1).toNat * 2)) = some (.int .i32 ((rd_T87 t476 x6_1).f0)) ∧ w'.cell? ⟨(ad479.add ((x6_1).toNat * 2)).block,(ad479.add ((x6_1).toNat * 2)).off + 1,none⟩ = some (.int .i64 ((rd_T87 t476 x6_1).f1))) (ds := []) #[false,false,false,false,false,false,false,false,false,false,false,false,false,false] (by kernel_rfl) rfl rfl ⟨hx479_0,hx479_1,hx480_0,hx480_1⟩ (fun hHeld => ?_);refine with_tabW bodkinref03_List.tab7 bodkinref03_List.bits7 (fun HT_ HW_ => ?_)
         generalize wr.drew = w13 at HO_3 HO_4 HB hx479_0 hx479_1 hx480_0 hx480_1 hHeld ⊢
         refine pure_ (i := 0) (N := some 17) (v := ?_) (a' := ?_) #[true,false,false,false,false,false,false,false,false,false,false,false,false,false] rfl rfl (any_of HT_.out (by kernel_rfl)) (fun _ _ _ h => h) (Or.inl ⟨by rfl,?_⟩) ?_ ?_
         rotate_left
         ·intro w'
          go_simp
          with_reducible rfl
         rotate_left
         ·simp only [Act.put,List.setIfInBounds_toArray,List.set_cons_zero,List.set_cons_succ,i64_w,i32_w]
          rfl
         refine pure_ (i := 1) (N := some 18) (v := ?_) (a' := ?_) #[true,true,false,false,false,false,false,false,false,false,false,false,false,false] rfl rfl (any_of HT_.out (by kernel_rfl)) (fun _ _ _ h => h) (Or.inl ⟨by rfl,?_⟩) ?_ ?_
         rotate_left
         ·intro w'
          go_simp
          with_reducible rfl
         rotate_left
         ·simp only [Act.put,List.setIfInBounds_toArray,List.set_cons_zero,List.set_cons_succ,i64_w,i32_w]
          rfl
         refine pure_ (i := 2) (N := some 19) (v := ?_) (a' := ?_) #[true,true,true,false,false,false,false,false,false,false,false,false,false,false] rfl rfl (any_of HT_.out (by kernel_rfl)) (fun _ _ _ h => h) (Or.inl ⟨by rfl,?_⟩) ?_ ?_
         rotate_left
         ·intro w'
          go_simp
          with_reducible rfl
         rotate_left
         ·simp only [Act.put,List.setIfInBounds_toArray,List.set_cons_zero,List.set_cons_succ,i64_w,i32_w]
          rfl
         refine pure_ (i := 3) (N := some 20) (v := ?_) (a' := ?_) #[true,true,true,true,false,false,false,false,false,false,false,false,false,false] rfl rfl (any_of HT_.out (by kernel_rfl)) (fun _ _ _ h => h) (Or.inl ⟨by rfl,?_⟩) ?_ ?_
         rotate_left
         ·intro w'
          go_simp
          with_reducible rfl
         rotate_left
         ·simp only [Act.put,List.setIfInBounds_toArray,List.set_cons_zero,List.set_cons_succ,i64_w,i32_w]
          rfl
         refine pure_ (i := 4) (N := some 21) (v := ?_) (a' := ?_) #[true,true,true,true,true,false,false,false,false,false,false,false,false,false] rfl rfl (any_of HT_.out (by kernel_rfl)) (fun _ _ _ h => h) (Or.inl ⟨by rfl,?_⟩) ?_ ?_
         rotate_left
         ·intro w'
          go_simp
          with_reducible rfl
         rotate_left
         ·simp only [Act.put,List.setIfInBounds_toArray,List.set_cons_zero,List.set_cons_succ,i64_w,i32_w]
          rfl
         refine pure_ (i := 5) (N := some 22) (v := ?_) (a' := ?_) #[true,true,true,true,true,true,false,false,false,false,false,false,false,false] rfl rfl (any_of HT_.out (by kernel_rfl)) (fun _ _ _ h => h) (Or.inl ⟨by rfl,?_⟩) ?_ ?_
         rotate_left
         ·intro w'
          go_simp
          with_reducible rfl
         rotate_left
         ·simp only [Act.put,List.setIfInBounds_toArray,List.set_cons_zero,List.set_cons_succ,i64_w,i32_w]
          rfl
         refine pure_ (i := 6) (N := some 23) (v := ?_) (a' := ?_) #[true,true,true,true,true,true,true,false,false,false,false,false,false,false] rfl rfl (any_of HT_.out (by kernel_rfl)) (fun _ _ _ h => h) (Or.inl ⟨by rfl,?_⟩) ?_ ?_
         rotate_left
         ·intro w'
          go_simp
          with_reducible rfl
         rotate_left
         ·simp only [Act.put,List.setIfInBounds_toArray,List.set_cons_zero,List.set_cons_succ,i64_w,i32_w]
          rfl
         refine pure_ (i := 8) (N := some 25) (v := ?_) (a' := ?_) #[true,true,true,true,true,true,true,false,true,false,false,false,false,false] rfl rfl (any_of HT_.out (by kernel_rfl)) (fun _ _ _ h => h) (Or.inl ⟨by rfl,?_⟩) ?_ ?_
         rotate_left
         ·intro w'
          go_simp
          with_reducible rfl
         rotate_left
         ·simp only [Act.put,List.setIfInBounds_toArray,List.set_cons_zero,List.set_cons_succ,i64_w,i32_w]
          rfl
         refine pure_ (i := 9) (N := some 26) (v := ?_) (a' := ?_) #[true,true,true,true,true,true,true,false,true,true,false,false,false,false] rfl rfl (any_of HT_.out (by kernel_rfl)) (fun _ _ _ h => h) (Or.inl ⟨by rfl,?_⟩) ?_ ?_
         rotate_left
         ·intro w'
          go_simp
          with_reducible rfl
         rotate_left
         ·simp only [Act.put,List.setIfInBounds_toArray,List.set_cons_zero,List.set_cons_succ,i64_w,i32_w]
          rfl
         refine pure_ (i := 10) (N := some 27) (v := ?_) (a' := ?_) #[true,true,true,true,true,true,true,false,true,true,true,false,false,false] rfl rfl (any_of HT_.out (by kernel_rfl)) (fun _ _ _ h => h) (Or.inl ⟨by rfl,?_⟩) ?_ ?_
         rotate_left
         ·intro w'
          go_simp
          with_reducible rfl
         rotate_left
         ·simp only [Act.put,List.setIfInBounds_toArray,List.set_cons_zero,List.set_cons_succ,i64_w,i32_w]
          rfl
         refine take_ (i := 7) (N := some 24) (v := ?_) (a' := ?_) #[true,true,true,true,true,true,true,true,true,true,true,false,false,false] rfl rfl (take_ofW HT_.out HW_.out (by kernel_rfl)) (fun _ _ _ h => h) (Or.inl ⟨by rfl,?_⟩) hHeld ?_ ?_
         rotate_left
         ·rintro w' ⟨s0,s1,s2,s3⟩
          go_simp
          with_reducible rfl
         rotate_left
         ·simp only [Act.put,List.setIfInBounds_toArray,List.set_cons_zero,List.set_cons_succ,i64_w,i32_w]
          rfl
         refine take_ (i := 11) (N := some 28) (v := ?_) (a' := ?_) #[true,true,true,true,true,true,true,true,true,true,true,true,false,false] rfl rfl (take_ofW HT_.out HW_.out (by kernel_rfl)) (fun _ _ _ h => h) (Or.inl ⟨by rfl,?_⟩) hHeld ?_ ?_
         rotate_left
         ·rintro w' ⟨s0,s1,s2,s3⟩
          go_simp
          with_reducible rfl
         rotate_left
         ·simp only [Act.put,List.setIfInBounds_toArray,List.set_cons_zero,List.set_cons_succ,i64_w,i32_w]
          rfl
         refine one_ (i := 12) (N := some 29) #[true,true,true,true,true,true,true,true,true,true,true,true,true,false] rfl rfl (one_of HT_.out (by kernel_rfl)) (by decide) (fun K hK => ?_)
         refine goes_ Tryd.func47 (by kernel_rfl) rfl #[.agg #[.int .i32 ((rd_T87 t476 (ji8)).f0),.int .i64 ((rd_T87 t476 (ji8)).f1)],.agg #[.int .i32 ((rd_T87 t476 x6_1).f0),.int .i64 ((rd_T87 t476 x6_1).f1)]] (by rfl) rfl rfl (by (try simp only [List.map_toArray,List.map_cons,List.map_nil]);first | done | (simp only [hji8];rfl) | rfl | (simp only [List.length_drop,List.length_take];rfl)) ?_
         with_reducible refine (bodkinref03_joined.calls k1 ((rd_T87 t476 (ji8)).f0) ((rd_T87 t476 (ji8)).f1) ((rd_T87 t476 x6_1).f0) ((rd_T87 t476 x6_1).f1) t481 _ A12.out).mono ?_
         rintro e w14 ⟨rfl,hb⟩
         have HS0_ := (hb.cell (World.block_lt_of_cell? _ _ (hHeld.1))).trans (hHeld.1)
         have HS1_ := (hb.cell (World.block_lt_of_cell? _ _ (hHeld.2.1))).trans (hHeld.2.1)
         have HS2_ := (hb.cell (World.block_lt_of_cell? _ _ (hHeld.2.2.1))).trans (hHeld.2.2.1)
         have HS3_ := (hb.cell (World.block_lt_of_cell? _ _ (hHeld.2.2.2))).trans (hHeld.2.2.2)
         refine ⟨_,rfl,?_⟩
         have n0_ := Aside0.mk (Kd.R_below au8 hb)
         have n1_ := Aside0.mk (Kd.R_below au16 hb)
         have n2_ := Aside0.mk (below_step au0 hb)
         clear HO_3
         clear HO_4
         clear HB
         have HO_3 := n0_
         have HO_4 := n1_
         have HB := n2_
         clear n0_ n1_ n2_
         (try clear hb)
         (try clear hb2)
         (try clear hk)
         (try clear hi)
         refine hK.out _ _ ⟨HS0_,HS1_,HS2_,HS3_⟩ (fun hHeld => ?_)
         clear hK K
         refine norm_ (a' := ?_) ?_ ?_
         rotate_left
         ·show Act.put _ (some 29) _ = _
          simp only [Act.put,List.setIfInBounds_toArray,List.set_cons_zero,List.set_cons_succ,i64_w,i32_w]
          rfl
         refine pure_ (i := 13) (N := some 30) (v := ?_) (a' := ?_) #[true,true,true,true,true,true,true,true,true,true,true,true,true,true] rfl rfl (any_of HT_.out (by kernel_rfl)) (fun _ _ _ h => h) (Or.inl ⟨by rfl,?_⟩) ?_ ?_
         rotate_left
         ·intro w'
          go_simp
          with_reducible rfl
         rotate_left
         ·simp only [Act.put,List.setIfInBounds_toArray,List.set_cons_zero,List.set_cons_succ,i64_w,i32_w]
          rfl
         refine done_ (done_of HT_.out (by kernel_rfl)) ?_
         try go_wp2
         go_meet
         case rel => exact ⟨_,(t481),au4,H',⟨by have := HK1.out;first | omega | exact Nat.le_refl _⟩,⟨by (with_reducible repeat (first | apply Kd.R_alloc | apply Kd.R_drewN | apply Kd.R_drew));exact HO_3.out⟩,⟨by (with_reducible repeat (first | apply Kd.R_alloc | apply Kd.R_drewN | apply Kd.R_drew));exact HO_4.out⟩,⟨au0⟩⟩
        ·rw [if_neg c11] at H
         exact absurd H (by simp)
       ·rw [if_neg c10] at H
        exact absurd H (by simp)
      ·rw [if_neg c9] at H
       exact absurd H (by simp)
     ·rw [if_neg c7] at H
      have c7b0 : decide (0 < x6_1) = false := decide_eq_false c7
      clear c7
      (first | rw [c7b0] | (simp only [i64_w,i32_w];rw [c7b0]) | skip)
      have H' := Aside0.mk H
      clear H
      try go_wp2
      have n0_ := Aside0.mk (Kd.R_drew HO_3.out)
      have n1_ := Aside0.mk (Kd.R_drew HO_4.out)
      have n2_ := Aside0.mk (below_drew1 HB.out)
      clear HO_3
      clear HO_4
      clear HB
      have HO_3 := n0_
      have HO_4 := n1_
      have HB := n2_
      clear n0_ n1_ n2_
      refine start_ (n := 14) (S := fun w' => True) (ds := []) #[false,false,false,false,false,false,false,false,false,false,false,false,false,false] (by kernel_rfl) rfl rfl trivial (fun hHeld => ?_);refine with_tabW bodkinref03_List.tab7 bodkinref03_List.bits7 (fun HT_ HW_ => ?_)
      generalize wr.drew = w15 at HO_3 HO_4 HB hHeld ⊢
      refine pure_ (i := 0) (N := some 17) (v := ?_) (a' := ?_) #[true,false,false,false,false,false,false,false,false,false,false,false,false,false] rfl rfl (any_of HT_.out (by kernel_rfl)) (fun _ _ _ h => h) (Or.inl ⟨by rfl,?_⟩) ?_ ?_
      rotate_left
      ·intro w'
       go_simp
       with_reducible rfl
      rotate_left
      ·simp only [Act.put,List.setIfInBounds_toArray,List.set_cons_zero,List.set_cons_succ,i64_w,i32_w]
       rfl
      refine pure_ (i := 1) (N := some 18) (v := ?_) (a' := ?_) #[true,true,false,false,false,false,false,false,false,false,false,false,false,false] rfl rfl (any_of HT_.out (by kernel_rfl)) (fun _ _ _ h => h) (Or.inl ⟨by rfl,?_⟩) ?_ ?_
      rotate_left
      ·intro w'
       go_simp
       with_reducible rfl
      rotate_left
      ·simp only [Act.put,List.setIfInBounds_toArray,List.set_cons_zero,List.set_cons_succ,i64_w,i32_w]
       rfl
      refine pure_ (i := 2) (N := some 19) (v := ?_) (a' := ?_) #[true,true,true,false,false,false,false,false,false,false,false,false,false,false] rfl rfl (any_of HT_.out (by kernel_rfl)) (fun _ _ _ h => h) (Or.inl ⟨by rfl,?_⟩) ?_ ?_
      rotate_left
      ·intro w'
       go_simp
       with_reducible rfl
      rotate_left
      ·simp only [Act.put,List.setIfInBounds_toArray,List.set_cons_zero,List.set_cons_succ,i64_w,i32_w]
       rfl
      refine pure_ (i := 3) (N := some 20) (v := undef) (a' := ?_) #[true,true,true,true,false,false,false,false,false,false,false,false,false,false] rfl rfl (any_of HT_.out (by kernel_rfl)) (fun _ _ _ h => h) (Or.inr ⟨by rfl,rfl⟩) ?_ ?_
      rotate_left
      ·simp only [Act.put,List.setIfInBounds_toArray,List.set_cons_zero,List.set_cons_succ,i64_w,i32_w]
       rfl
      refine pure_ (i := 4) (N := some 21) (v := undef) (a' := ?_) #[true,true,true,true,true,false,false,false,false,false,false,false,false,false] rfl rfl (any_of HT_.out (by kernel_rfl)) (fun _ _ _ h => h) (Or.inr ⟨by rfl,rfl⟩) ?_ ?_
      rotate_left
      ·simp only [Act.put,List.setIfInBounds_toArray,List.set_cons_zero,List.set_cons_succ,i64_w,i32_w]
       rfl
      refine pure_ (i := 5) (N := some 22) (v := undef) (a' := ?_) #[true,true,true,true,true,true,false,false,false,false,false,false,false,false] rfl rfl (any_of HT_.out (by kernel_rfl)) (fun _ _ _ h => h) (Or.inr ⟨by rfl,rfl⟩) ?_ ?_
      rotate_left
      ·simp only [Act.put,List.setIfInBounds_toArray,List.set_cons_zero,List.set_cons_succ,i64_w,i32_w]
       rfl
      refine pure_ (i := 6) (N := some 23) (v := undef) (a' := ?_) #[true,true,true,true,true,true,true,false,false,false,false,false,false,false] rfl rfl (any_of HT_.out (by kernel_rfl)) (fun _ _ _ h => h) (Or.inr ⟨by rfl,rfl⟩) ?_ ?_
      rotate_left
      ·simp only [Act.put,List.setIfInBounds_toArray,List.set_cons_zero,List.set_cons_succ,i64_w,i32_w]
       rfl
      refine pure_ (i := 7) (N := some 24) (v := undef) (a' := ?_) #[true,true,true,true,true,true,true,true,false,false,false,false,false,false] rfl rfl (any_of HT_.out (by kernel_rfl)) (fun _ _ _ h => h) (Or.inr ⟨by rfl,rfl⟩) ?_ ?_
      rotate_left
      ·simp only [Act.put,List.setIfInBounds_toArray,List.set_cons_zero,List.set_cons_succ,i64_w,i32_w]
       rfl
      refine pure_ (i := 8) (N := some 25) (v := undef) (a' := ?_) #[true,true,true,true,true,true,true,true,true,false,false,false,false,false] rfl rfl (any_of HT_.out (by kernel_rfl)) (fun _ _ _ h => h) (Or.inr ⟨by rfl,rfl⟩) ?_ ?_
      rotate_left
      ·simp only [Act.put,List.setIfInBounds_toArray,List.set_cons_zero,List.set_cons_succ,i64_w,i32_w]
       rfl
      refine pure_ (i := 9) (N := some 26) (v := undef) (a' := ?_) #[true,true,true,true,true,true,true,true,true,true,false,false,false,false] rfl rfl (any_of HT_.out (by kernel_rfl)) (fun _ _ _ h => h) (Or.inr ⟨by rfl,rfl⟩) ?_ ?_
      rotate_left
      ·simp only [Act.put,List.setIfInBounds_toArray,List.set_cons_zero,List.set_cons_succ,i64_w,i32_w]
       rfl
      refine pure_ (i := 10) (N := some 27) (v := undef) (a' := ?_) #[true,true,true,true,true,true,true,true,true,true,true,false,false,false] rfl rfl (any_of HT_.out (by kernel_rfl)) (fun _ _ _ h => h) (Or.inr ⟨by rfl,rfl⟩) ?_ ?_
      rotate_left
      ·simp only [Act.put,List.setIfInBounds_toArray,List.set_cons_zero,List.set_cons_succ,i64_w,i32_w]
       rfl
      refine pure_ (i := 11) (N := some 28) (v := undef) (a' := ?_) #[true,true,true,true,true,true,true,true,true,true,true,true,false,false] rfl rfl (any_of HT_.out (by kernel_rfl)) (fun _ _ _ h => h) (Or.inr ⟨by rfl,rfl⟩) ?_ ?_
      rotate_left
      ·simp only [Act.put,List.setIfInBounds_toArray,List.set_cons_zero,List.set_cons_succ,i64_w,i32_w]
       rfl
      refine pure_ (i := 12) (N := some 29) (v := undef) (a' := ?_) #[true,true,true,true,true,true,true,true,true,true,true,true,true,false] rfl rfl (any_of HT_.out (by kernel_rfl)) (fun _ _ _ h => h) (Or.inr ⟨by rfl,rfl⟩) ?_ ?_
      rotate_left
      ·simp only [Act.put,List.setIfInBounds_toArray,List.set_cons_zero,List.set_cons_succ,i64_w,i32_w]
       rfl
      refine pure_ (i := 13) (N := some 30) (v := ?_) (a' := ?_) #[true,true,true,true,true,true,true,true,true,true,true,true,true,true] rfl rfl (any_of HT_.out (by kernel_rfl)) (fun _ _ _ h => h) (Or.inl ⟨by rfl,?_⟩) ?_ ?_
      rotate_left
      ·intro w'
       go_simp
       with_reducible rfl
      rotate_left
      ·simp only [Act.put,List.setIfInBounds_toArray,List.set_cons_zero,List.set_cons_succ,i64_w,i32_w]
       rfl
      refine done_ (done_of HT_.out (by kernel_rfl)) ?_
      try go_wp2
      go_meet
      case rel => exact ⟨_,(false),au4,H',⟨by have := HK1.out;first | omega | exact Nat.le_refl _⟩,⟨by (with_reducible repeat (first | apply Kd.R_alloc | apply Kd.R_drewN | apply Kd.R_drew));exact HO_3.out⟩,⟨by (with_reducible repeat (first | apply Kd.R_alloc | apply Kd.R_drewN | apply Kd.R_drew));exact HO_4.out⟩,⟨au0⟩⟩
    case rest =>
     clear HC5
     try clear c1
     try clear p2
     try clear c3
     try clear c4
     try clear c4b0
     try clear p4
     try clear q4
     try clear hx4
     try clear p6
     try clear c7
     try clear c7b0
     try clear c9
     try clear c9b0
     try clear c10
     try clear c10b0
     try clear c11
     try clear c11b0
     try clear hx479_0
     try clear hx479_1
     try clear hx480_0
     try clear hx480_1
     try clear p2
     try clear p479
     try clear p480
     try clear q479
     try clear q480
     obtain ⟨kq,x30_4,rfl,HA,HJ4,HO_3,HO_4,HB⟩ := hcut
     cases kq with
     | zero => exact absurd HA.out (by simp [bodkinref03_List.j1])
     | succ kj4 =>
      have H := HA.out
      clear HA
      simp only [bodkinref03_List.j1] at H
      by_cases c16 : x30_4 = true
      ·subst c16
       have H1 : (if 0 ≤ (wrap64 ((x3_1.length : Int) - 1)) then (if (wrap64 ((x3_1.length : Int) - 1)) < (x3_1.length : Int) then (if 0 ≤ x6_1 then (if x6_1 < (t476.length : Int) then (if ((rd_T87 t476 x6_1).f0) = 10 then (bodkinref03_List.l0 kj4 (x3_1.set ((wrap64 ((x3_1.length : Int) - 1)) : Int).toNat (⟨(rd_T60 x3_1 (wrap64 ((x3_1.length : Int) - 1))).f0,wrap64 (x5_1 + ((rd_T87 t476 x6_1).f1)),1,0⟩ : S60)) t476 (wrap64 (x5_1 + ((rd_T87 t476 x6_1).f1))) (wrap64 (x6_1 + 1))) else (bodkinref03_List.l0 kj4 (x3_1.set ((wrap64 ((x3_1.length : Int) - 1)) : Int).toNat (⟨(rd_T60 x3_1 (wrap64 ((x3_1.length : Int) - 1))).f0,wrap64 (x5_1 + ((rd_T87 t476 x6_1).f1)),(rd_T60 x3_1 (wrap64 ((x3_1.length : Int) - 1))).f2,(rd_T60 x3_1 (wrap64 ((x3_1.length : Int) - 1))).f3⟩ : S60)) t476 (wrap64 (x5_1 + ((rd_T87 t476 x6_1).f1))) (wrap64 (x6_1 + 1)))) else (none)) else (none)) else (none)) else (none)) = some r := by rw [if_pos rfl] at H;exact H
       clear H
       have H := H1
       clear H1
       obtain ⟨ji17,hji17⟩ : ∃ j_ : Int,(wrap64 ((x3_1.length : Int) - 1)) = j_ := ⟨_,rfl⟩
       replace H : (if 0 ≤ (ji17) then (if (ji17) < (x3_1.length : Int) then (if 0 ≤ x6_1 then (if x6_1 < (t476.length : Int) then (if ((rd_T87 t476 x6_1).f0) = 10 then (bodkinref03_List.l0 kj4 (x3_1.set ((ji17) : Int).toNat (⟨(rd_T60 x3_1 (ji17)).f0,wrap64 (x5_1 + ((rd_T87 t476 x6_1).f1)),1,0⟩ : S60)) t476 (wrap64 (x5_1 + ((rd_T87 t476 x6_1).f1))) (wrap64 (x6_1 + 1))) else (bodkinref03_List.l0 kj4 (x3_1.set ((ji17) : Int).toNat (⟨(rd_T60 x3_1 (ji17)).f0,wrap64 (x5_1 + ((rd_T87 t476 x6_1).f1)),(rd_T60 x3_1 (ji17)).f2,(rd_T60 x3_1 (ji17)).f3⟩ : S60)) t476 (wrap64 (x5_1 + ((rd_T87 t476 x6_1).f1))) (wrap64 (x6_1 + 1)))) else (none)) else (none)) else (none)) else (none)) = some r := by first | (rw [hji17] at H;exact H) | (simp only [hji17] at H ⊢;exact H)
       have hji17w : (IntKind.i64.wrap ((x3_1.length : Int) - 1)) = ji17 := (i64_w _).trans hji17
       by_cases c18 : 0 ≤ (ji17)
       ·rw [if_pos c18] at H
        have c18b0 : decide (0 ≤ (ji17)) = true := decide_eq_true c18
        clear c18
        by_cases c19 : (ji17) < (x3_1.length : Int)
        ·rw [if_pos c19] at H
         have c19b0 : decide ((ji17) < (x3_1.length : Int)) = true := decide_eq_true c19
         clear c19
         by_cases c20 : 0 ≤ x6_1
         ·rw [if_pos c20] at H
          have c20b0 : decide (0 ≤ x6_1) = true := decide_eq_true c20
          clear c20
          by_cases c21 : x6_1 < (t476.length : Int)
          ·rw [if_pos c21] at H
           have c21b0 : decide (x6_1 < (t476.length : Int)) = true := decide_eq_true c21
           clear c21
           by_cases c22 : ((rd_T87 t476 x6_1).f0) = 10
           ·rw [if_pos c22] at H
            have c22b0 : (((rd_T87 t476 x6_1).f0) == 10) = true := beq_iff_eq.mpr c22
            have c22b1 : (((rd_T87 t476 x6_1).f0) != 10) = false := bne_eq_false_iff_eq.mpr c22
            clear c22
            obtain ⟨y486,hy486⟩ : ∃ y_ : List (S60),y_ = (x3_1.set ((ji17) : Int).toNat (⟨(rd_T60 x3_1 (ji17)).f0,wrap64 (x5_1 + ((rd_T87 t476 x6_1).f1)),1,0⟩ : S60)) := ⟨_,rfl⟩
            replace H : (bodkinref03_List.l0 kj4 y486 t476 (wrap64 (x5_1 + ((rd_T87 t476 x6_1).f1))) (wrap64 (x6_1 + 1))) = some r := by first | (rw [hy486];with_reducible exact H) | (have H2_ := (Option.bind_some _ _).symm.trans H;rw [hy486];with_reducible exact H2_) | (have H2_ := (Option.bind_some _ _).symm.trans H;with_reducible exact H2_) | with_reducible exact H | (rw [hy486];exact H) | exact H
            have Ny486 := Aside0.mk hy486
            clear hy486
            have H' := Aside0.mk H
            clear H
            obtain ⟨Ao24,co24,eo24⟩ := Kd.R_slice HO_3.out
            subst eo24
            have p482 : 0 ≤ ((ji17) : Int) := of_decide_eq_true au3
            have q482 : (ji17) < (x3_1.length : Int) := of_decide_eq_true au3
            obtain ⟨ad482,e482,hx482_0,hx482_1,hx482_2,hx482_3⟩ := at_T60 (Kd.R_reads' HO_3.out).2.2 (ji17) p482 q482
            cases e482
            replace p482 := eq_true p482
            replace q482 := eq_true q482
            go_wp2_with (first | ((with_reducible refine gate_dst (N := 7) rfl ?_);refine box_event ?hg (N := 7) ?hd (cs := #[.int .i64 0,.int .i64 0,.int .i64 0,.int .i64 0]) (t := 60) ?hr ?_;(case hd => rfl);(case hg => rfl);(case hr => first | (go_simp;done) | (go_simp;rfl));intro gb483 hg w25 hbox hb;have n0_ := Aside0.mk (Kd.R_below (Kd.R_elderB au8 gb483 (Nat.le_of_eq hg.symm)) hb);have n1_ := Aside0.mk (Kd.R_below au16 hb);have n2_ := Aside0.mk (below_step au0 hb);have n3_ := Aside0.mk (hbox);have n4_ := Aside0.mk ((by rw [hg];exact (below_size au0) : w.heap.size ≤ gb483));have n5_ := Aside0.mk ((by rw [hg];exact (below_size au0) : w.heap.size ≤ gb483));clear HO_3;clear HO_4;clear HB;have HO_3 := n0_;have HO_4 := n1_;have HB := n2_;have BK483 := n3_;have GW483 := n4_;have GE483 := n5_;clear n0_ n1_ n2_ n3_ n4_ n5_;clear hb hbox hg;have hcz26_0 : w25.cell? ⟨gb483,0,none⟩ = some (.int .i64 0) := (blk_cell BK483.out 0).trans rfl;have hcz26_1 : w25.cell? ⟨gb483,1,none⟩ = some (.int .i64 0) := (blk_cell BK483.out 1).trans rfl;have hcz26_2 : w25.cell? ⟨gb483,2,none⟩ = some (.int .i64 0) := (blk_cell BK483.out 2).trans rfl;have hcz26_3 : w25.cell? ⟨gb483,3,none⟩ = some (.int .i64 0) := (blk_cell BK483.out 3).trans rfl;have hfz26_0 := blk_frozen BK483.out 0;have hfz26_1 := blk_frozen BK483.out 1;have hfz26_2 := blk_frozen BK483.out 2;have hfz26_3 := blk_frozen BK483.out 3) | ((with_reducible refine gate_store (t := 60) (p := 7) rfl ?_);refine store_event (t := 60) (p := 7) (v := ?vo_w27) (w1 := ((((w25.setCell ⟨gb483,0,none⟩ (.int .i64 ((rd_T60 x3_1 (ji17)).f0))).setCell ⟨gb483,1,none⟩ (.int .i64 ((rd_T60 x3_1 (ji17)).f1))).setCell ⟨gb483,2,none⟩ (.int .i64 ((rd_T60 x3_1 (ji17)).f2))).setCell ⟨gb483,3,none⟩ (.int .i64 ((rd_T60 x3_1 (ji17)).f3)))) ?hg ?ho ?hn ?hr ?_;(case ho => rfl);(case hg => rfl);(case hn => rfl);(case hr => first | (go_simp;done) | (go_simp;rfl));intro w27 hw;have n0_ : Aside0 (Kd.R k60 60 w27 w.heap.size (fun k_ => k_ ≠ gb483) (.slice (some ad482) x3_1.length co24) x3_1) := ⟨au28⟩;have n1_ : Aside0 (Kd.R k87 87 w27 w.heap.size (fun _ => True) (.slice Ao6 t476.length co6) t476) := ⟨au32⟩;have n2_ : Aside0 (w27.heap[gb483]? = some (.cells #[.int .i64 ((rd_T60 x3_1 (ji17)).f0),.int .i64 ((rd_T60 x3_1 (ji17)).f1),.int .i64 ((rd_T60 x3_1 (ji17)).f2),.int .i64 ((rd_T60 x3_1 (ji17)).f3)] 60 (0,0))) := ⟨au11⟩;have n3_ : Aside0 (Below w.heap.size w w27) := ⟨au17⟩;clear hw;clear HO_3;clear HO_4;clear BK483;clear HB;have HO_3 := n0_;have HO_4 := n1_;have BK483 := n2_;have HB := n3_;clear n0_ n1_ n2_ n3_;have p484 : 0 ≤ (x6_1 : Int) := of_decide_eq_true au3;have q484 : x6_1 < (t476.length : Int) := of_decide_eq_true au3;obtain ⟨ad484,e484,hx484_0,hx484_1⟩ := at_T87 (Kd.R_reads' HO_4.out).2.2 x6_1 p484 q484;cases e484;replace p484 := eq_true p484;replace q484 := eq_true q484;have hcz28_0 : w27.cell? ⟨gb483,0,none⟩ = some (.int .i64 ((rd_T60 x3_1 (ji17)).f0)) := (blk_cell BK483.out 0).trans rfl;have hcz28_1 : w27.cell? ⟨gb483,1,none⟩ = some (.int .i64 ((rd_T60 x3_1 (ji17)).f1)) := (blk_cell BK483.out 1).trans rfl;have hcz28_2 : w27.cell? ⟨gb483,2,none⟩ = some (.int .i64 ((rd_T60 x3_1 (ji17)).f2)) := (blk_cell BK483.out 2).trans rfl;have hcz28_3 : w27.cell? ⟨gb483,3,none⟩ = some (.int .i64 ((rd_T60 x3_1 (ji17)).f3)) := (blk_cell BK483.out 3).trans rfl;have hfz28_0 := blk_frozen BK483.out 0;have hfz28_1 := blk_frozen BK483.out 1;have hfz28_2 := blk_frozen BK483.out 2;have hfz28_3 := blk_frozen BK483.out 3) | ((with_reducible refine gate_store (t := 3) (p := 44) rfl ?_);refine store_event (t := 3) (p := 44) (v := ?vo_w29) (w1 := (w27.setCell ⟨gb483,1,none⟩ (.int .i64 (wrap64 (x5_1 + ((rd_T87 t476 x6_1).f1)))))) ?hg ?ho ?hn ?hr ?_;(case ho => rfl);(case hg => rfl);(case hn => rfl);(case hr => first | (go_simp;done) | (go_simp;rfl));intro w29 hw;have n0_ : Aside0 (Kd.R k60 60 w29 w.heap.size (fun k_ => k_ ≠ gb483) (.slice (some ad482) x3_1.length co24) x3_1) := ⟨(by rw [hw];exact (by (with_reducible repeat (first | apply Kd.R_alloc | apply Kd.R_drewN | apply Kd.R_drew));exact Kd.R_mono (Kd.R_far (p := ⟨gb483,1,none⟩) (Kd.R_mono HO_3.out (fun k_ hk => (⟨hk,hk⟩ : _ ∧ k_ ≠ gb483))) (fun _ hk => hk.2) (.int .i64 (wrap64 (x5_1 + ((rd_T87 t476 x6_1).f1))))) (fun _ hk => hk.1)))⟩;have n1_ : Aside0 (Kd.R k87 87 w29 w.heap.size (fun _ => True) (.slice (some ad484) t476.length co6) t476) := ⟨(by rw [hw];exact (by (with_reducible repeat (first | apply Kd.R_alloc | apply Kd.R_drewN | apply Kd.R_drew));exact Kd.R_mono (Kd.R_far (p := ⟨gb483,1,none⟩) (Kd.R_types HO_4.out BK483.out (by decide)) (fun _ hk => hk.2) (.int .i64 (wrap64 (x5_1 + ((rd_T87 t476 x6_1).f1))))) (fun _ hk => trivial)))⟩;have n2_ : Aside0 (w29.heap[gb483]? = some (.cells #[.int .i64 ((rd_T60 x3_1 (ji17)).f0),.int .i64 (wrap64 (x5_1 + ((rd_T87 t476 x6_1).f1))),.int .i64 ((rd_T60 x3_1 (ji17)).f2),.int .i64 ((rd_T60 x3_1 (ji17)).f3)] 60 (0,0))) := ⟨au35⟩;have n3_ : Aside0 (Below w.heap.size w w29) := ⟨au17⟩;clear hw;clear HO_3;clear HO_4;clear BK483;clear HB;have HO_3 := n0_;have HO_4 := n1_;have BK483 := n2_;have HB := n3_;clear n0_ n1_ n2_ n3_;have p485 : 0 ≤ (x6_1 : Int) := of_decide_eq_true au3;have q485 : x6_1 < (t476.length : Int) := of_decide_eq_true au3;obtain ⟨ad485,e485,hx485_0,hx485_1⟩ := at_T87 (Kd.R_reads' HO_4.out).2.2 x6_1 p485 q485;obtain rfl : ad484 = ad485 := (by injection e485);replace p485 := eq_true p485;replace q485 := eq_true q485;have hcz30_0 : w29.cell? ⟨gb483,0,none⟩ = some (.int .i64 ((rd_T60 x3_1 (ji17)).f0)) := (blk_cell BK483.out 0).trans rfl;have hcz30_1 : w29.cell? ⟨gb483,1,none⟩ = some (.int .i64 (wrap64 (x5_1 + ((rd_T87 t476 x6_1).f1)))) := (blk_cell BK483.out 1).trans rfl;have hcz30_2 : w29.cell? ⟨gb483,2,none⟩ = some (.int .i64 ((rd_T60 x3_1 (ji17)).f2)) := (blk_cell BK483.out 2).trans rfl;have hcz30_3 : w29.cell? ⟨gb483,3,none⟩ = some (.int .i64 ((rd_T60 x3_1 (ji17)).f3)) := (blk_cell BK483.out 3).trans rfl;have hfz30_0 := blk_frozen BK483.out 0;have hfz30_1 := blk_frozen BK483.out 1;have hfz30_2 := blk_frozen BK483.out 2;have hfz30_3 := blk_frozen BK483.out 3) | ((with_reducible refine gate_store (t := 58) (p := 51) rfl ?_);refine store_event (t := 58) (p := 51) (v := ?vo_w31) (w1 := (w29.setCell ⟨gb483,2,none⟩ (.int .i64 1))) ?hg ?ho ?hn ?hr ?_;(case ho => rfl);(case hg => rfl);(case hn => rfl);(case hr => first | (go_simp;done) | (go_simp;rfl));intro w31 hw;have n0_ : Aside0 (Kd.R k60 60 w31 w.heap.size (fun k_ => k_ ≠ gb483) (.slice (some ad482) x3_1.length co24) x3_1) := ⟨(by rw [hw];exact (by (with_reducible repeat (first | apply Kd.R_alloc | apply Kd.R_drewN | apply Kd.R_drew));exact Kd.R_mono (Kd.R_far (p := ⟨gb483,2,none⟩) (Kd.R_mono HO_3.out (fun k_ hk => (⟨hk,hk⟩ : _ ∧ k_ ≠ gb483))) (fun _ hk => hk.2) (.int .i64 1)) (fun _ hk => hk.1)))⟩;have n1_ : Aside0 (Kd.R k87 87 w31 w.heap.size (fun _ => True) (.slice (some ad484) t476.length co6) t476) := ⟨(by rw [hw];exact (by (with_reducible repeat (first | apply Kd.R_alloc | apply Kd.R_drewN | apply Kd.R_drew));exact Kd.R_mono (Kd.R_far (p := ⟨gb483,2,none⟩) (Kd.R_types HO_4.out BK483.out (by decide)) (fun _ hk => hk.2) (.int .i64 1)) (fun _ hk => trivial)))⟩;have n2_ : Aside0 (w31.heap[gb483]? = some (.cells #[.int .i64 ((rd_T60 x3_1 (ji17)).f0),.int .i64 (wrap64 (x5_1 + ((rd_T87 t476 x6_1).f1))),.int .i64 1,.int .i64 ((rd_T60 x3_1 (ji17)).f3)] 60 (0,0))) := ⟨(by rw [hw];exact (by (with_reducible repeat (first | refine blk_drewN ?_ _ | refine blk_drew ?_ | refine blk_alloc ?_ _));refine blk_put (cs := #[.int .i64 ((rd_T60 x3_1 (ji17)).f0),.int .i64 (wrap64 (x5_1 + ((rd_T87 t476 x6_1).f1))),.int .i64 ((rd_T60 x3_1 (ji17)).f2),.int .i64 ((rd_T60 x3_1 (ji17)).f3)]) ?_ 2 _ rfl;(with_reducible repeat (first | refine blk_drewN ?_ _ | refine blk_drew ?_ | refine blk_alloc ?_ _));exact BK483.out))⟩;have n3_ : Aside0 (Below w.heap.size w w31) := ⟨au17⟩;clear hw;clear HO_3;clear HO_4;clear BK483;clear HB;have HO_3 := n0_;have HO_4 := n1_;have BK483 := n2_;have HB := n3_;clear n0_ n1_ n2_ n3_;have hcz32_0 : w31.cell? ⟨gb483,0,none⟩ = some (.int .i64 ((rd_T60 x3_1 (ji17)).f0)) := (blk_cell BK483.out 0).trans rfl;have hcz32_1 : w31.cell? ⟨gb483,1,none⟩ = some (.int .i64 (wrap64 (x5_1 + ((rd_T87 t476 x6_1).f1)))) := (blk_cell BK483.out 1).trans rfl;have hcz32_2 : w31.cell? ⟨gb483,2,none⟩ = some (.int .i64 1) := (blk_cell BK483.out 2).trans rfl;have hcz32_3 : w31.cell? ⟨gb483,3,none⟩ = some (.int .i64 ((rd_T60 x3_1 (ji17)).f3)) := (blk_cell BK483.out 3).trans rfl;have hfz32_0 := blk_frozen BK483.out 0;have hfz32_1 := blk_frozen BK483.out 1;have hfz32_2 := blk_frozen BK483.out 2;have hfz32_3 := blk_frozen BK483.out 3) | ((with_reducible refine gate_store (t := 3) (p := 52) rfl ?_);refine store_event (t := 3) (p := 52) (v := ?vo_w33) (w1 := (w31.setCell ⟨gb483,3,none⟩ (.int .i64 0))) ?hg ?ho ?hn ?hr ?_;(case ho => rfl);(case hg => rfl);(case hn => rfl);(case hr => first | (go_simp;done) | (go_simp;rfl));intro w33 hw;have n0_ : Aside0 (Kd.R k60 60 w33 w.heap.size (fun k_ => k_ ≠ gb483) (.slice (some ad482) x3_1.length co24) x3_1) := ⟨(by rw [hw];exact (by (with_reducible repeat (first | apply Kd.R_alloc | apply Kd.R_drewN | apply Kd.R_drew));exact Kd.R_mono (Kd.R_far (p := ⟨gb483,3,none⟩) (Kd.R_mono HO_3.out (fun k_ hk => (⟨hk,hk⟩ : _ ∧ k_ ≠ gb483))) (fun _ hk => hk.2) (.int .i64 0)) (fun _ hk => hk.1)))⟩;have n1_ : Aside0 (Kd.R k87 87 w33 w.heap.size (fun _ => True) (.slice (some ad484) t476.length co6) t476) := ⟨(by rw [hw];exact (by (with_reducible repeat (first | apply Kd.R_alloc | apply Kd.R_drewN | apply Kd.R_drew));exact Kd.R_mono (Kd.R_far (p := ⟨gb483,3,none⟩) (Kd.R_types HO_4.out BK483.out (by decide)) (fun _ hk => hk.2) (.int .i64 0)) (fun _ hk => trivial)))⟩;have n2_ : Aside0 (w33.heap[gb483]? = some (.cells #[.int .i64 ((rd_T60 x3_1 (ji17)).f0),.int .i64 (wrap64 (x5_1 + ((rd_T87 t476 x6_1).f1))),.int .i64 1,.int .i64 0] 60 (0,0))) := ⟨(by rw [hw];exact (by (with_reducible repeat (first | refine blk_drewN ?_ _ | refine blk_drew ?_ | refine blk_alloc ?_ _));refine blk_put (cs := #[.int .i64 ((rd_T60 x3_1 (ji17)).f0),.int .i64 (wrap64 (x5_1 + ((rd_T87 t476 x6_1).f1))),.int .i64 1,.int .i64 ((rd_T60 x3_1 (ji17)).f3)]) ?_ 3 _ rfl;(with_reducible repeat (first | refine blk_drewN ?_ _ | refine blk_drew ?_ | refine blk_alloc ?_ _));exact BK483.out))⟩;have n3_ : Aside0 (Below w.heap.size w w33) := ⟨au17⟩;clear hw;clear HO_3;clear HO_4;clear BK483;clear HB;have HO_3 := n0_;have HO_4 := n1_;have BK483 := n2_;have HB := n3_;clear n0_ n1_ n2_ n3_;have hcz34_0 : w33.cell? ⟨gb483,0,none⟩ = some (.int .i64 ((rd_T60 x3_1 (ji17)).f0)) := (blk_cell BK483.out 0).trans rfl;have hcz34_1 : w33.cell? ⟨gb483,1,none⟩ = some (.int .i64 (wrap64 (x5_1 + ((rd_T87 t476 x6_1).f1)))) := (blk_cell BK483.out 1).trans rfl;have hcz34_2 : w33.cell? ⟨gb483,2,none⟩ = some (.int .i64 1) := (blk_cell BK483.out 2).trans rfl;have hcz34_3 : w33.cell? ⟨gb483,3,none⟩ = some (.int .i64 0) := (blk_cell BK483.out 3).trans rfl;have hfz34_0 := blk_frozen BK483.out 0;have hfz34_1 := blk_frozen BK483.out 1;have hfz34_2 := blk_frozen BK483.out 2;have hfz34_3 := blk_frozen BK483.out 3;have p23 : 0 ≤ ((ji17) : Int) := of_decide_eq_true au3;have q23 : ((ji17) : Int) < ((x3_1.length : Int) : Int) := of_decide_eq_true au3;obtain ⟨go23,co23,eo23,gb23,gl23,cl23,HG23⟩ := Kd.R_form HO_3.out (by omega);(first | cases eo23 | (injection eo23 with ea_ en_ ec_;(first | subst ea_ | (injection ea_ with ea_;subst ea_));subst ec_;clear en_));have GB23 := Aside0.mk gb23;have GG23 := Aside0.mk HG23;clear gb23 gl23 HG23;(first | simp only [add_plain] at hx482_0 | skip);(first | simp only [add_plain] at hx482_1 | skip);(first | simp only [add_plain] at hx482_2 | skip);(first | simp only [add_plain] at hx482_3 | skip);obtain ⟨ce23,hcl23,hM23,hcc23,hfr23⟩ := Kd.R_elem HO_3.out z60 ((ji17) : Int) p23 q23;obtain rfl := k60_openM hM23;have hx23_0 : w33.cell? ⟨go23,((ji17) : Int).toNat * 4,none⟩ = some (.int .i64 ((rd_T60 x3_1 (ji17)).f0)) := hcc23 0 _ rfl;have hx23_1 : w33.cell? ⟨go23,((ji17) : Int).toNat * 4 + 1,none⟩ = some (.int .i64 ((rd_T60 x3_1 (ji17)).f1)) := hcc23 1 _ rfl;have hx23_2 : w33.cell? ⟨go23,((ji17) : Int).toNat * 4 + 2,none⟩ = some (.int .i64 ((rd_T60 x3_1 (ji17)).f2)) := hcc23 2 _ rfl;have hx23_3 : w33.cell? ⟨go23,((ji17) : Int).toNat * 4 + 3,none⟩ = some (.int .i64 ((rd_T60 x3_1 (ji17)).f3)) := hcc23 3 _ rfl;have hf23_0 : w33.frozen? ⟨go23,((ji17) : Int).toNat * 4,none⟩ = false := hfr23 0;have hf23_1 : w33.frozen? ⟨go23,((ji17) : Int).toNat * 4 + 1,none⟩ = false := hfr23 1;have hf23_2 : w33.frozen? ⟨go23,((ji17) : Int).toNat * 4 + 2,none⟩ = false := hfr23 2;have hf23_3 : w33.frozen? ⟨go23,((ji17) : Int).toNat * 4 + 3,none⟩ = false := hfr23 3;clear hcl23 hcc23 hfr23 hM23;replace p23 := eq_true p23;replace q23 := eq_true q23;have HX35 := Aside0.mk (show Kd.R k60 60 w33 w.heap.size (fun k_ => k_ ≠ gb483) (.slice (some ⟨go23,0,none⟩) x3_1.length co24) x3_1 from au8);obtain ⟨ce35,hcl35,hM35,hcc35,hfr35⟩ := Kd.R_elem HX35.out z60 ((ji17) : Int) (of_decide_eq_true au3) (by have h_ : ((ji17) : Int) < ((x3_1.length : Int) : Int) := of_decide_eq_true au3;first | exact h_ | (have e_ := (Kd.R_reads' HO_3.out).1;omega) | simpa using h_);obtain rfl := k60_openM hM35;have HP35 := Kd.R_seg HX35.out ((ji17) : Int) (of_decide_eq_true au3) (by have h_ : ((ji17) : Int) < ((x3_1.length : Int) : Int) := of_decide_eq_true au3;first | exact h_ | (have e_ := (Kd.R_reads' HO_3.out).1;omega) | simpa using h_) (seg := [.int .i64 ((rd_T60 x3_1 (ji17)).f0),.int .i64 (wrap64 (x5_1 + ((rd_T87 t476 x6_1).f1))),.int .i64 1,.int .i64 0]) (j := 0) hcl35 hcc35 (show 4 ≤ 4 from by decide) (x' := (⟨(rd_T60 x3_1 (ji17)).f0,wrap64 (x5_1 + ((rd_T87 t476 x6_1).f1)),1,0⟩ : S60)) (k60_mkM _ _ _ (⟨(rd_T60 x3_1 (ji17)).f0,wrap64 (x5_1 + ((rd_T87 t476 x6_1).f1)),1,0⟩ : S60) ) (fun _ hk => hk);have hx35_0 := hcc35 0 _ rfl;(try simp only [show (k60).sz = 4 from rfl,Nat.mul_one,Nat.add_zero] at hx35_0);have hf35_0 := hfr35 0;(try simp only [show (k60).sz = 4 from rfl,Nat.mul_one,Nat.add_zero] at hf35_0);have hx35_1 := hcc35 1 _ rfl;(try simp only [show (k60).sz = 4 from rfl,Nat.mul_one,Nat.add_zero] at hx35_1);have hf35_1 := hfr35 1;(try simp only [show (k60).sz = 4 from rfl,Nat.mul_one,Nat.add_zero] at hf35_1);have hx35_2 := hcc35 2 _ rfl;(try simp only [show (k60).sz = 4 from rfl,Nat.mul_one,Nat.add_zero] at hx35_2);have hf35_2 := hfr35 2;(try simp only [show (k60).sz = 4 from rfl,Nat.mul_one,Nat.add_zero] at hf35_2);have hx35_3 := hcc35 3 _ rfl;(try simp only [show (k60).sz = 4 from rfl,Nat.mul_one,Nat.add_zero] at hx35_3);have hf35_3 := hfr35 3;(try simp only [show (k60).sz = 4 from rfl,Nat.mul_one,Nat.add_zero] at hf35_3);clear hcl35 hcc35 hfr35 hM35) | ((with_reducible refine gate_store (t := 60) (p := 58) rfl ?_);refine store_event (t := 60) (p := 58) (v := ?vo_w36) (w1 := ((((w33.setCell ⟨go23,((ji17) : Int).toNat * 4,none⟩ (.int .i64 ((rd_T60 x3_1 (ji17)).f0))).setCell ⟨go23,((ji17) : Int).toNat * 4 + 1,none⟩ (.int .i64 (wrap64 (x5_1 + ((rd_T87 t476 x6_1).f1))))).setCell ⟨go23,((ji17) : Int).toNat * 4 + 2,none⟩ (.int .i64 1)).setCell ⟨go23,((ji17) : Int).toNat * 4 + 3,none⟩ (.int .i64 0))) ?hg ?ho ?hn ?hr ?_;(case ho => rfl);(case hg => rfl);(case hn => rfl);(case hr => first | (go_simp;done) | (go_simp;rfl));intro w36 hw;have hg : w33.grownBy w36 (some go23) := (by rw [hw];exact HP35.2);have hp_ : Kd.R k60 60 w36 w.heap.size (fun k_ => k_ ≠ gb483) (.slice (some ⟨go23,0,none⟩) x3_1.length co24) y486 := (by rw [hw,Ny486.out];exact HP35.1);clear HP35;have n0_ := Aside0.mk (hp_);have n1_ := Aside0.mk (Kd.R_over' (v := (.slice (some ⟨go23,0,none⟩) x3_1.length co24)) au16 (Kd.R_typed HO_3.out) (by decide) hg);have n2_ := Aside0.mk (blk_grown (g := gb483) (o := .cells #[.int .i64 ((rd_T60 x3_1 (ji17)).f0),.int .i64 (wrap64 (x5_1 + ((rd_T87 t476 x6_1).f1))),.int .i64 1,.int .i64 0] 60 (0,0)) (by (with_reducible repeat (first | refine blk_drewN ?_ _ | refine blk_drew ?_ | refine blk_alloc ?_ _));exact BK483.out) hg (Kd.R_away HO_3.out (fun _ hk => hk)));have n3_ := Aside0.mk ((by rw [hw];exact below_set (below_set (below_set (below_set (HB.out) GB23.out) GB23.out) GB23.out) GB23.out : Below w.heap.size w w36));clear HO_3;clear HO_4;clear BK483;clear HB;have HO_3 := n0_;have HO_4 := n1_;have BK483 := n2_;have HB := n3_;clear n0_ n1_ n2_ n3_;clear hg hw hp_;have p487 : 0 ≤ (x6_1 : Int) := of_decide_eq_true au3;have q487 : x6_1 < (t476.length : Int) := of_decide_eq_true au3;obtain ⟨ad487,e487,hx487_0,hx487_1⟩ := at_T87 (Kd.R_reads' HO_4.out).2.2 x6_1 p487 q487;obtain rfl : ad484 = ad487 := (by injection e487);replace p487 := eq_true p487;replace q487 := eq_true q487))
            go_roundg kj4
            case measure => have := HK1.out;have := HJ4.out;omega
            case rel => exact ⟨(y486),(wrap64 (x5_1 + ((rd_T87 t476 x6_1).f1))),(wrap64 (x6_1 + 1)),au4,au4,H',⟨by have := HK1.out;have := HJ4.out;omega⟩,⟨by (with_reducible repeat (first | apply Kd.R_alloc | apply Kd.R_drewN | apply Kd.R_drew));exact Kd.R_mono HO_3.out (fun _ hk => trivial)⟩,⟨by (with_reducible repeat (first | apply Kd.R_alloc | apply Kd.R_drewN | apply Kd.R_drew));exact HO_4.out⟩,⟨by repeat (first | (with_reducible first | exact HB.out | apply below_alloc | apply pw_below_drewN | apply below_drew1 | refine below_set ?_ GE483.out) | exact HB.out)⟩⟩
           ·rw [if_neg c22] at H
            have c22b0 : (((rd_T87 t476 x6_1).f0) == 10) = false := beq_eq_false_iff_ne.mpr c22
            have c22b1 : (((rd_T87 t476 x6_1).f0) != 10) = true := bne_iff_ne.mpr c22
            obtain ⟨y488,hy488⟩ : ∃ y_ : List (S60),y_ = (x3_1.set ((ji17) : Int).toNat (⟨(rd_T60 x3_1 (ji17)).f0,wrap64 (x5_1 + ((rd_T87 t476 x6_1).f1)),(rd_T60 x3_1 (ji17)).f2,(rd_T60 x3_1 (ji17)).f3⟩ : S60)) := ⟨_,rfl⟩
            replace H : (bodkinref03_List.l0 kj4 y488 t476 (wrap64 (x5_1 + ((rd_T87 t476 x6_1).f1))) (wrap64 (x6_1 + 1))) = some r := by first | (rw [hy488];with_reducible exact H) | (have H2_ := (Option.bind_some _ _).symm.trans H;rw [hy488];with_reducible exact H2_) | (have H2_ := (Option.bind_some _ _).symm.trans H;with_reducible exact H2_) | with_reducible exact H | (rw [hy488];exact H) | exact H
            have Ny488 := Aside0.mk hy488
            clear hy488
            have H' := Aside0.mk H
            clear H
            obtain ⟨Ao38,co38,eo38⟩ := Kd.R_slice HO_3.out
            subst eo38
            have p482 : 0 ≤ ((ji17) : Int) := of_decide_eq_true au3
            have q482 : (ji17) < (x3_1.length : Int) := of_decide_eq_true au3
            obtain ⟨ad482,e482,hx482_0,hx482_1,hx482_2,hx482_3⟩ := at_T60 (Kd.R_reads' HO_3.out).2.2 (ji17) p482 q482
            cases e482
            replace p482 := eq_true p482
            replace q482 := eq_true q482
            go_wp2_with (first | ((with_reducible refine gate_dst (N := 7) rfl ?_);refine box_event ?hg (N := 7) ?hd (cs := #[.int .i64 0,.int .i64 0,.int .i64 0,.int .i64 0]) (t := 60) ?hr ?_;(case hd => rfl);(case hg => rfl);(case hr => first | (go_simp;done) | (go_simp;rfl));intro gb483 hg w39 hbox hb;have n0_ := Aside0.mk (Kd.R_below (Kd.R_elderB au8 gb483 (Nat.le_of_eq hg.symm)) hb);have n1_ := Aside0.mk (Kd.R_below au16 hb);have n2_ := Aside0.mk (below_step au0 hb);have n3_ := Aside0.mk (hbox);have n4_ := Aside0.mk ((by rw [hg];exact (below_size au0) : w.heap.size ≤ gb483));have n5_ := Aside0.mk ((by rw [hg];exact (below_size au0) : w.heap.size ≤ gb483));clear HO_3;clear HO_4;clear HB;have HO_3 := n0_;have HO_4 := n1_;have HB := n2_;have BK483 := n3_;have GW483 := n4_;have GE483 := n5_;clear n0_ n1_ n2_ n3_ n4_ n5_;clear hb hbox hg;have hcz40_0 : w39.cell? ⟨gb483,0,none⟩ = some (.int .i64 0) := (blk_cell BK483.out 0).trans rfl;have hcz40_1 : w39.cell? ⟨gb483,1,none⟩ = some (.int .i64 0) := (blk_cell BK483.out 1).trans rfl;have hcz40_2 : w39.cell? ⟨gb483,2,none⟩ = some (.int .i64 0) := (blk_cell BK483.out 2).trans rfl;have hcz40_3 : w39.cell? ⟨gb483,3,none⟩ = some (.int .i64 0) := (blk_cell BK483.out 3).trans rfl;have hfz40_0 := blk_frozen BK483.out 0;have hfz40_1 := blk_frozen BK483.out 1;have hfz40_2 := blk_frozen BK483.out 2;have hfz40_3 := blk_frozen BK483.out 3) | ((with_reducible refine gate_store (t := 60) (p := 7) rfl ?_);refine store_event (t := 60) (p := 7) (v := ?vo_w41) (w1 := ((((w39.setCell ⟨gb483,0,none⟩ (.int .i64 ((rd_T60 x3_1 (ji17)).f0))).setCell ⟨gb483,1,none⟩ (.int .i64 ((rd_T60 x3_1 (ji17)).f1))).setCell ⟨gb483,2,none⟩ (.int .i64 ((rd_T60 x3_1 (ji17)).f2))).setCell ⟨gb483,3,none⟩ (.int .i64 ((rd_T60 x3_1 (ji17)).f3)))) ?hg ?ho ?hn ?hr ?_;(case ho => rfl);(case hg => rfl);(case hn => rfl);(case hr => first | (go_simp;done) | (go_simp;rfl));intro w41 hw;have n0_ : Aside0 (Kd.R k60 60 w41 w.heap.size (fun k_ => k_ ≠ gb483) (.slice (some ad482) x3_1.length co38) x3_1) := ⟨au28⟩;have n1_ : Aside0 (Kd.R k87 87 w41 w.heap.size (fun _ => True) (.slice Ao6 t476.length co6) t476) := ⟨au32⟩;have n2_ : Aside0 (w41.heap[gb483]? = some (.cells #[.int .i64 ((rd_T60 x3_1 (ji17)).f0),.int .i64 ((rd_T60 x3_1 (ji17)).f1),.int .i64 ((rd_T60 x3_1 (ji17)).f2),.int .i64 ((rd_T60 x3_1 (ji17)).f3)] 60 (0,0))) := ⟨au11⟩;have n3_ : Aside0 (Below w.heap.size w w41) := ⟨au17⟩;clear hw;clear HO_3;clear HO_4;clear BK483;clear HB;have HO_3 := n0_;have HO_4 := n1_;have BK483 := n2_;have HB := n3_;clear n0_ n1_ n2_ n3_;have p484 : 0 ≤ (x6_1 : Int) := of_decide_eq_true au3;have q484 : x6_1 < (t476.length : Int) := of_decide_eq_true au3;obtain ⟨ad484,e484,hx484_0,hx484_1⟩ := at_T87 (Kd.R_reads' HO_4.out).2.2 x6_1 p484 q484;cases e484;replace p484 := eq_true p484;replace q484 := eq_true q484;have hcz42_0 : w41.cell? ⟨gb483,0,none⟩ = some (.int .i64 ((rd_T60 x3_1 (ji17)).f0)) := (blk_cell BK483.out 0).trans rfl;have hcz42_1 : w41.cell? ⟨gb483,1,none⟩ = some (.int .i64 ((rd_T60 x3_1 (ji17)).f1)) := (blk_cell BK483.out 1).trans rfl;have hcz42_2 : w41.cell? ⟨gb483,2,none⟩ = some (.int .i64 ((rd_T60 x3_1 (ji17)).f2)) := (blk_cell BK483.out 2).trans rfl;have hcz42_3 : w41.cell? ⟨gb483,3,none⟩ = some (.int .i64 ((rd_T60 x3_1 (ji17)).f3)) := (blk_cell BK483.out 3).trans rfl;have hfz42_0 := blk_frozen BK483.out 0;have hfz42_1 := blk_frozen BK483.out 1;have hfz42_2 := blk_frozen BK483.out 2;have hfz42_3 := blk_frozen BK483.out 3) | ((with_reducible refine gate_store (t := 3) (p := 44) rfl ?_);refine store_event (t := 3) (p := 44) (v := ?vo_w43) (w1 := (w41.setCell ⟨gb483,1,none⟩ (.int .i64 (wrap64 (x5_1 + ((rd_T87 t476 x6_1).f1)))))) ?hg ?ho ?hn ?hr ?_;(case ho => rfl);(case hg => rfl);(case hn => rfl);(case hr => first | (go_simp;done) | (go_simp;rfl));intro w43 hw;have n0_ : Aside0 (Kd.R k60 60 w43 w.heap.size (fun k_ => k_ ≠ gb483) (.slice (some ad482) x3_1.length co38) x3_1) := ⟨(by rw [hw];exact (by (with_reducible repeat (first | apply Kd.R_alloc | apply Kd.R_drewN | apply Kd.R_drew));exact Kd.R_mono (Kd.R_far (p := ⟨gb483,1,none⟩) (Kd.R_mono HO_3.out (fun k_ hk => (⟨hk,hk⟩ : _ ∧ k_ ≠ gb483))) (fun _ hk => hk.2) (.int .i64 (wrap64 (x5_1 + ((rd_T87 t476 x6_1).f1))))) (fun _ hk => hk.1)))⟩;have n1_ : Aside0 (Kd.R k87 87 w43 w.heap.size (fun _ => True) (.slice (some ad484) t476.length co6) t476) := ⟨(by rw [hw];exact (by (with_reducible repeat (first | apply Kd.R_alloc | apply Kd.R_drewN | apply Kd.R_drew));exact Kd.R_mono (Kd.R_far (p := ⟨gb483,1,none⟩) (Kd.R_types HO_4.out BK483.out (by decide)) (fun _ hk => hk.2) (.int .i64 (wrap64 (x5_1 + ((rd_T87 t476 x6_1).f1))))) (fun _ hk => trivial)))⟩;have n2_ : Aside0 (w43.heap[gb483]? = some (.cells #[.int .i64 ((rd_T60 x3_1 (ji17)).f0),.int .i64 (wrap64 (x5_1 + ((rd_T87 t476 x6_1).f1))),.int .i64 ((rd_T60 x3_1 (ji17)).f2),.int .i64 ((rd_T60 x3_1 (ji17)).f3)] 60 (0,0))) := ⟨au35⟩;have n3_ : Aside0 (Below w.heap.size w w43) := ⟨au17⟩;clear hw;clear HO_3;clear HO_4;clear BK483;clear HB;have HO_3 := n0_;have HO_4 := n1_;have BK483 := n2_;have HB := n3_;clear n0_ n1_ n2_ n3_;have p485 : 0 ≤ (x6_1 : Int) := of_decide_eq_true au3;have q485 : x6_1 < (t476.length : Int) := of_decide_eq_true au3;obtain ⟨ad485,e485,hx485_0,hx485_1⟩ := at_T87 (Kd.R_reads' HO_4.out).2.2 x6_1 p485 q485;obtain rfl : ad484 = ad485 := (by injection e485);replace p485 := eq_true p485;replace q485 := eq_true q485;have hcz44_0 : w43.cell? ⟨gb483,0,none⟩ = some (.int .i64 ((rd_T60 x3_1 (ji17)).f0)) := (blk_cell BK483.out 0).trans rfl;have hcz44_1 : w43.cell? ⟨gb483,1,none⟩ = some (.int .i64 (wrap64 (x5_1 + ((rd_T87 t476 x6_1).f1)))) := (blk_cell BK483.out 1).trans rfl;have hcz44_2 : w43.cell? ⟨gb483,2,none⟩ = some (.int .i64 ((rd_T60 x3_1 (ji17)).f2)) := (blk_cell BK483.out 2).trans rfl;have hcz44_3 : w43.cell? ⟨gb483,3,none⟩ = some (.int .i64 ((rd_T60 x3_1 (ji17)).f3)) := (blk_cell BK483.out 3).trans rfl;have hfz44_0 := blk_frozen BK483.out 0;have hfz44_1 := blk_frozen BK483.out 1;have hfz44_2 := blk_frozen BK483.out 2;have hfz44_3 := blk_frozen BK483.out 3;have p37 : 0 ≤ ((ji17) : Int) := of_decide_eq_true au3;have q37 : ((ji17) : Int) < ((x3_1.length : Int) : Int) := of_decide_eq_true au3;obtain ⟨go37,co37,eo37,gb37,gl37,cl37,HG37⟩ := Kd.R_form HO_3.out (by omega);(first | cases eo37 | (injection eo37 with ea_ en_ ec_;(first | subst ea_ | (injection ea_ with ea_;subst ea_));subst ec_;clear en_));have GB37 := Aside0.mk gb37;have GG37 := Aside0.mk HG37;clear gb37 gl37 HG37;(first | simp only [add_plain] at hx482_0 | skip);(first | simp only [add_plain] at hx482_1 | skip);(first | simp only [add_plain] at hx482_2 | skip);(first | simp only [add_plain] at hx482_3 | skip);obtain ⟨ce37,hcl37,hM37,hcc37,hfr37⟩ := Kd.R_elem HO_3.out z60 ((ji17) : Int) p37 q37;obtain rfl := k60_openM hM37;have hx37_0 : w43.cell? ⟨go37,((ji17) : Int).toNat * 4,none⟩ = some (.int .i64 ((rd_T60 x3_1 (ji17)).f0)) := hcc37 0 _ rfl;have hx37_1 : w43.cell? ⟨go37,((ji17) : Int).toNat * 4 + 1,none⟩ = some (.int .i64 ((rd_T60 x3_1 (ji17)).f1)) := hcc37 1 _ rfl;have hx37_2 : w43.cell? ⟨go37,((ji17) : Int).toNat * 4 + 2,none⟩ = some (.int .i64 ((rd_T60 x3_1 (ji17)).f2)) := hcc37 2 _ rfl;have hx37_3 : w43.cell? ⟨go37,((ji17) : Int).toNat * 4 + 3,none⟩ = some (.int .i64 ((rd_T60 x3_1 (ji17)).f3)) := hcc37 3 _ rfl;have hf37_0 : w43.frozen? ⟨go37,((ji17) : Int).toNat * 4,none⟩ = false := hfr37 0;have hf37_1 : w43.frozen? ⟨go37,((ji17) : Int).toNat * 4 + 1,none⟩ = false := hfr37 1;have hf37_2 : w43.frozen? ⟨go37,((ji17) : Int).toNat * 4 + 2,none⟩ = false := hfr37 2;have hf37_3 : w43.frozen? ⟨go37,((ji17) : Int).toNat * 4 + 3,none⟩ = false := hfr37 3;clear hcl37 hcc37 hfr37 hM37;replace p37 := eq_true p37;replace q37 := eq_true q37;have HX45 := Aside0.mk (show Kd.R k60 60 w43 w.heap.size (fun k_ => k_ ≠ gb483) (.slice (some ⟨go37,0,none⟩) x3_1.length co38) x3_1 from au8);obtain ⟨ce45,hcl45,hM45,hcc45,hfr45⟩ := Kd.R_elem HX45.out z60 ((ji17) : Int) (of_decide_eq_true au3) (by have h_ : ((ji17) : Int) < ((x3_1.length : Int) : Int) := of_decide_eq_true au3;first | exact h_ | (have e_ := (Kd.R_reads' HO_3.out).1;omega) | simpa using h_);obtain rfl := k60_openM hM45;have HP45 := Kd.R_seg HX45.out ((ji17) : Int) (of_decide_eq_true au3) (by have h_ : ((ji17) : Int) < ((x3_1.length : Int) : Int) := of_decide_eq_true au3;first | exact h_ | (have e_ := (Kd.R_reads' HO_3.out).1;omega) | simpa using h_) (seg := [.int .i64 ((rd_T60 x3_1 (ji17)).f0),.int .i64 (wrap64 (x5_1 + ((rd_T87 t476 x6_1).f1))),.int .i64 ((rd_T60 x3_1 (ji17)).f2),.int .i64 ((rd_T60 x3_1 (ji17)).f3)]) (j := 0) hcl45 hcc45 (show 4 ≤ 4 from by decide) (x' := (⟨(rd_T60 x3_1 (ji17)).f0,wrap64 (x5_1 + ((rd_T87 t476 x6_1).f1)),(rd_T60 x3_1 (ji17)).f2,(rd_T60 x3_1 (ji17)).f3⟩ : S60)) (k60_mkM _ _ _ (⟨(rd_T60 x3_1 (ji17)).f0,wrap64 (x5_1 + ((rd_T87 t476 x6_1).f1)),(rd_T60 x3_1 (ji17)).f2,(rd_T60 x3_1 (ji17)).f3⟩ : S60) ) (fun _ hk => hk);have hx45_0 := hcc45 0 _ rfl;(try simp only [show (k60).sz = 4 from rfl,Nat.mul_one,Nat.add_zero] at hx45_0);have hf45_0 := hfr45 0;(try simp only [show (k60).sz = 4 from rfl,Nat.mul_one,Nat.add_zero] at hf45_0);have hx45_1 := hcc45 1 _ rfl;(try simp only [show (k60).sz = 4 from rfl,Nat.mul_one,Nat.add_zero] at hx45_1);have hf45_1 := hfr45 1;(try simp only [show (k60).sz = 4 from rfl,Nat.mul_one,Nat.add_zero] at hf45_1);have hx45_2 := hcc45 2 _ rfl;(try simp only [show (k60).sz = 4 from rfl,Nat.mul_one,Nat.add_zero] at hx45_2);have hf45_2 := hfr45 2;(try simp only [show (k60).sz = 4 from rfl,Nat.mul_one,Nat.add_zero] at hf45_2);have hx45_3 := hcc45 3 _ rfl;(try simp only [show (k60).sz = 4 from rfl,Nat.mul_one,Nat.add_zero] at hx45_3);have hf45_3 := hfr45 3;(try simp only [show (k60).sz = 4 from rfl,Nat.mul_one,Nat.add_zero] at hf45_3);clear hcl45 hcc45 hfr45 hM45) | ((with_reducible refine gate_store (t := 60) (p := 58) rfl ?_);refine store_event (t := 60) (p := 58) (v := ?vo_w46) (w1 := ((((w43.setCell ⟨go37,((ji17) : Int).toNat * 4,none⟩ (.int .i64 ((rd_T60 x3_1 (ji17)).f0))).setCell ⟨go37,((ji17) : Int).toNat * 4 + 1,none⟩ (.int .i64 (wrap64 (x5_1 + ((rd_T87 t476 x6_1).f1))))).setCell ⟨go37,((ji17) : Int).toNat * 4 + 2,none⟩ (.int .i64 ((rd_T60 x3_1 (ji17)).f2))).setCell ⟨go37,((ji17) : Int).toNat * 4 + 3,none⟩ (.int .i64 ((rd_T60 x3_1 (ji17)).f3)))) ?hg ?ho ?hn ?hr ?_;(case ho => rfl);(case hg => rfl);(case hn => rfl);(case hr => first | (go_simp;done) | (go_simp;rfl));intro w46 hw;have hg : w43.grownBy w46 (some go37) := (by rw [hw];exact HP45.2);have hp_ : Kd.R k60 60 w46 w.heap.size (fun k_ => k_ ≠ gb483) (.slice (some ⟨go37,0,none⟩) x3_1.length co38) y488 := (by rw [hw,Ny488.out];exact HP45.1);clear HP45;have n0_ := Aside0.mk (hp_);have n1_ := Aside0.mk (Kd.R_over' (v := (.slice (some ⟨go37,0,none⟩) x3_1.length co38)) au16 (Kd.R_typed HO_3.out) (by decide) hg);have n2_ := Aside0.mk (blk_grown (g := gb483) (o := .cells #[.int .i64 ((rd_T60 x3_1 (ji17)).f0),.int .i64 (wrap64 (x5_1 + ((rd_T87 t476 x6_1).f1))),.int .i64 ((rd_T60 x3_1 (ji17)).f2),.int .i64 ((rd_T60 x3_1 (ji17)).f3)] 60 (0,0)) (by (with_reducible repeat (first | refine blk_drewN ?_ _ | refine blk_drew ?_ | refine blk_alloc ?_ _));exact BK483.out) hg (Kd.R_away HO_3.out (fun _ hk => hk)));have n3_ := Aside0.mk ((by rw [hw];exact below_set (below_set (below_set (below_set (HB.out) GB37.out) GB37.out) GB37.out) GB37.out : Below w.heap.size w w46));clear HO_3;clear HO_4;clear BK483;clear HB;have HO_3 := n0_;have HO_4 := n1_;have BK483 := n2_;have HB := n3_;clear n0_ n1_ n2_ n3_;clear hg hw hp_;have p489 : 0 ≤ (x6_1 : Int) := of_decide_eq_true au3;have q489 : x6_1 < (t476.length : Int) := of_decide_eq_true au3;obtain ⟨ad489,e489,hx489_0,hx489_1⟩ := at_T87 (Kd.R_reads' HO_4.out).2.2 x6_1 p489 q489;obtain rfl : ad484 = ad489 := (by injection e489);replace p489 := eq_true p489;replace q489 := eq_true q489))
            go_roundg kj4
            case measure => have := HK1.out;have := HJ4.out;omega
            case rel => exact ⟨(y488),(wrap64 (x5_1 + ((rd_T87 t476 x6_1).f1))),(wrap64 (x6_1 + 1)),au4,au4,H',⟨by have := HK1.out;have := HJ4.out;omega⟩,⟨by (with_reducible repeat (first | apply Kd.R_alloc | apply Kd.R_drewN | apply Kd.R_drew));exact Kd.R_mono HO_3.out (fun _ hk => trivial)⟩,⟨by (with_reducible repeat (first | apply Kd.R_alloc | apply Kd.R_drewN | apply Kd.R_drew));exact HO_4.out⟩,⟨by repeat (first | (with_reducible first | exact HB.out | apply below_alloc | apply pw_below_drewN | apply below_drew1 | refine below_set ?_ GE483.out) | exact HB.out)⟩⟩
          ·rw [if_neg c21] at H
           exact absurd H (by simp)
         ·rw [if_neg c20] at H
          exact absurd H (by simp)
        ·rw [if_neg c19] at H
         exact absurd H (by simp)
       ·rw [if_neg c18] at H
        exact absurd H (by simp)
      ·replace c16 := Bool.eq_false_iff.mpr c16
       subst c16
       have H1 : (if 0 ≤ x6_1 then (if x6_1 < (t476.length : Int) then ((bodkinref02_Class.f kj4 ((rd_T87 t476 x6_1).f0)).bind fun t492 => ((bodkinref02_Cells.f kj4 ((rd_T87 t476 x6_1).f0)).bind fun t493 => (if x3_1.length < 4398046511104 then (bodkinref03_List.l0 kj4 (x3_1 ++ [(⟨x5_1,wrap64 (x5_1 + ((rd_T87 t476 x6_1).f1)),t492,t493⟩ : S60)]) t476 (wrap64 (x5_1 + ((rd_T87 t476 x6_1).f1))) (wrap64 (x6_1 + 1))) else (none)))) else (none)) else (none)) = some r := by rw [if_neg (show ¬ (false = true) by decide)] at H;exact H
       clear H
       have H := H1
       clear H1
       by_cases c47 : 0 ≤ x6_1
       ·rw [if_pos c47] at H
        have c47b0 : decide (0 ≤ x6_1) = true := decide_eq_true c47
        clear c47
        by_cases c48 : x6_1 < (t476.length : Int)
        ·rw [if_pos c48] at H
         have c48b0 : decide (x6_1 < (t476.length : Int)) = true := decide_eq_true c48
         clear c48
         replace H := Option.bind_eq_some_iff.mp H
         obtain ⟨t492,A490,H⟩ := H
         replace H : ((bodkinref02_Cells.f kj4 ((rd_T87 t476 x6_1).f0)).bind fun t493 => (if x3_1.length < 4398046511104 then (bodkinref03_List.l0 kj4 (x3_1 ++ [(⟨x5_1,wrap64 (x5_1 + ((rd_T87 t476 x6_1).f1)),t492,t493⟩ : S60)]) t476 (wrap64 (x5_1 + ((rd_T87 t476 x6_1).f1))) (wrap64 (x6_1 + 1))) else (none))) = some r := H
         have A49 := Aside0.mk A490
         clear A490
         replace H := Option.bind_eq_some_iff.mp H
         obtain ⟨t493,A500,H⟩ := H
         replace H : (if x3_1.length < 4398046511104 then (bodkinref03_List.l0 kj4 (x3_1 ++ [(⟨x5_1,wrap64 (x5_1 + ((rd_T87 t476 x6_1).f1)),t492,t493⟩ : S60)]) t476 (wrap64 (x5_1 + ((rd_T87 t476 x6_1).f1))) (wrap64 (x6_1 + 1))) else (none)) = some r := H
         have A50 := Aside0.mk A500
         clear A500
         by_cases c51 : x3_1.length < 4398046511104
         ·rw [if_pos c51] at H
          have LMc51 := Aside0.mk c51
          clear c51
          obtain ⟨y494,hy494⟩ : ∃ y_ : List (S60),y_ = (x3_1 ++ [(⟨x5_1,wrap64 (x5_1 + ((rd_T87 t476 x6_1).f1)),t492,t493⟩ : S60)]) := ⟨_,rfl⟩
          replace H : (bodkinref03_List.l0 kj4 y494 t476 (wrap64 (x5_1 + ((rd_T87 t476 x6_1).f1))) (wrap64 (x6_1 + 1))) = some r := by first | (rw [hy494];with_reducible exact H) | (have H2_ := (Option.bind_some _ _).symm.trans H;rw [hy494];with_reducible exact H2_) | (have H2_ := (Option.bind_some _ _).symm.trans H;with_reducible exact H2_) | with_reducible exact H | (rw [hy494];exact H) | exact H
          have Ny494 := Aside0.mk hy494
          clear hy494
          have H' := Aside0.mk H
          clear H
          have p490 : 0 ≤ (x6_1 : Int) := of_decide_eq_true au3
          have q490 : x6_1 < (t476.length : Int) := of_decide_eq_true au3
          obtain ⟨ad490,e490,hx490_0,hx490_1⟩ := at_T87 (Kd.R_reads' HO_4.out).2.2 x6_1 p490 q490
          cases e490
          replace p490 := eq_true p490
          replace q490 := eq_true q490
          try go_wp2
          have n0_ := Aside0.mk (Kd.R_drew HO_3.out)
          have n1_ := Aside0.mk (Kd.R_drew HO_4.out)
          have n2_ := Aside0.mk (below_drew1 HB.out)
          clear HO_3
          clear HO_4
          clear HB
          have HO_3 := n0_
          have HO_4 := n1_
          have HB := n2_
          clear n0_ n1_ n2_
          have p491 : 0 ≤ (x6_1 : Int) := of_decide_eq_true au3
          have q491 : x6_1 < (t476.length : Int) := of_decide_eq_true au3
          obtain ⟨ad491,e491,hx491_0,hx491_1⟩ := at_T87 (Kd.R_reads' HO_4.out).2.2 x6_1 p491 q491
          obtain rfl : ad490 = ad491 := (by injection e491)
          replace p491 := eq_true p491
          replace q491 := eq_true q491
          refine start_ (n := 17) (S := fun w' => w'.cell? (ad490.add ((x6_1).toNat * 2)) = some (.int .i32 ((rd_T87 t476 x6_1).f0)) ∧ w'.cell? ⟨(ad490.add ((x6_1).toNat * 2)).block,(ad490.add ((x6_1).toNat * 2)).off + 1,none⟩ = some (.int .i64 ((rd_T87 t476 x6_1).f1))) (ds := [14,15]) #[false,false,false,false,false,false,false,false,false,false,false,false,false,false,false,false,false] (by kernel_rfl) rfl rfl ⟨hx491_0,hx491_1⟩ (fun hHeld => ?_);refine with_tabW bodkinref03_List.tab15 bodkinref03_List.bits15 (fun HT_ HW_ => ?_)
          generalize wc.drew = w52 at HO_3 HO_4 HB hx491_0 hx491_1 hHeld ⊢
          refine pure_ (i := 0) (N := some 64) (v := ?_) (a' := ?_) #[true,false,false,false,false,false,false,false,false,false,false,false,false,false,false,false,false] rfl rfl (any_of HT_.out (by kernel_rfl)) (fun _ _ _ h => h) (Or.inl ⟨by rfl,?_⟩) ?_ ?_
          rotate_left
          ·intro w'
           go_simp
           with_reducible rfl
          rotate_left
          ·simp only [Act.put,List.setIfInBounds_toArray,List.set_cons_zero,List.set_cons_succ,i64_w,i32_w]
           rfl
          refine pure_ (i := 1) (N := some 65) (v := ?_) (a' := ?_) #[true,true,false,false,false,false,false,false,false,false,false,false,false,false,false,false,false] rfl rfl (any_of HT_.out (by kernel_rfl)) (fun _ _ _ h => h) (Or.inl ⟨by rfl,?_⟩) ?_ ?_
          rotate_left
          ·intro w'
           go_simp
           with_reducible rfl
          rotate_left
          ·simp only [Act.put,List.setIfInBounds_toArray,List.set_cons_zero,List.set_cons_succ,i64_w,i32_w]
           rfl
          refine pure_ (i := 2) (N := some 66) (v := ?_) (a' := ?_) #[true,true,true,false,false,false,false,false,false,false,false,false,false,false,false,false,false] rfl rfl (any_of HT_.out (by kernel_rfl)) (fun _ _ _ h => h) (Or.inl ⟨by rfl,?_⟩) ?_ ?_
          rotate_left
          ·intro w'
           go_simp
           with_reducible rfl
          rotate_left
          ·simp only [Act.put,List.setIfInBounds_toArray,List.set_cons_zero,List.set_cons_succ,i64_w,i32_w]
           rfl
          refine pure_ (i := 3) (N := some 67) (v := ?_) (a' := ?_) #[true,true,true,true,false,false,false,false,false,false,false,false,false,false,false,false,false] rfl rfl (any_of HT_.out (by kernel_rfl)) (fun _ _ _ h => h) (Or.inl ⟨by rfl,?_⟩) ?_ ?_
          rotate_left
          ·intro w'
           go_simp
           with_reducible rfl
          rotate_left
          ·simp only [Act.put,List.setIfInBounds_toArray,List.set_cons_zero,List.set_cons_succ,i64_w,i32_w]
           rfl
          refine pure_ (i := 4) (N := some 68) (v := ?_) (a' := ?_) #[true,true,true,true,true,false,false,false,false,false,false,false,false,false,false,false,false] rfl rfl (any_of HT_.out (by kernel_rfl)) (fun _ _ _ h => h) (Or.inl ⟨by rfl,?_⟩) ?_ ?_
          rotate_left
          ·intro w'
           go_simp
           with_reducible rfl
          rotate_left
          ·simp only [Act.put,List.setIfInBounds_toArray,List.set_cons_zero,List.set_cons_succ,i64_w,i32_w]
           rfl
          refine pure_ (i := 5) (N := some 69) (v := ?_) (a' := ?_) #[true,true,true,true,true,true,false,false,false,false,false,false,false,false,false,false,false] rfl rfl (any_of HT_.out (by kernel_rfl)) (fun _ _ _ h => h) (Or.inl ⟨by rfl,?_⟩) ?_ ?_
          rotate_left
          ·intro w'
           go_simp
           with_reducible rfl
          rotate_left
          ·simp only [Act.put,List.setIfInBounds_toArray,List.set_cons_zero,List.set_cons_succ,i64_w,i32_w]
           rfl
          refine pure_ (i := 6) (N := some 70) (v := ?_) (a' := ?_) #[true,true,true,true,true,true,true,false,false,false,false,false,false,false,false,false,false] rfl rfl (any_of HT_.out (by kernel_rfl)) (fun _ _ _ h => h) (Or.inl ⟨by rfl,?_⟩) ?_ ?_
          rotate_left
          ·intro w'
           go_simp
           with_reducible rfl
          rotate_left
          ·simp only [Act.put,List.setIfInBounds_toArray,List.set_cons_zero,List.set_cons_succ,i64_w,i32_w]
           rfl
          refine pure_ (i := 9) (N := some 73) (v := ?_) (a' := ?_) #[true,true,true,true,true,true,true,false,false,true,false,false,false,false,false,false,false] rfl rfl (any_of HT_.out (by kernel_rfl)) (fun _ _ _ h => h) (Or.inl ⟨by rfl,?_⟩) ?_ ?_
          rotate_left
          ·intro w'
           go_simp
           with_reducible rfl
          rotate_left
          ·simp only [Act.put,List.setIfInBounds_toArray,List.set_cons_zero,List.set_cons_succ,i64_w,i32_w]
           rfl
          refine pure_ (i := 11) (N := some 75) (v := ?_) (a' := ?_) #[true,true,true,true,true,true,true,false,false,true,false,true,false,false,false,false,false] rfl rfl (any_of HT_.out (by kernel_rfl)) (fun _ _ _ h => h) (Or.inl ⟨by rfl,?_⟩) ?_ ?_
          rotate_left
          ·intro w'
           go_simp
           with_reducible rfl
          rotate_left
          ·simp only [Act.put,List.setIfInBounds_toArray,List.set_cons_zero,List.set_cons_succ,i64_w,i32_w]
           rfl
          refine take_ (i := 7) (N := some 71) (v := ?_) (a' := ?_) #[true,true,true,true,true,true,true,true,false,true,false,true,false,false,false,false,false] rfl rfl (take_ofW HT_.out HW_.out (by kernel_rfl)) (fun _ _ _ h => h) (Or.inl ⟨by rfl,?_⟩) hHeld ?_ ?_
          rotate_left
          ·rintro w' ⟨s0,s1⟩
           go_simp
           with_reducible rfl
          rotate_left
          ·simp only [Act.put,List.setIfInBounds_toArray,List.set_cons_zero,List.set_cons_succ,i64_w,i32_w]
           rfl
          refine pure_ (i := 8) (N := some 72) (v := ?_) (a' := ?_) #[true,true,true,true,true,true,true,true,true,true,false,true,false,false,false,false,false] rfl rfl (any_of HT_.out (by kernel_rfl)) (fun _ _ _ h => h) (Or.inl ⟨by rfl,?_⟩) ?_ ?_
          rotate_left
          ·intro w'
           go_simp
           with_reducible rfl
          rotate_left
          ·simp only [Act.put,List.setIfInBounds_toArray,List.set_cons_zero,List.set_cons_succ,i64_w,i32_w]
           rfl
          refine one_ (i := 10) (N := some 74) #[true,true,true,true,true,true,true,true,true,true,true,true,false,false,false,false,false] rfl rfl (one_of HT_.out (by kernel_rfl)) (by decide) (fun K hK => ?_)
          refine goes_ Tryd.func48 (by kernel_rfl) rfl #[.int .i32 ((rd_T87 t476 x6_1).f0)] (by rfl) rfl rfl au1 ?_
          with_reducible refine (bodkinref02_Class.calls kj4 ((rd_T87 t476 x6_1).f0) t492 _ A49.out).mono ?_
          rintro e w53 ⟨rfl,hb⟩
          have HS0_ := (hb.cell (World.block_lt_of_cell? _ _ (hHeld.1))).trans (hHeld.1)
          have HS1_ := (hb.cell (World.block_lt_of_cell? _ _ (hHeld.2))).trans (hHeld.2)
          refine ⟨_,rfl,?_⟩
          have n0_ := Aside0.mk (Kd.R_below au8 hb)
          have n1_ := Aside0.mk (Kd.R_below au16 hb)
          have n2_ := Aside0.mk (below_step au0 hb)
          clear HO_3
          clear HO_4
          clear HB
          have HO_3 := n0_
          have HO_4 := n1_
          have HB := n2_
          clear n0_ n1_ n2_
          (try clear hb)
          (try clear hb2)
          (try clear hk)
          (try clear hi)
          refine hK.out _ _ ⟨HS0_,HS1_⟩ (fun hHeld => ?_)
          clear hK K
          refine norm_ (a' := ?_) ?_ ?_
          rotate_left
          ·show Act.put _ (some 74) _ = _
           simp only [Act.put,List.setIfInBounds_toArray,List.set_cons_zero,List.set_cons_succ,i64_w,i32_w]
           rfl
          refine one_ (i := 12) (N := some 76) #[true,true,true,true,true,true,true,true,true,true,true,true,true,false,false,false,false] rfl rfl (one_of HT_.out (by kernel_rfl)) (by decide) (fun K hK => ?_)
          refine goes_ Tryd.func49 (by kernel_rfl) rfl #[.int .i32 ((rd_T87 t476 x6_1).f0)] (by rfl) rfl rfl au1 ?_
          with_reducible refine (bodkinref02_Cells.calls kj4 ((rd_T87 t476 x6_1).f0) t493 _ A50.out).mono ?_
          rintro e w54 ⟨rfl,hb⟩
          have HS0_ := (hb.cell (World.block_lt_of_cell? _ _ (hHeld.1))).trans (hHeld.1)
          have HS1_ := (hb.cell (World.block_lt_of_cell? _ _ (hHeld.2))).trans (hHeld.2)
          refine ⟨_,rfl,?_⟩
          have n0_ := Aside0.mk (Kd.R_below au8 hb)
          have n1_ := Aside0.mk (Kd.R_below au16 hb)
          have n2_ := Aside0.mk (below_step au0 hb)
          clear HO_3
          clear HO_4
          clear HB
          have HO_3 := n0_
          have HO_4 := n1_
          have HB := n2_
          clear n0_ n1_ n2_
          (try clear hb)
          (try clear hb2)
          (try clear hk)
          (try clear hi)
          refine hK.out _ _ ⟨HS0_,HS1_⟩ (fun hHeld => ?_)
          clear hK K
          refine norm_ (a' := ?_) ?_ ?_
          rotate_left
          ·show Act.put _ (some 76) _ = _
           simp only [Act.put,List.setIfInBounds_toArray,List.set_cons_zero,List.set_cons_succ,i64_w,i32_w]
           rfl
          refine pure_ (i := 13) (N := some 77) (v := ?_) (a' := ?_) #[true,true,true,true,true,true,true,true,true,true,true,true,true,true,false,false,false] rfl rfl (any_of HT_.out (by kernel_rfl)) (fun _ _ _ h => h) (Or.inl ⟨by rfl,?_⟩) ?_ ?_
          rotate_left
          ·intro w'
           go_simp
           with_reducible rfl
          rotate_left
          ·simp only [Act.put,List.setIfInBounds_toArray,List.set_cons_zero,List.set_cons_succ,i64_w,i32_w]
           rfl
          refine last_ (i := 14) (N := some 78) #[true,true,true,true,true,true,true,true,true,true,true,true,true,true,true,false,false] rfl rfl (one_of HT_.out (by kernel_rfl)) (by decide) (fun K hK => ?_)
          refine value_ (w1 := ?_) (v := ?_) (by rfl) rfl ?_ ?_
          rotate_left 2
          ·go_simp
           constructor
           ·rfl
           ·rfl
          refine hK.out _ _ ?_
          clear hK K
          refine norm_ (a' := ?_) ?_ ?_
          rotate_left
          ·show Act.put _ (some 78) _ = _
           simp only [Act.put,List.setIfInBounds_toArray,List.set_cons_zero,List.set_cons_succ,i64_w,i32_w]
           rfl
          refine last_ (i := 15) (N := some 79) #[true,true,true,true,true,true,true,true,true,true,true,true,true,true,true,true,false] rfl rfl (one_of HT_.out (by kernel_rfl)) (by decide) (fun K hK => ?_)
          refine Kd.R_append_step k60 (w0 := w) w.heap.size (by rfl) (.tmp 64) (.tmp 78) 56 60 (.agg #[(.int .i64 0),(.int .i64 0),(.int .i64 0),(.int .i64 0)]) 32 rfl Tryd.underlying56 info60 rfl (by decide) (by omega) u3 x3_1 (⟨x5_1,wrap64 (x5_1 + ((rd_T87 t476 x6_1).f1)),t492,t493⟩ : S60) [.int .i64 x5_1,.int .i64 (wrap64 (x5_1 + ((rd_T87 t476 x6_1).f1))),.int .i64 t492,.int .i64 t493] (fun _ => True) (fun _ => False) rfl rfl ?aP (fun _ hk => hk.elim) ?aF ?aO ?aB ?aS ?aL ?_
          (case aP => exact k60_mkM _ _ _ (⟨x5_1,wrap64 (x5_1 + ((rd_T87 t476 x6_1).f1)),t492,t493⟩ : S60))
          (case aB => exact au0)
          (case aF => exact (fun _ _ => trivial))
          (case aO => exact au8)
          (case aS => exact (below_size au0))
          (case aL => have := LMc51.out;omega)
          intro v495 w55 ho hb hg hat
          rw [← Ny494.out] at ho
          have n0_ := Aside0.mk (Kd.R_over' au16 (Kd.R_typed au8) (by decide) hg)
          have n1_ := Aside0.mk (hb)
          have n2_ := Aside0.mk (ho)
          clear HO_4
          clear HB
          clear HO_3
          have HO_4 := n0_
          have HB := n1_
          have HO496 := n2_
          clear n0_ n1_ n2_
          clear ho hb hg hat
          refine hK.out _ _ ?_
          clear hK K
          refine norm_ (a' := ?_) ?_ ?_
          rotate_left
          ·show Act.put _ (some 79) _ = _
           simp only [Act.put,List.setIfInBounds_toArray,List.set_cons_zero,List.set_cons_succ,i64_w,i32_w]
           rfl
          refine pure_ (i := 16) (N := some 3) (v := ?_) (a' := ?_) #[true,true,true,true,true,true,true,true,true,true,true,true,true,true,true,true,true] rfl rfl (any_of HT_.out (by kernel_rfl)) (fun _ _ _ h => h) (Or.inl ⟨by rfl,?_⟩) ?_ ?_
          rotate_left
          ·intro w'
           go_simp
           with_reducible rfl
          rotate_left
          ·simp only [Act.put,List.setIfInBounds_toArray,List.set_cons_zero,List.set_cons_succ,i64_w,i32_w]
           rfl
          refine done_ (done_of HT_.out (by kernel_rfl)) ?_
          have p497 : 0 ≤ (x6_1 : Int) := of_decide_eq_true au3
          have q497 : x6_1 < (t476.length : Int) := of_decide_eq_true au3
          obtain ⟨ad497,e497,hx497_0,hx497_1⟩ := at_T87 (Kd.R_reads' HO_4.out).2.2 x6_1 p497 q497
          obtain rfl : ad490 = ad497 := (by injection e497)
          replace p497 := eq_true p497
          replace q497 := eq_true q497
          try go_wp2
          go_roundg kj4
          case measure => have := HK1.out;have := HJ4.out;omega
          case rel => exact ⟨(y494),(wrap64 (x5_1 + ((rd_T87 t476 x6_1).f1))),(wrap64 (x6_1 + 1)),au4,au4,H',⟨by have := HK1.out;have := HJ4.out;omega⟩,⟨by (with_reducible repeat (first | apply Kd.R_alloc | apply Kd.R_drewN | apply Kd.R_drew));exact HO496.out⟩,⟨by (with_reducible repeat (first | apply Kd.R_alloc | apply Kd.R_drewN | apply Kd.R_drew));exact HO_4.out⟩,⟨au0⟩⟩
         ·rw [if_neg c51] at H
          exact absurd H (by simp)
        ·rw [if_neg c48] at H
         exact absurd H (by simp)
       ·rw [if_neg c47] at H
        exact absurd H (by simp)
   ·rw [if_neg c4] at H
    have c4b0 : decide (x6_1 < (t476.length : Int)) = false := decide_eq_false c4
    clear c4
    obtain rfl := Option.some.inj H
    obtain ⟨Ao56,co56,eo56⟩ := Kd.R_slice HO_4.out
    subst eo56
    go_wp2
    go_ret
    exact ⟨_,by first | rfl | (simp [errW_none,errW_some] <;> rfl) | (simp [*,errW_none,errW_some] <;> rfl),by (with_reducible repeat (first | apply Kd.R_alloc | apply Kd.R_drewN | apply Kd.R_drew));exact HO_3.out,au0⟩
end Go.Proofs.YtnpjaaldppemlaaDoor.U
end
section
namespace Go.Proofs.YtnpjaaldppemlaaDoorW.PrintMore
open Go Go.RowKit Go.Proofs.YtnpjaaldppemlaaDoorW.PrintWords
section
variable {P : Program} {ops : Array Oper} {o : Oper} {a : Act} {Q : Exit → Act → World → Prop} {K : Act → World → Prop}
theorem print_append_str_step {w0 W : World} (base : Nat) (hw : Region.wanted o (yielded ops a.tmps) = true) (s x : Operand) (t u e : TypeId)
  (ho : o.op = .call { callee := .builtin .append,args := #[s,x],argTypes := #[t,u] })
  (ht : P.underlying t = some (.slice e)) (hu : P.underlying u = some .string) (hinfo : (P.info? e).map (fun i => (i.zero,i.size,i.bytes)) = some (some (.int .u8 0),1,1))
  (v : Value) (xs : List Int) (y : ByteArray) (hs : a.eval s = v) (hx : a.eval x = .string y)
  (HO : W.ownsRow base e 1 v xs.length (nums .u8 xs)) (HB : Below base w0 W) (hbase : base ≤ W.heap.size) (hl : xs.length + y.size ≤ 140737488355328)
  (h : ∀ v1 w1,w1.ownsRow base e 1 v1 (xs ++ bytesOf y).length (nums .u8 (xs ++ bytesOf y)) → Below base w0 w1 → W.grownBy w1 v.ownBlock → K (a.put o.dst v1) w1) :
  if Region.wanted o (yielded ops a.tmps) = true then Oper.wp P o a W K Q else K (a.put o.dst undef) W := by
 obtain ⟨i0,hi,hzz⟩ := Option.map_eq_some_iff.1 hinfo
 simp only [Prod.mk.injEq] at hzz
 obtain ⟨hz0,hz1,hz2⟩ := hzz
 rw [if_pos hw]
 obtain ⟨v1,w1,hr,hown,hg,_⟩ := Lib.run_append_own_string (P := P) (w := W) base t u o.type e i0 ht hu hi hz0 hz1 hz2 v xs.length (nums .u8 xs) HO y (by simp only [maxLen];omega) hl hbase
 unfold Oper.wp execOp
 simp only [ho,resolve,invoke,builtin,Sem.run_bind,Sem.run_pure,Result.andThen_ok,List.map_toArray,List.map_cons,List.map_nil,hs,hx,hr]
 have hl2 : (xs ++ bytesOf y).length = xs.length + y.size := by rw [List.length_append,bytesOf_length]
 have hc : nums .u8 (xs ++ bytesOf y) = nums .u8 xs ++ Lib.strCells y := by
  rw [nums_append]
  congr 1
  simp [nums,bytesOf,Lib.strCells]
 exact h v1 w1 (by rw [hl2,hc];exact hown) (HB.grown hg hbase (own_base HO)) hg
end
end Go.Proofs.YtnpjaaldppemlaaDoorW.PrintMore
end
section
namespace Go.Proofs.YtnpjaaldppemlaaDoor.U
open Go.RowKit Go.Proofs.YtnpjaaldppemlaaDoorW.PrintWords Go.Proofs.YtnpjaaldppemlaaDoorW.PrintLast Go.Proofs.YtnpjaaldppemlaaDoorW.PrintMore
attribute [local go_sem] max2_int min2_int max_two min_two max_three min_three max_four min_four   -- for this text's walks alone
set_option linter.unusedVariables false
set_option linter.unusedSimpArgs false
def bodkinref03_Drawn.l0 : Nat → ByteArray → List Int → List (S60) → Int → Option (ByteArray)
 | 0,_,_,_,_ => none
 | k + 1,x0,x3,x4,x5 => if x5 < (x4.length : Int) then (if 0 ≤ x5 then (if 0 ≤ ((rd_T60 x4 x5).f0) then (if ((rd_T60 x4 x5).f0) ≤ ((rd_T60 x4 x5).f1) then (if ((rd_T60 x4 x5).f1) ≤ (x0.size : Int) then ((bodkinref03_drawn.f (x0.extract (((rd_T60 x4 x5).f0) : Int).toNat (((rd_T60 x4 x5).f1) : Int).toNat) ((rd_T60 x4 x5).f2)).bind fun t507 => (if x3.length + t507.size < 140737488355328 then (bodkinref03_Drawn.l0 k x0 (x3 ++ bytesOf t507) x4 (wrap64 (x5 + 1))) else (none))) else (none)) else (none)) else (none)) else (none)) else (some (strOfNums x3))
def bodkinref03_Drawn.f (k : Nat) (a0 : ByteArray) : Option (ByteArray) := (bodkinref03_List.f k a0).bind fun t501 => (bodkinref03_Drawn.l0 k a0 ([] : List Int) t501 0)
def bodkinref03_Drawn.T6 : Bool × List (List Nat × List Nat) := (true,[([],[]),([],[]),([],[]),([],[]),([2,3],[2,3]),([4],[4]),([5],[5]),([],[]),([],[]),([7,8],[7,8]),([9],[9]),([10],[10]),([1,6,11],[1,6,11]),([],[]),([],[]),([13,14],[13,14]),([15],[15]),([16],[16]),([12,17],[12,17]),([0,18,18],[0,18]),([19,19,0,1,2,3,4,5,6,7,8,9,10,11,12,13,14,15,16,17,18,19],[0,19])])
def bodkinref03_Drawn.B6 : List Nat := [0,0,0,0,12,28,60,0,0,384,896,1920,4094,0,0,24576,57344,122880,262142,524287,1048575]
theorem bodkinref03_Drawn.tab6 : rtab .any (opsOf Tryd.f66 6) = bodkinref03_Drawn.T6 := by kernel_rfl
theorem bodkinref03_Drawn.bits6 : waitsOk bodkinref03_Drawn.T6.2 bodkinref03_Drawn.B6 = true := by kernel_rfl
set_option maxHeartbeats 8000000 in
set_option maxRecDepth 100000 in
theorem bodkinref03_Drawn.calls (k : Nat) (a0 : ByteArray) (r : ByteArray) (w : World) (h : bodkinref03_Drawn.f k a0 = some r) :
  Calls Tryd.prog 66 #[.string a0] w fun e w' => e = .returned (.string r) ∧ Below w.heap.size w w' := by
 have HB := Aside0.mk (Below.refl w.heap.size w)
 have H : ((bodkinref03_List.f k a0).bind fun t501 => (bodkinref03_Drawn.l0 k a0 ([] : List Int) t501 0)) = some r := h
 clear h
 replace H := Option.bind_eq_some_iff.mp H
 obtain ⟨t501,A20,H⟩ := H
 replace H : (bodkinref03_Drawn.l0 k a0 ([] : List Int) t501 0) = some r := H
 have A2 := Aside0.mk A20
 clear A20
 have H' := Aside0.mk H
 clear H
 go_enter Tryd.func66,Tryd.ntmps66
 go_wp2_with (first | ((with_reducible refine gate_callee (f := 32) rfl ?_);refine goesL_ (some 7) rfl rfl Tryd.func32 (by kernel_rfl) rfl #[.string a0] rfl au1 ?_;(with_reducible refine (bodkinref03_List.calls k a0 t501 _ A2.out).mono ?_);rintro e w3 ⟨v502,rfl,ho0,hb⟩;refine ⟨_,rfl,?_⟩;have n0_ := Aside0.mk (Kd.R_lower ho0 (below_size au0));have n1_ := Aside0.mk (below_step au0 hb);clear HB;have HO503 := n0_;have HB := n1_;clear n0_ n1_;(try clear hb);(try clear hb2);(try clear hk);(try clear hi);(try clear ho0)))
 go_loopg [3,5] k (fun kq v3 v5 w' => ∃ (x3_1 : List Int) (x5_1 : Int),v5 = .int .i64 x5_1 ∧ Aside0 (bodkinref03_Drawn.l0 kq a0 x3_1 t501 x5_1 = some r) ∧ Aside0 (kq ≤ k) ∧ Aside0 (Kd.R (Kd.int .u8) 5 w' w.heap.size (fun _ => True) v3 x3_1) ∧ Aside0 (Kd.R k60 60 w' w.heap.size (fun _ => True) v502 t501) ∧ Aside0 (Below w.heap.size w w'))
 case atStart => exact ⟨(([] : List Int)),(0),au4,H',⟨Nat.le_refl _⟩,⟨by first | exact Kd.R_nil _ _ _ _ _ | exact Kd.N_nil _ _ _ _ _ | exact Kd.V_nil _ _ _ _ _ | exact Kd.Q_nil _ _ _ _ _ | exact Kd.S_nil _ _ _ _ _⟩,⟨by (with_reducible repeat (first | apply Kd.R_alloc | apply Kd.R_drewN | apply Kd.R_drew));exact HO503.out⟩,⟨au0⟩⟩
 case round =>
  clear H'
  try clear p2
  try clear c3
  obtain ⟨x3_1,x5_1,rfl,HA,HK1,HO_3,HO_4,HB⟩ := hrel
  cases gk with
  | zero => exact absurd HA.out (by simp [bodkinref03_Drawn.l0])
  | succ k1 =>
   have H := HA.out
   clear HA
   simp only [bodkinref03_Drawn.l0] at H
   by_cases c4 : x5_1 < (t501.length : Int)
   ·rw [if_pos c4] at H
    have c4b0 : decide (x5_1 < (t501.length : Int)) = true := decide_eq_true c4
    clear c4
    by_cases c5 : 0 ≤ x5_1
    ·rw [if_pos c5] at H
     have c5b0 : decide (0 ≤ x5_1) = true := decide_eq_true c5
     clear c5
     by_cases c6 : 0 ≤ ((rd_T60 t501 x5_1).f0)
     ·rw [if_pos c6] at H
      have c6b0 := eq_true c6
      have c6b1 : decide (0 ≤ ((rd_T60 t501 x5_1).f0)) = true := decide_eq_true c6
      clear c6
      by_cases c7 : ((rd_T60 t501 x5_1).f0) ≤ ((rd_T60 t501 x5_1).f1)
      ·rw [if_pos c7] at H
       have c7b0 := eq_true c7
       have c7b1 : decide (((rd_T60 t501 x5_1).f0) ≤ ((rd_T60 t501 x5_1).f1)) = true := decide_eq_true c7
       clear c7
       by_cases c8 : ((rd_T60 t501 x5_1).f1) ≤ (a0.size : Int)
       ·rw [if_pos c8] at H
        have c8b0 := eq_true c8
        have c8b1 : decide (((rd_T60 t501 x5_1).f1) ≤ (a0.size : Int)) = true := decide_eq_true c8
        clear c8
        replace H := Option.bind_eq_some_iff.mp H
        obtain ⟨t507,A90,H⟩ := H
        replace H : (if x3_1.length + t507.size < 140737488355328 then (bodkinref03_Drawn.l0 k1 a0 (x3_1 ++ bytesOf t507) t501 (wrap64 (x5_1 + 1))) else (none)) = some r := H
        have A9 := Aside0.mk A90
        clear A90
        by_cases c10 : x3_1.length + t507.size < 140737488355328
        ·rw [if_pos c10] at H
         have LMc10 := Aside0.mk c10
         clear c10
         obtain ⟨y508,hy508⟩ : ∃ y_ : List Int,y_ = (x3_1 ++ bytesOf t507) := ⟨_,rfl⟩
         replace H : (bodkinref03_Drawn.l0 k1 a0 y508 t501 (wrap64 (x5_1 + 1))) = some r := by first | (rw [hy508];with_reducible exact H) | (have H2_ := (Option.bind_some _ _).symm.trans H;rw [hy508];with_reducible exact H2_) | (have H2_ := (Option.bind_some _ _).symm.trans H;with_reducible exact H2_) | with_reducible exact H | (rw [hy508];exact H) | exact H
         have Ny508 := Aside0.mk hy508
         clear hy508
         have H' := Aside0.mk H
         clear H
         obtain ⟨Ao11,co11,eo11⟩ := Kd.R_slice HO_4.out
         subst eo11
         try go_wp2
         have n0_ := Aside0.mk (Kd.R_drew HO_3.out)
         have n1_ := Aside0.mk (Kd.R_drew HO_4.out)
         have n2_ := Aside0.mk (below_drew1 HB.out)
         clear HO_3
         clear HO_4
         clear HB
         have HO_3 := n0_
         have HO_4 := n1_
         have HB := n2_
         clear n0_ n1_ n2_
         have p504 : 0 ≤ (x5_1 : Int) := of_decide_eq_true au3
         have q504 : x5_1 < (t501.length : Int) := of_decide_eq_true au3
         obtain ⟨ad504,e504,hx504_0,hx504_1,hx504_2,hx504_3⟩ := at_T60 (Kd.R_reads' HO_4.out).2.2 x5_1 p504 q504
         cases e504
         replace p504 := eq_true p504
         replace q504 := eq_true q504
         have p505 : 0 ≤ (x5_1 : Int) := of_decide_eq_true au3
         have q505 : x5_1 < (t501.length : Int) := of_decide_eq_true au3
         obtain ⟨ad505,e505,hx505_0,hx505_1,hx505_2,hx505_3⟩ := at_T60 (Kd.R_reads' HO_4.out).2.2 x5_1 p505 q505
         obtain rfl : ad504 = ad505 := (by injection e505)
         replace p505 := eq_true p505
         replace q505 := eq_true q505
         have p506 : 0 ≤ (x5_1 : Int) := of_decide_eq_true au3
         have q506 : x5_1 < (t501.length : Int) := of_decide_eq_true au3
         obtain ⟨ad506,e506,hx506_0,hx506_1,hx506_2,hx506_3⟩ := at_T60 (Kd.R_reads' HO_4.out).2.2 x5_1 p506 q506
         obtain rfl : ad504 = ad506 := (by injection e506)
         replace p506 := eq_true p506
         replace q506 := eq_true q506
         refine start_ (n := 21) (S := fun w' => w'.cell? (ad504.add ((x5_1).toNat * 4)) = some (.int .i64 ((rd_T60 t501 x5_1).f0)) ∧ w'.cell? ⟨(ad504.add ((x5_1).toNat * 4)).block,(ad504.add ((x5_1).toNat * 4)).off + 1,none⟩ = some (.int .i64 ((rd_T60 t501 x5_1).f1)) ∧ w'.cell? ⟨(ad504.add ((x5_1).toNat * 4)).block,(ad504.add ((x5_1).toNat * 4)).off + 2,none⟩ = some (.int .i64 ((rd_T60 t501 x5_1).f2)) ∧ w'.cell? ⟨(ad504.add ((x5_1).toNat * 4)).block,(ad504.add ((x5_1).toNat * 4)).off + 3,none⟩ = some (.int .i64 ((rd_T60 t501 x5_1).f3)) ∧ w'.cell? (ad504.add ((x5_1).toNat * 4)) = some (.int .i64 ((rd_T60 t501 x5_1).f0)) ∧ w'.cell? ⟨(ad504.add ((x5_1).toNat * 4)).block,(ad504.add ((x5_1).toNat * 4)).off + 1,none⟩ = some (.int .i64 ((rd_T60 t501 x5_1).f1)) ∧ w'.cell? ⟨(ad504.add ((x5_1).toNat * 4)).block,(ad504.add ((x5_1).toNat * 4)).off + 2,none⟩ = some (.int .i64 ((rd_T60 t501 x5_1).f2)) ∧ w'.cell? ⟨(ad504.add ((x5_1).toNat * 4)).block,(ad504.add ((x5_1).toNat * 4)).off + 3,none⟩ = some (.int .i64 ((rd_T60 t501 x5_1).f3)) ∧ w'.cell? (ad504.add ((x5_1).toNat * 4)) = some (.int .i64 ((rd_T60 t501 x5_1).f0)) ∧ w'.cell? ⟨(ad504.add ((x5_1).toNat * 4)).block,(ad504.add ((x5_1).toNat * 4)).off + 1,none⟩ = some (.int .i64 ((rd_T60 t501 x5_1).f1)) ∧ w'.cell? ⟨(ad504.add ((x5_1).toNat * 4)).block,(ad504.add ((x5_1).toNat * 4)).off + 2,none⟩ = some (.int .i64 ((rd_T60 t501 x5_1).f2)) ∧ w'.cell? ⟨(ad504.add ((x5_1).toNat * 4)).block,(ad504.add ((x5_1).toNat * 4)).off + 3,none⟩ = some (.int .i64 ((rd_T60 t501 x5_1).f3))) (ds := [19]) #[false,false,false,false,false,false,false,false,false,false,false,false,false,false,false,false,false,false,false,false,false] (by kernel_rfl) rfl rfl ⟨hx504_0,hx504_1,hx504_2,hx504_3,hx505_0,hx505_1,hx505_2,hx505_3,hx506_0,hx506_1,hx506_2,hx506_3⟩ (fun hHeld => ?_);refine with_tabW bodkinref03_Drawn.tab6 bodkinref03_Drawn.bits6 (fun HT_ HW_ => ?_)
         generalize wr.drew = w12 at HO_3 HO_4 HB hx504_0 hx504_1 hx504_2 hx504_3 hx505_0 hx505_1 hx505_2 hx505_3 hx506_0 hx506_1 hx506_2 hx506_3 hHeld ⊢
         refine pure_ (i := 0) (N := some 14) (v := ?_) (a' := ?_) #[true,false,false,false,false,false,false,false,false,false,false,false,false,false,false,false,false,false,false,false,false] rfl rfl (any_of HT_.out (by kernel_rfl)) (fun _ _ _ h => h) (Or.inl ⟨by rfl,?_⟩) ?_ ?_
         rotate_left
         ·intro w'
          go_simp
          with_reducible rfl
         rotate_left
         ·simp only [Act.put,List.setIfInBounds_toArray,List.set_cons_zero,List.set_cons_succ,i64_w,i32_w]
          rfl
         refine pure_ (i := 1) (N := some 15) (v := ?_) (a' := ?_) #[true,true,false,false,false,false,false,false,false,false,false,false,false,false,false,false,false,false,false,false,false] rfl rfl (any_of HT_.out (by kernel_rfl)) (fun _ _ _ h => h) (Or.inl ⟨by rfl,?_⟩) ?_ ?_
         rotate_left
         ·intro w'
          go_simp
          with_reducible rfl
         rotate_left
         ·simp only [Act.put,List.setIfInBounds_toArray,List.set_cons_zero,List.set_cons_succ,i64_w,i32_w]
          rfl
         refine pure_ (i := 2) (N := some 16) (v := ?_) (a' := ?_) #[true,true,true,false,false,false,false,false,false,false,false,false,false,false,false,false,false,false,false,false,false] rfl rfl (any_of HT_.out (by kernel_rfl)) (fun _ _ _ h => h) (Or.inl ⟨by rfl,?_⟩) ?_ ?_
         rotate_left
         ·intro w'
          go_simp
          with_reducible rfl
         rotate_left
         ·simp only [Act.put,List.setIfInBounds_toArray,List.set_cons_zero,List.set_cons_succ,i64_w,i32_w]
          rfl
         refine pure_ (i := 3) (N := some 17) (v := ?_) (a' := ?_) #[true,true,true,true,false,false,false,false,false,false,false,false,false,false,false,false,false,false,false,false,false] rfl rfl (any_of HT_.out (by kernel_rfl)) (fun _ _ _ h => h) (Or.inl ⟨by rfl,?_⟩) ?_ ?_
         rotate_left
         ·intro w'
          go_simp
          with_reducible rfl
         rotate_left
         ·simp only [Act.put,List.setIfInBounds_toArray,List.set_cons_zero,List.set_cons_succ,i64_w,i32_w]
          rfl
         refine pure_ (i := 4) (N := some 18) (v := ?_) (a' := ?_) #[true,true,true,true,true,false,false,false,false,false,false,false,false,false,false,false,false,false,false,false,false] rfl rfl (any_of HT_.out (by kernel_rfl)) (fun _ _ _ h => h) (Or.inl ⟨by rfl,?_⟩) ?_ ?_
         rotate_left
         ·intro w'
          go_simp
          with_reducible rfl
         rotate_left
         ·simp only [Act.put,List.setIfInBounds_toArray,List.set_cons_zero,List.set_cons_succ,i64_w,i32_w]
          rfl
         refine pure_ (i := 5) (N := some 19) (v := ?_) (a' := ?_) #[true,true,true,true,true,true,false,false,false,false,false,false,false,false,false,false,false,false,false,false,false] rfl rfl (any_of HT_.out (by kernel_rfl)) (fun _ _ _ h => h) (Or.inl ⟨by rfl,?_⟩) ?_ ?_
         rotate_left
         ·intro w'
          go_simp
          with_reducible rfl
         rotate_left
         ·simp only [Act.put,List.setIfInBounds_toArray,List.set_cons_zero,List.set_cons_succ,i64_w,i32_w]
          rfl
         refine pure_ (i := 7) (N := some 21) (v := ?_) (a' := ?_) #[true,true,true,true,true,true,false,true,false,false,false,false,false,false,false,false,false,false,false,false,false] rfl rfl (any_of HT_.out (by kernel_rfl)) (fun _ _ _ h => h) (Or.inl ⟨by rfl,?_⟩) ?_ ?_
         rotate_left
         ·intro w'
          go_simp
          with_reducible rfl
         rotate_left
         ·simp only [Act.put,List.setIfInBounds_toArray,List.set_cons_zero,List.set_cons_succ,i64_w,i32_w]
          rfl
         refine pure_ (i := 8) (N := some 22) (v := ?_) (a' := ?_) #[true,true,true,true,true,true,false,true,true,false,false,false,false,false,false,false,false,false,false,false,false] rfl rfl (any_of HT_.out (by kernel_rfl)) (fun _ _ _ h => h) (Or.inl ⟨by rfl,?_⟩) ?_ ?_
         rotate_left
         ·intro w'
          go_simp
          with_reducible rfl
         rotate_left
         ·simp only [Act.put,List.setIfInBounds_toArray,List.set_cons_zero,List.set_cons_succ,i64_w,i32_w]
          rfl
         refine pure_ (i := 9) (N := some 23) (v := ?_) (a' := ?_) #[true,true,true,true,true,true,false,true,true,true,false,false,false,false,false,false,false,false,false,false,false] rfl rfl (any_of HT_.out (by kernel_rfl)) (fun _ _ _ h => h) (Or.inl ⟨by rfl,?_⟩) ?_ ?_
         rotate_left
         ·intro w'
          go_simp
          with_reducible rfl
         rotate_left
         ·simp only [Act.put,List.setIfInBounds_toArray,List.set_cons_zero,List.set_cons_succ,i64_w,i32_w]
          rfl
         refine pure_ (i := 10) (N := some 24) (v := ?_) (a' := ?_) #[true,true,true,true,true,true,false,true,true,true,true,false,false,false,false,false,false,false,false,false,false] rfl rfl (any_of HT_.out (by kernel_rfl)) (fun _ _ _ h => h) (Or.inl ⟨by rfl,?_⟩) ?_ ?_
         rotate_left
         ·intro w'
          go_simp
          with_reducible rfl
         rotate_left
         ·simp only [Act.put,List.setIfInBounds_toArray,List.set_cons_zero,List.set_cons_succ,i64_w,i32_w]
          rfl
         refine pure_ (i := 13) (N := some 27) (v := ?_) (a' := ?_) #[true,true,true,true,true,true,false,true,true,true,true,false,false,true,false,false,false,false,false,false,false] rfl rfl (any_of HT_.out (by kernel_rfl)) (fun _ _ _ h => h) (Or.inl ⟨by rfl,?_⟩) ?_ ?_
         rotate_left
         ·intro w'
          go_simp
          with_reducible rfl
         rotate_left
         ·simp only [Act.put,List.setIfInBounds_toArray,List.set_cons_zero,List.set_cons_succ,i64_w,i32_w]
          rfl
         refine pure_ (i := 14) (N := some 28) (v := ?_) (a' := ?_) #[true,true,true,true,true,true,false,true,true,true,true,false,false,true,true,false,false,false,false,false,false] rfl rfl (any_of HT_.out (by kernel_rfl)) (fun _ _ _ h => h) (Or.inl ⟨by rfl,?_⟩) ?_ ?_
         rotate_left
         ·intro w'
          go_simp
          with_reducible rfl
         rotate_left
         ·simp only [Act.put,List.setIfInBounds_toArray,List.set_cons_zero,List.set_cons_succ,i64_w,i32_w]
          rfl
         refine pure_ (i := 15) (N := some 29) (v := ?_) (a' := ?_) #[true,true,true,true,true,true,false,true,true,true,true,false,false,true,true,true,false,false,false,false,false] rfl rfl (any_of HT_.out (by kernel_rfl)) (fun _ _ _ h => h) (Or.inl ⟨by rfl,?_⟩) ?_ ?_
         rotate_left
         ·intro w'
          go_simp
          with_reducible rfl
         rotate_left
         ·simp only [Act.put,List.setIfInBounds_toArray,List.set_cons_zero,List.set_cons_succ,i64_w,i32_w]
          rfl
         refine pure_ (i := 16) (N := some 30) (v := ?_) (a' := ?_) #[true,true,true,true,true,true,false,true,true,true,true,false,false,true,true,true,true,false,false,false,false] rfl rfl (any_of HT_.out (by kernel_rfl)) (fun _ _ _ h => h) (Or.inl ⟨by rfl,?_⟩) ?_ ?_
         rotate_left
         ·intro w'
          go_simp
          with_reducible rfl
         rotate_left
         ·simp only [Act.put,List.setIfInBounds_toArray,List.set_cons_zero,List.set_cons_succ,i64_w,i32_w]
          rfl
         refine take_ (i := 6) (N := some 20) (v := ?_) (a' := ?_) #[true,true,true,true,true,true,true,true,true,true,true,false,false,true,true,true,true,false,false,false,false] rfl rfl (take_ofW HT_.out HW_.out (by kernel_rfl)) (fun _ _ _ h => h) (Or.inl ⟨by rfl,?_⟩) hHeld ?_ ?_
         rotate_left
         ·rintro w' ⟨s0,s1,s2,s3,s4,s5,s6,s7,s8,s9,s10,s11⟩
          go_simp
          with_reducible rfl
         rotate_left
         ·simp only [Act.put,List.setIfInBounds_toArray,List.set_cons_zero,List.set_cons_succ,i64_w,i32_w]
          rfl
         refine take_ (i := 11) (N := some 25) (v := ?_) (a' := ?_) #[true,true,true,true,true,true,true,true,true,true,true,true,false,true,true,true,true,false,false,false,false] rfl rfl (take_ofW HT_.out HW_.out (by kernel_rfl)) (fun _ _ _ h => h) (Or.inl ⟨by rfl,?_⟩) hHeld ?_ ?_
         rotate_left
         ·rintro w' ⟨s0,s1,s2,s3,s4,s5,s6,s7,s8,s9,s10,s11⟩
          go_simp
          with_reducible rfl
         rotate_left
         ·simp only [Act.put,List.setIfInBounds_toArray,List.set_cons_zero,List.set_cons_succ,i64_w,i32_w]
          rfl
         refine pure_ (i := 12) (N := some 26) (v := ?_) (a' := ?_) #[true,true,true,true,true,true,true,true,true,true,true,true,true,true,true,true,true,false,false,false,false] rfl rfl (any_of HT_.out (by kernel_rfl)) (fun _ _ _ h => h) (Or.inl ⟨by rfl,?_⟩) ?_ ?_
         rotate_left
         ·intro w'
          go_simp
          with_reducible rfl
         rotate_left
         ·simp only [Act.put,List.setIfInBounds_toArray,List.set_cons_zero,List.set_cons_succ,i64_w,i32_w]
          rfl
         refine take_ (i := 17) (N := some 31) (v := ?_) (a' := ?_) #[true,true,true,true,true,true,true,true,true,true,true,true,true,true,true,true,true,true,false,false,false] rfl rfl (take_ofW HT_.out HW_.out (by kernel_rfl)) (fun _ _ _ h => h) (Or.inl ⟨by rfl,?_⟩) hHeld ?_ ?_
         rotate_left
         ·rintro w' ⟨s0,s1,s2,s3,s4,s5,s6,s7,s8,s9,s10,s11⟩
          go_simp
          with_reducible rfl
         rotate_left
         ·simp only [Act.put,List.setIfInBounds_toArray,List.set_cons_zero,List.set_cons_succ,i64_w,i32_w]
          rfl
         refine one_ (i := 18) (N := some 32) #[true,true,true,true,true,true,true,true,true,true,true,true,true,true,true,true,true,true,true,false,false] rfl rfl (one_of HT_.out (by kernel_rfl)) (by decide) (fun K hK => ?_)
         refine goes_ Tryd.func80 (by kernel_rfl) rfl #[.string (a0.extract (((rd_T60 t501 x5_1).f0) : Int).toNat (((rd_T60 t501 x5_1).f1) : Int).toNat),.int .i64 ((rd_T60 t501 x5_1).f2)] (by rfl) rfl rfl au1 ?_
         with_reducible refine (bodkinref03_drawn.calls (a0.extract (((rd_T60 t501 x5_1).f0) : Int).toNat (((rd_T60 t501 x5_1).f1) : Int).toNat) ((rd_T60 t501 x5_1).f2) t507 _ A9.out).mono ?_
         rintro e w13 ⟨rfl,hb⟩
         have HS0_ := (hb.cell (World.block_lt_of_cell? _ _ (hHeld.1))).trans (hHeld.1)
         have HS1_ := (hb.cell (World.block_lt_of_cell? _ _ (hHeld.2.1))).trans (hHeld.2.1)
         have HS2_ := (hb.cell (World.block_lt_of_cell? _ _ (hHeld.2.2.1))).trans (hHeld.2.2.1)
         have HS3_ := (hb.cell (World.block_lt_of_cell? _ _ (hHeld.2.2.2.1))).trans (hHeld.2.2.2.1)
         have HS4_ := (hb.cell (World.block_lt_of_cell? _ _ (hHeld.2.2.2.2.1))).trans (hHeld.2.2.2.2.1)
         have HS5_ := (hb.cell (World.block_lt_of_cell? _ _ (hHeld.2.2.2.2.2.1))).trans (hHeld.2.2.2.2.2.1)
         have HS6_ := (hb.cell (World.block_lt_of_cell? _ _ (hHeld.2.2.2.2.2.2.1))).trans (hHeld.2.2.2.2.2.2.1)
         have HS7_ := (hb.cell (World.block_lt_of_cell? _ _ (hHeld.2.2.2.2.2.2.2.1))).trans (hHeld.2.2.2.2.2.2.2.1)
         have HS8_ := (hb.cell (World.block_lt_of_cell? _ _ (hHeld.2.2.2.2.2.2.2.2.1))).trans (hHeld.2.2.2.2.2.2.2.2.1)
         have HS9_ := (hb.cell (World.block_lt_of_cell? _ _ (hHeld.2.2.2.2.2.2.2.2.2.1))).trans (hHeld.2.2.2.2.2.2.2.2.2.1)
         have HS10_ := (hb.cell (World.block_lt_of_cell? _ _ (hHeld.2.2.2.2.2.2.2.2.2.2.1))).trans (hHeld.2.2.2.2.2.2.2.2.2.2.1)
         have HS11_ := (hb.cell (World.block_lt_of_cell? _ _ (hHeld.2.2.2.2.2.2.2.2.2.2.2))).trans (hHeld.2.2.2.2.2.2.2.2.2.2.2)
         refine ⟨_,rfl,?_⟩
         have n0_ := Aside0.mk (Kd.R_below au8 hb)
         have n1_ := Aside0.mk (Kd.R_below au16 hb)
         have n2_ := Aside0.mk (below_step au0 hb)
         clear HO_3
         clear HO_4
         clear HB
         have HO_3 := n0_
         have HO_4 := n1_
         have HB := n2_
         clear n0_ n1_ n2_
         (try clear hb)
         (try clear hb2)
         (try clear hk)
         (try clear hi)
         refine hK.out _ _ ⟨HS0_,HS1_,HS2_,HS3_,HS4_,HS5_,HS6_,HS7_,HS8_,HS9_,HS10_,HS11_⟩ (fun hHeld => ?_)
         clear hK K
         refine norm_ (a' := ?_) ?_ ?_
         rotate_left
         ·show Act.put _ (some 32) _ = _
          simp only [Act.put,List.setIfInBounds_toArray,List.set_cons_zero,List.set_cons_succ,i64_w,i32_w]
          rfl
         refine last_ (i := 19) (N := some 33) #[true,true,true,true,true,true,true,true,true,true,true,true,true,true,true,true,true,true,true,true,false] rfl rfl (one_of HT_.out (by kernel_rfl)) (by decide) (fun K hK => ?_)
         refine print_append_str_step (w0 := w) w.heap.size (by rfl) (.tmp 14) _ 74 9 5 rfl Tryd.underlying74 Tryd.underlying9 info5 u3 x3_1 t507 rfl rfl ?aO ?aB ?aS ?aL ?_
         (case aB => exact au0)
         (case aO => exact (Kd.own_of_R au8))
         (case aS => exact (below_size au0))
         (case aL => have := LMc10.out;omega)
         intro v509 w14 ho0 hb hg
         have ho := Kd.R_of_own (h1 := fun _ => rfl) (ok := fun _ => True) ho0 (fun _ _ => trivial)
         clear ho0
         have hat := True.intro
         rw [← Ny508.out] at ho
         change Kd.R (Kd.int .u8) 5 w14 w.heap.size (fun _ => True) v509 y508 at ho
         have n0_ := Aside0.mk (Kd.R_over' au16 (Kd.R_typed au8) (by decide) hg)
         have n1_ := Aside0.mk (hb)
         have n2_ := Aside0.mk (ho)
         clear HO_4
         clear HB
         clear HO_3
         have HO_4 := n0_
         have HB := n1_
         have HO510 := n2_
         clear n0_ n1_ n2_
         clear ho hb hg hat
         refine hK.out _ _ ?_
         clear hK K
         refine norm_ (a' := ?_) ?_ ?_
         rotate_left
         ·show Act.put _ (some 33) _ = _
          simp only [Act.put,List.setIfInBounds_toArray,List.set_cons_zero,List.set_cons_succ,i64_w,i32_w]
          rfl
         refine pure_ (i := 20) (N := some 3) (v := ?_) (a' := ?_) #[true,true,true,true,true,true,true,true,true,true,true,true,true,true,true,true,true,true,true,true,true] rfl rfl (any_of HT_.out (by kernel_rfl)) (fun _ _ _ h => h) (Or.inl ⟨by rfl,?_⟩) ?_ ?_
         rotate_left
         ·intro w'
          go_simp
          with_reducible rfl
         rotate_left
         ·simp only [Act.put,List.setIfInBounds_toArray,List.set_cons_zero,List.set_cons_succ,i64_w,i32_w]
          rfl
         refine done_ (done_of HT_.out (by kernel_rfl)) ?_
         try go_wp2
         go_roundg k1
         case measure => have := HK1.out;omega
         case rel => exact ⟨(y508),(wrap64 (x5_1 + 1)),au4,H',⟨by have := HK1.out;omega⟩,⟨by (with_reducible repeat (first | apply Kd.R_alloc | apply Kd.R_drewN | apply Kd.R_drew));exact HO510.out⟩,⟨by (with_reducible repeat (first | apply Kd.R_alloc | apply Kd.R_drewN | apply Kd.R_drew));exact HO_4.out⟩,⟨au0⟩⟩
        ·rw [if_neg c10] at H
         exact absurd H (by simp)
       ·rw [if_neg c8] at H
        exact absurd H (by simp)
      ·rw [if_neg c7] at H
       exact absurd H (by simp)
     ·rw [if_neg c6] at H
      exact absurd H (by simp)
    ·rw [if_neg c5] at H
     exact absurd H (by simp)
   ·rw [if_neg c4] at H
    have c4b0 : decide (x5_1 < (t501.length : Int)) = false := decide_eq_false c4
    clear c4
    obtain rfl := Option.some.inj H
    obtain ⟨Ao15,co15,eo15⟩ := Kd.R_slice HO_4.out
    subst eo15
    have hcv16 := own_string (P := Tryd.prog) Tryd.underlying74 Tryd.underlying5 Tryd.underlying9 (Kd.own_of_R HO_3.out)
    go_wp2
    go_ret
    exact ⟨au2,au0⟩
end Go.Proofs.YtnpjaaldppemlaaDoor.U
end
section
namespace Go.Proofs.YtnpjaaldppemlaaDoor.U
open Go.RowKit Go.Proofs.YtnpjaaldppemlaaDoorW.PrintWords Go.Proofs.YtnpjaaldppemlaaDoorW.PrintLast Go.Proofs.YtnpjaaldppemlaaDoorW.PrintMore
attribute [local go_sem] max2_int min2_int max_two min_two max_three min_three max_four min_four   -- for this text's walks alone
set_option linter.unusedVariables false
set_option linter.unusedSimpArgs false
def bodkinref20_Counted.f (a0 : Int) : Option (Int) := some (mn (mx a0 1) 65535)
set_option maxHeartbeats 8000000 in
set_option maxRecDepth 100000 in
theorem bodkinref20_Counted.calls (a0 : Int) (r : Int) (w : World) (h : bodkinref20_Counted.f a0 = some r) :
  Calls Tryd.prog 44 #[.int .i64 a0] w fun e w' => e = .returned (.int .i64 r) ∧ Below w.heap.size w w' := by
 have HB := Aside0.mk (Below.refl w.heap.size w)
 have H : (some (mn (mx a0 1) 65535)) = some r := h
 clear h
 obtain ⟨ji2,hji2⟩ : ∃ j_ : Int,(mx a0 1) = j_ := ⟨_,rfl⟩
 replace H : (some (mn (ji2) 65535)) = some r := by first | (rw [hji2] at H;exact H) | (simp only [hji2] at H ⊢;exact H)
 (try (have hji2l : 1 ≤ ji2 := by (rw [← hji2];unfold mx;(repeat' split) <;> omega)))
 (try (have hji2m : 0 ≤ ji2 := by omega))
 have hji2_ : (if a0 < 1 then 1 else a0) = ji2 := hji2
 obtain ⟨ji3,hji3⟩ : ∃ j_ : Int,(mn (ji2) 65535) = j_ := ⟨_,rfl⟩
 replace H : (some ji3) = some r := by first | (rw [hji3] at H;exact H) | (simp only [hji3] at H ⊢;exact H)
 have hji3_ : (if 65535 < (ji2) then 65535 else (ji2)) = ji3 := hji3
 obtain rfl := Option.some.inj H
 go_enter Tryd.func44,Tryd.ntmps44
 go_wp2
 go_ret
 exact ⟨by first | rfl | (simp [errW_none,errW_some] <;> rfl) | (simp only [← hji2,← hji3];first | rfl | (simp [errW_none,errW_some] <;> rfl)) | (simp [*,errW_none,errW_some] <;> rfl),au0⟩
end Go.Proofs.YtnpjaaldppemlaaDoor.U
end
