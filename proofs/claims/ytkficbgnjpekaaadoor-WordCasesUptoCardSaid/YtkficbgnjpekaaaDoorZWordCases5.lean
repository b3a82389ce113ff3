/- What the law WordCases reaches of this seat's own texts, merged; what nothing uses is left out. -/
import Derived.Test.YtkficbgnjpekaaaDoorZWordCases0
import Derived.Test.YtkficbgnjpekaaaDoorZWordCases2
import Derived.Test.YtkficbgnjpekaaaDoorZWordCases3
import Derived.Test.YtkficbgnjpekaaaDoorZWordCases4
section
namespace Go.Proofs.YtkficbgnjpekaaaDoor.U
open Go.RowKit Go.Proofs.YtkficbgnjpekaaaDoorW.PrintWords Go.Proofs.YtkficbgnjpekaaaDoorW.PrintLast Go.Proofs.YtkficbgnjpekaaaDoorW.PrintMore
attribute [local go_sem] max2_int min2_int max_two min_two max_three min_three max_four min_four   -- for this text's walks alone
set_option linter.unusedVariables false
set_option linter.unusedSimpArgs false
mutual
def bodkinref03_List.l0 : Nat → List (S61) → List (S42) → Int → Int → Option ((List (S61)))
 | 0,_,_,_,_ => none
 | k + 1,x3,x4,x5,x6 => if x6 < (x4.length : Int) then (if x6 > 0 then (if 0 ≤ (wrap64 (x6 - 1)) then (if (wrap64 (x6 - 1)) < (x4.length : Int) then (if 0 ≤ x6 then ((bodkinref03_joined.f k ((rd_T42 x4 (wrap64 (x6 - 1))).f0) ((rd_T42 x4 (wrap64 (x6 - 1))).f1) ((rd_T42 x4 x6).f0) ((rd_T42 x4 x6).f1)).bind fun t275 => (bodkinref03_List.j1 k x3 x4 x5 x6 t275)) else (none)) else (none)) else (none)) else (bodkinref03_List.j1 k x3 x4 x5 x6 false)) else (some x3)
def bodkinref03_List.j1 : Nat → List (S61) → List (S42) → Int → Int → Bool → Option ((List (S61)))
 | 0,_,_,_,_,_ => none
 | k + 1,x3,x4,x5,x6,x30 => if x30 = true then (if 0 ≤ (wrap64 ((x3.length : Int) - 1)) then (if (wrap64 ((x3.length : Int) - 1)) < (x3.length : Int) then (if 0 ≤ x6 then (if x6 < (x4.length : Int) then (if ((rd_T42 x4 x6).f0) = 10 then (bodkinref03_List.l0 k (x3.set ((wrap64 ((x3.length : Int) - 1)) : Int).toNat (⟨(rd_T61 x3 (wrap64 ((x3.length : Int) - 1))).f0,wrap64 (x5 + ((rd_T42 x4 x6).f1)),1,0⟩ : S61)) x4 (wrap64 (x5 + ((rd_T42 x4 x6).f1))) (wrap64 (x6 + 1))) else (bodkinref03_List.l0 k (x3.set ((wrap64 ((x3.length : Int) - 1)) : Int).toNat (⟨(rd_T61 x3 (wrap64 ((x3.length : Int) - 1))).f0,wrap64 (x5 + ((rd_T42 x4 x6).f1)),(rd_T61 x3 (wrap64 ((x3.length : Int) - 1))).f2,(rd_T61 x3 (wrap64 ((x3.length : Int) - 1))).f3⟩ : S61)) x4 (wrap64 (x5 + ((rd_T42 x4 x6).f1))) (wrap64 (x6 + 1)))) else (none)) else (none)) else (none)) else (none)) else (if 0 ≤ x6 then (if x6 < (x4.length : Int) then ((bodkinref02_Class.f k ((rd_T42 x4 x6).f0)).bind fun t286 => ((bodkinref02_Cells.f k ((rd_T42 x4 x6).f0)).bind fun t287 => (if x3.length < 4398046511104 then (bodkinref03_List.l0 k (x3 ++ [(⟨x5,wrap64 (x5 + ((rd_T42 x4 x6).f1)),t286,t287⟩ : S61)]) x4 (wrap64 (x5 + ((rd_T42 x4 x6).f1))) (wrap64 (x6 + 1))) else (none)))) else (none)) else (none))
end
def bodkinref03_List.f (k : Nat) (a0 : ByteArray) : Option ((List (S61))) := (bodkinref01_Units.f k a0).bind fun t270 => (bodkinref03_List.l0 k ([] : List (S61)) t270 0 0)
def bodkinref03_List.T7 : Bool × List (List Nat × List Nat) := (true,[([],[]),([0],[0]),([1],[1]),([2],[2]),([2],[2]),([4,2],[2,4]),([3,5,2],[2,3,5]),([6,2],[2,6]),([2],[2]),([2],[2]),([8,9,2],[2,8,9]),([10,2],[2,10]),([7,11,2,2],[2,7,11]),([2,12],[2,12])])
def bodkinref03_List.B7 : List Nat := [0,1,3,7,7,23,63,127,7,7,775,1799,4095,8191]
theorem bodkinref03_List.tab7 : rtab .any (opsOf Tryd.f44 7) = bodkinref03_List.T7 := by kernel_rfl
theorem bodkinref03_List.bits7 : waitsOk bodkinref03_List.T7.2 bodkinref03_List.B7 = true := by kernel_rfl
def bodkinref03_List.T15 : Bool × List (List Nat × List Nat) := (true,[([],[]),([],[]),([],[]),([],[]),([],[]),([3,4],[3,4]),([5],[5]),([6],[6]),([2,7],[2,7]),([],[]),([9],[9]),([],[]),([11,10],[11]),([1,8,10,12],[1,8,10,12]),([13],[13]),([0,14,12],[0,14]),([15,15,0,1,2,3,4,5,6,7,8,9,10,11,12,13,14,15],[0,15])])
def bodkinref03_List.B15 : List Nat := [0,0,0,0,0,24,56,120,252,0,512,0,3584,8190,16382,32767,65535]
theorem bodkinref03_List.tab15 : rtab .any (opsOf Tryd.f44 15) = bodkinref03_List.T15 := by kernel_rfl
theorem bodkinref03_List.bits15 : waitsOk bodkinref03_List.T15.2 bodkinref03_List.B15 = true := by kernel_rfl
set_option maxHeartbeats 8000000 in
set_option maxRecDepth 100000 in
theorem bodkinref03_List.calls (k : Nat) (a0 : ByteArray) (r : List (S61)) (w : World) (h : bodkinref03_List.f k a0 = some r) :
  Calls Tryd.prog 44 #[.string a0] w fun e w' => ∃ v0_ : Value,e = .returned (v0_) ∧ Kd.R k61 61 w' w.heap.size (fun _ => True) v0_ r ∧ Below w.heap.size w w' := by
 have hu42 := Tryd.underlying42
 have hu61 := Tryd.underlying61
 have HB := Aside0.mk (Below.refl w.heap.size w)
 have H : ((bodkinref01_Units.f k a0).bind fun t270 => (bodkinref03_List.l0 k ([] : List (S61)) t270 0 0)) = some r := h
 clear h
 replace H := Option.bind_eq_some_iff.mp H
 obtain ⟨t270,A20,H⟩ := H
 replace H : (bodkinref03_List.l0 k ([] : List (S61)) t270 0 0) = some r := H
 have A2 := Aside0.mk A20
 clear A20
 have H' := Aside0.mk H
 clear H
 go_enter Tryd.func44,Tryd.ntmps44
 go_wp2_with (first | ((with_reducible refine gate_callee (f := 66) rfl ?_);refine goesL_ (some 10) rfl rfl Tryd.func66 (by kernel_rfl) rfl #[.string a0] rfl au1 ?_;(with_reducible refine (bodkinref01_Units.calls k a0 t270 _ A2.out).mono ?_);rintro e w3 ⟨v271,rfl,ho0,hb⟩;refine ⟨_,rfl,?_⟩;have n0_ := Aside0.mk (Kd.R_lower ho0 (below_size au0));have n1_ := Aside0.mk (below_step au0 hb);clear HB;have HO272 := n0_;have HB := n1_;clear n0_ n1_;(try clear hb);(try clear hb2);(try clear hk);(try clear hi);(try clear ho0)))
 go_loopg [3,5,6] k (fun kq v3 v5 v6 w' => ∃ (x3_1 : List (S61)) (x5_1 : Int) (x6_1 : Int),v5 = .int .i64 x5_1 ∧ v6 = .int .i64 x6_1 ∧ Aside0 (bodkinref03_List.l0 kq x3_1 t270 x5_1 x6_1 = some r) ∧ Aside0 (kq ≤ k) ∧ Aside0 (Kd.R k61 61 w' w.heap.size (fun _ => True) v3 x3_1) ∧ Aside0 (Kd.R k42 42 w' w.heap.size (fun _ => True) v271 t270) ∧ Aside0 (Below w.heap.size w w'))
 case atStart => exact ⟨(([] : List (S61))),(0),(0),au3,au3,H',⟨Nat.le_refl _⟩,⟨by first | exact Kd.R_nil _ _ _ _ _ | exact Kd.N_nil _ _ _ _ _ | exact Kd.V_nil _ _ _ _ _ | exact Kd.Q_nil _ _ _ _ _ | exact Kd.S_nil _ _ _ _ _⟩,⟨by (with_reducible repeat (first | apply Kd.R_alloc | apply Kd.R_drewN | apply Kd.R_drew));exact HO272.out⟩,⟨au0⟩⟩
 case round =>
  clear H'
  try clear p2
  obtain ⟨x3_1,x5_1,x6_1,rfl,rfl,HA,HK1,HO_3,HO_4,HB⟩ := hrel
  cases gk with
  | zero => exact absurd HA.out (by simp [bodkinref03_List.l0])
  | succ k1 =>
   have H := HA.out
   clear HA
   simp only [bodkinref03_List.l0] at H
   by_cases c4 : x6_1 < (t270.length : Int)
   ·rw [if_pos c4] at H
    have c4b0 : decide (x6_1 < (t270.length : Int)) = true := decide_eq_true c4
    clear c4
    have HC5 := Aside0.mk H
    clear H
    obtain ⟨Ao6,co6,eo6⟩ := Kd.R_slice HO_4.out
    subst eo6
    go_upto_region 7 with (fail)
    go_cut [30] (fun v30 wc => ∃ (kq : Nat) (x30_4 : Bool),v30 = .bool x30_4 ∧ Aside0 (bodkinref03_List.j1 kq x3_1 t270 x5_1 x6_1 x30_4 = some r) ∧ Aside0 (kq ≤ k1) ∧ Aside0 (Kd.R k61 61 wc w.heap.size (fun _ => True) u3 x3_1) ∧ Aside0 (Kd.R k42 42 wc w.heap.size (fun _ => True) (.slice Ao6 t270.length co6) t270) ∧ Aside0 (Below w.heap.size w wc))
    case first =>
     have H := HC5.out
     clear HC5
     by_cases c7 : x6_1 > 0
     ·rw [if_pos c7] at H
      have c7b0 : decide (0 < x6_1) = true := decide_eq_true c7
      clear c7
      (first | rw [c7b0] | (simp only [i64_w,i32_w];rw [c7b0]) | skip)
      obtain ⟨ji8,hji8⟩ : ∃ j_ : Int,(wrap64 (x6_1 - 1)) = j_ := ⟨_,rfl⟩
      replace H : (if 0 ≤ (ji8) then (if (ji8) < (t270.length : Int) then (if 0 ≤ x6_1 then ((bodkinref03_joined.f k1 ((rd_T42 t270 (ji8)).f0) ((rd_T42 t270 (ji8)).f1) ((rd_T42 t270 x6_1).f0) ((rd_T42 t270 x6_1).f1)).bind fun t275 => (bodkinref03_List.j1 k1 x3_1 t270 x5_1 x6_1 t275)) else (none)) else (none)) else (none)) = some r := by first | (rw [hji8] at H;exact H) | (simp only [hji8] at H ⊢;exact H)
      have hji8w : (IntKind.i64.wrap (x6_1 - 1)) = ji8 := (i64_w _).trans hji8
      by_cases c9 : 0 ≤ (ji8)
      ·rw [if_pos c9] at H
       have c9b0 : decide (0 ≤ (ji8)) = true := decide_eq_true c9
       clear c9
       by_cases c10 : (ji8) < (t270.length : Int)
       ·rw [if_pos c10] at H
        have c10b0 : decide ((ji8) < (t270.length : Int)) = true := decide_eq_true c10
        clear c10
        by_cases c11 : 0 ≤ x6_1
        ·rw [if_pos c11] at H
         have c11b0 : decide (0 ≤ x6_1) = true := decide_eq_true c11
         clear c11
         replace H := Option.bind_eq_some_iff.mp H
         obtain ⟨t275,A120,H⟩ := H
         replace H : (bodkinref03_List.j1 k1 x3_1 t270 x5_1 x6_1 t275) = some r := H
         have A12 := Aside0.mk A120
         clear A120
         have H' := Aside0.mk H
         clear H
         try go_wp2
         have n0_ := Aside0.mk (Kd.R_drew HO_3.out)
         have n1_ := Aside0.mk (Kd.R_drew HO_4.out)
         have n2_ := Aside0.mk (below_drew1 HB.out)
         clear HO_3
         clear HO_4
         clear HB
         have HO_3 := n0_
         have HO_4 := n1_
         have HB := n2_
         clear n0_ n1_ n2_
         have p273 : 0 ≤ ((ji8) : Int) := of_decide_eq_true au4
         have q273 : (ji8) < (t270.length : Int) := of_decide_eq_true au4
         obtain ⟨ad273,e273,hx273_0,hx273_1⟩ := at_T42 (Kd.R_reads' HO_4.out).2.2 (ji8) p273 q273
         cases e273
         replace p273 := eq_true p273
         replace q273 := eq_true q273
         have p274 : 0 ≤ (x6_1 : Int) := of_decide_eq_true au4
         have q274 : x6_1 < (t270.length : Int) := of_decide_eq_true au4
         obtain ⟨ad274,e274,hx274_0,hx274_1⟩ := at_T42 (Kd.R_reads' HO_4.out).2.2 x6_1 p274 q274
         obtain rfl : ad273 = ad274 := (by injection e274)
         replace p274 := eq_true p274
         replace q274 := eq_true q274
         refine start_ (n := 14) (S := fun w' => w'.cell? (ad273.add (((ji8)).toNat * 2)) = some (.int .i32 ((rd_T42 t270 (ji8)).f0)) ∧ w'.cell? ⟨(ad273.add (((ji8)).toNat * 2)).block,(ad273.add (((ji8)).toNat * 2)).off + 1,none⟩ = some (.int .i64 ((rd_T42 t270 (ji8)).f1)) ∧ w'.cell? (ad273.add ((x6_1).toNat * 2)) = some (.int .i32 ((rd_T42 t270 x6_1).f0)) ∧ w'.cell? ⟨(ad273.add ((x6_1).toNat * 2)).block,(ad273.add ((x6_1).toNat * 2)).off + 1,none⟩ = some (.int .i64 ((rd_T42 t270 x6_1).f1))) (ds := []) #[false,false,false,false,false,false,false,false,false,false,false,false,false,false] (by kernel_rfl) rfl rfl ⟨hx273_0,hx273_1,hx274_0,hx274_1⟩ (fun hHeld => ?_);refine with_tabW bodkinref03_List.tab7 bodkinref03_List.bits7 (fun HT_ HW_ => ?_)
         generalize wr.drew = w13 at HO_3 HO_4 HB hx273_0 hx273_1 hx274_0 hx274_1 hHeld ⊢
         refine pure_ (i := 0) (N := some 17) (v := ?_) (a' := ?_) #[true,false,false,false,false,false,false,false,false,false,false,false,false,false] rfl rfl (any_of HT_.out (by kernel_rfl)) (fun _ _ _ h => h) (Or.inl ⟨by rfl,?_⟩) ?_ ?_
         rotate_left
         ·intro w'
          go_simp
          with_reducible rfl
         rotate_left
         ·simp only [Act.put,List.setIfInBounds_toArray,List.set_cons_zero,List.set_cons_succ,i64_w,i32_w]
          rfl
         refine pure_ (i := 1) (N := some 18) (v := ?_) (a' := ?_) #[true,true,false,false,false,false,false,false,false,false,false,false,false,false] rfl rfl (any_of HT_.out (by kernel_rfl)) (fun _ _ _ h => h) (Or.inl ⟨by rfl,?_⟩) ?_ ?_
         rotate_left
         ·intro w'
          go_simp
          with_reducible rfl
         rotate_left
         ·simp only [Act.put,List.setIfInBounds_toArray,List.set_cons_zero,List.set_cons_succ,i64_w,i32_w]
          rfl
         refine pure_ (i := 2) (N := some 19) (v := ?_) (a' := ?_) #[true,true,true,false,false,false,false,false,false,false,false,false,false,false] rfl rfl (any_of HT_.out (by kernel_rfl)) (fun _ _ _ h => h) (Or.inl ⟨by rfl,?_⟩) ?_ ?_
         rotate_left
         ·intro w'
          go_simp
          with_reducible rfl
         rotate_left
         ·simp only [Act.put,List.setIfInBounds_toArray,List.set_cons_zero,List.set_cons_succ,i64_w,i32_w]
          rfl
         refine pure_ (i := 3) (N := some 20) (v := ?_) (a' := ?_) #[true,true,true,true,false,false,false,false,false,false,false,false,false,false] rfl rfl (any_of HT_.out (by kernel_rfl)) (fun _ _ _ h => h) (Or.inl ⟨by rfl,?_⟩) ?_ ?_
         rotate_left
         ·intro w'
          go_simp
          with_reducible rfl
         rotate_left
         ·simp only [Act.put,List.setIfInBounds_toArray,List.set_cons_zero,List.set_cons_succ,i64_w,i32_w]
          rfl
         refine pure_ (i := 4) (N := some 21) (v := ?_) (a' := ?_) #[true,true,true,true,true,false,false,false,false,false,false,false,false,false] rfl rfl (any_of HT_.out (by kernel_rfl)) (fun _ _ _ h => h) (Or.inl ⟨by rfl,?_⟩) ?_ ?_
         rotate_left
         ·intro w'
          go_simp
          with_reducible rfl
         rotate_left
         ·simp only [Act.put,List.setIfInBounds_toArray,List.set_cons_zero,List.set_cons_succ,i64_w,i32_w]
          rfl
         refine pure_ (i := 5) (N := some 22) (v := ?_) (a' := ?_) #[true,true,true,true,true,true,false,false,false,false,false,false,false,false] rfl rfl (any_of HT_.out (by kernel_rfl)) (fun _ _ _ h => h) (Or.inl ⟨by rfl,?_⟩) ?_ ?_
         rotate_left
         ·intro w'
          go_simp
          with_reducible rfl
         rotate_left
         ·simp only [Act.put,List.setIfInBounds_toArray,List.set_cons_zero,List.set_cons_succ,i64_w,i32_w]
          rfl
         refine pure_ (i := 6) (N := some 23) (v := ?_) (a' := ?_) #[true,true,true,true,true,true,true,false,false,false,false,false,false,false] rfl rfl (any_of HT_.out (by kernel_rfl)) (fun _ _ _ h => h) (Or.inl ⟨by rfl,?_⟩) ?_ ?_
         rotate_left
         ·intro w'
          go_simp
          with_reducible rfl
         rotate_left
         ·simp only [Act.put,List.setIfInBounds_toArray,List.set_cons_zero,List.set_cons_succ,i64_w,i32_w]
          rfl
         refine pure_ (i := 8) (N := some 25) (v := ?_) (a' := ?_) #[true,true,true,true,true,true,true,false,true,false,false,false,false,false] rfl rfl (any_of HT_.out (by kernel_rfl)) (fun _ _ _ h => h) (Or.inl ⟨by rfl,?_⟩) ?_ ?_
         rotate_left
         ·intro w'
          go_simp
          with_reducible rfl
         rotate_left
         ·simp only [Act.put,List.setIfInBounds_toArray,List.set_cons_zero,List.set_cons_succ,i64_w,i32_w]
          rfl
         refine pure_ (i := 9) (N := some 26) (v := ?_) (a' := ?_) #[true,true,true,true,true,true,true,false,true,true,false,false,false,false] rfl rfl (any_of HT_.out (by kernel_rfl)) (fun _ _ _ h => h) (Or.inl ⟨by rfl,?_⟩) ?_ ?_
         rotate_left
         ·intro w'
          go_simp
          with_reducible rfl
         rotate_left
         ·simp only [Act.put,List.setIfInBounds_toArray,List.set_cons_zero,List.set_cons_succ,i64_w,i32_w]
          rfl
         refine pure_ (i := 10) (N := some 27) (v := ?_) (a' := ?_) #[true,true,true,true,true,true,true,false,true,true,true,false,false,false] rfl rfl (any_of HT_.out (by kernel_rfl)) (fun _ _ _ h => h) (Or.inl ⟨by rfl,?_⟩) ?_ ?_
         rotate_left
         ·intro w'
          go_simp
          with_reducible rfl
         rotate_left
         ·simp only [Act.put,List.setIfInBounds_toArray,List.set_cons_zero,List.set_cons_succ,i64_w,i32_w]
          rfl
         refine take_ (i := 7) (N := some 24) (v := ?_) (a' := ?_) #[true,true,true,true,true,true,true,true,true,true,true,false,false,false] rfl rfl (take_ofW HT_.out HW_.out (by kernel_rfl)) (fun _ _ _ h => h) (Or.inl ⟨by rfl,?_⟩) hHeld ?_ ?_
         rotate_left
         ·rintro w' ⟨s0,s1,s2,s3⟩
          go_simp
          with_reducible rfl
         rotate_left
         ·simp only [Act.put,List.setIfInBounds_toArray,List.set_cons_zero,List.set_cons_succ,i64_w,i32_w]
          rfl
         refine take_ (i := 11) (N := some 28) (v := ?_) (a' := ?_) #[true,true,true,true,true,true,true,true,true,true,true,true,false,false] rfl rfl (take_ofW HT_.out HW_.out (by kernel_rfl)) (fun _ _ _ h => h) (Or.inl ⟨by rfl,?_⟩) hHeld ?_ ?_
         rotate_left
         ·rintro w' ⟨s0,s1,s2,s3⟩
          go_simp
          with_reducible rfl
         rotate_left
         ·simp only [Act.put,List.setIfInBounds_toArray,List.set_cons_zero,List.set_cons_succ,i64_w,i32_w]
          rfl
         refine one_ (i := 12) (N := some 29) #[true,true,true,true,true,true,true,true,true,true,true,true,true,false] rfl rfl (one_of HT_.out (by kernel_rfl)) (by decide) (fun K hK => ?_)
         refine goes_ Tryd.func67 (by kernel_rfl) rfl #[.agg #[.int .i32 ((rd_T42 t270 (ji8)).f0),.int .i64 ((rd_T42 t270 (ji8)).f1)],.agg #[.int .i32 ((rd_T42 t270 x6_1).f0),.int .i64 ((rd_T42 t270 x6_1).f1)]] (by rfl) rfl rfl (by (try simp only [List.map_toArray,List.map_cons,List.map_nil]);first | done | (simp only [hji8];rfl) | rfl | (simp only [List.length_drop,List.length_take];rfl)) ?_
         with_reducible refine (bodkinref03_joined.calls k1 ((rd_T42 t270 (ji8)).f0) ((rd_T42 t270 (ji8)).f1) ((rd_T42 t270 x6_1).f0) ((rd_T42 t270 x6_1).f1) t275 _ A12.out).mono ?_
         rintro e w14 ⟨rfl,hb⟩
         have HS0_ := (hb.cell (World.block_lt_of_cell? _ _ (hHeld.1))).trans (hHeld.1)
         have HS1_ := (hb.cell (World.block_lt_of_cell? _ _ (hHeld.2.1))).trans (hHeld.2.1)
         have HS2_ := (hb.cell (World.block_lt_of_cell? _ _ (hHeld.2.2.1))).trans (hHeld.2.2.1)
         have HS3_ := (hb.cell (World.block_lt_of_cell? _ _ (hHeld.2.2.2))).trans (hHeld.2.2.2)
         refine ⟨_,rfl,?_⟩
         have n0_ := Aside0.mk (Kd.R_below au5 hb)
         have n1_ := Aside0.mk (Kd.R_below au8 hb)
         have n2_ := Aside0.mk (below_step au0 hb)
         clear HO_3
         clear HO_4
         clear HB
         have HO_3 := n0_
         have HO_4 := n1_
         have HB := n2_
         clear n0_ n1_ n2_
         (try clear hb)
         (try clear hb2)
         (try clear hk)
         (try clear hi)
         refine hK.out _ _ ⟨HS0_,HS1_,HS2_,HS3_⟩ (fun hHeld => ?_)
         clear hK K
         refine norm_ (a' := ?_) ?_ ?_
         rotate_left
         ·show Act.put _ (some 29) _ = _
          simp only [Act.put,List.setIfInBounds_toArray,List.set_cons_zero,List.set_cons_succ,i64_w,i32_w]
          rfl
         refine pure_ (i := 13) (N := some 30) (v := ?_) (a' := ?_) #[true,true,true,true,true,true,true,true,true,true,true,true,true,true] rfl rfl (any_of HT_.out (by kernel_rfl)) (fun _ _ _ h => h) (Or.inl ⟨by rfl,?_⟩) ?_ ?_
         rotate_left
         ·intro w'
          go_simp
          with_reducible rfl
         rotate_left
         ·simp only [Act.put,List.setIfInBounds_toArray,List.set_cons_zero,List.set_cons_succ,i64_w,i32_w]
          rfl
         refine done_ (done_of HT_.out (by kernel_rfl)) ?_
         try go_wp2
         go_meet
         case rel => exact ⟨_,(t275),au3,H',⟨by have := HK1.out;first | omega | exact Nat.le_refl _⟩,⟨by (with_reducible repeat (first | apply Kd.R_alloc | apply Kd.R_drewN | apply Kd.R_drew));exact HO_3.out⟩,⟨by (with_reducible repeat (first | apply Kd.R_alloc | apply Kd.R_drewN | apply Kd.R_drew));exact HO_4.out⟩,⟨au0⟩⟩
        ·rw [if_neg c11] at H
         exact absurd H (by simp)
       ·rw [if_neg c10] at H
        exact absurd H (by simp)
      ·rw [if_neg c9] at H
       exact absurd H (by simp)
     ·rw [if_neg c7] at H
      have c7b0 : decide (0 < x6_1) = false := decide_eq_false c7
      clear c7
      (first | rw [c7b0] | (simp only [i64_w,i32_w];rw [c7b0]) | skip)
      have H' := Aside0.mk H
      clear H
      try go_wp2
      have n0_ := Aside0.mk (Kd.R_drew HO_3.out)
      have n1_ := Aside0.mk (Kd.R_drew HO_4.out)
      have n2_ := Aside0.mk (below_drew1 HB.out)
      clear HO_3
      clear HO_4
      clear HB
      have HO_3 := n0_
      have HO_4 := n1_
      have HB := n2_
      clear n0_ n1_ n2_
      refine start_ (n := 14) (S := fun w' => True) (ds := []) #[false,false,false,false,false,false,false,false,false,false,false,false,false,false] (by kernel_rfl) rfl rfl trivial (fun hHeld => ?_);refine with_tabW bodkinref03_List.tab7 bodkinref03_List.bits7 (fun HT_ HW_ => ?_)
      generalize wr.drew = w15 at HO_3 HO_4 HB hHeld ⊢
      refine pure_ (i := 0) (N := some 17) (v := ?_) (a' := ?_) #[true,false,false,false,false,false,false,false,false,false,false,false,false,false] rfl rfl (any_of HT_.out (by kernel_rfl)) (fun _ _ _ h => h) (Or.inl ⟨by rfl,?_⟩) ?_ ?_
      rotate_left
      ·intro w'
       go_simp
       with_reducible rfl
      rotate_left
      ·simp only [Act.put,List.setIfInBounds_toArray,List.set_cons_zero,List.set_cons_succ,i64_w,i32_w]
       rfl
      refine pure_ (i := 1) (N := some 18) (v := ?_) (a' := ?_) #[true,true,false,false,false,false,false,false,false,false,false,false,false,false] rfl rfl (any_of HT_.out (by kernel_rfl)) (fun _ _ _ h => h) (Or.inl ⟨by rfl,?_⟩) ?_ ?_
      rotate_left
      ·intro w'
       go_simp
       with_reducible rfl
      rotate_left
      ·simp only [Act.put,List.setIfInBounds_toArray,List.set_cons_zero,List.set_cons_succ,i64_w,i32_w]
       rfl
      refine pure_ (i := 2) (N := some 19) (v := ?_) (a' := ?_) #[true,true,true,false,false,false,false,false,false,false,false,false,false,false] rfl rfl (any_of HT_.out (by kernel_rfl)) (fun _ _ _ h => h) (Or.inl ⟨by rfl,?_⟩) ?_ ?_
      rotate_left
      ·intro w'
       go_simp
       with_reducible rfl
      rotate_left
      ·simp only [Act.put,List.setIfInBounds_toArray,List.set_cons_zero,List.set_cons_succ,i64_w,i32_w]
       rfl
      refine pure_ (i := 3) (N := some 20) (v := undef) (a' := ?_) #[true,true,true,true,false,false,false,false,false,false,false,false,false,false] rfl rfl (any_of HT_.out (by kernel_rfl)) (fun _ _ _ h => h) (Or.inr ⟨by rfl,rfl⟩) ?_ ?_
      rotate_left
      ·simp only [Act.put,List.setIfInBounds_toArray,List.set_cons_zero,List.set_cons_succ,i64_w,i32_w]
       rfl
      refine pure_ (i := 4) (N := some 21) (v := undef) (a' := ?_) #[true,true,true,true,true,false,false,false,false,false,false,false,false,false] rfl rfl (any_of HT_.out (by kernel_rfl)) (fun _ _ _ h => h) (Or.inr ⟨by rfl,rfl⟩) ?_ ?_
      rotate_left
      ·simp only [Act.put,List.setIfInBounds_toArray,List.set_cons_zero,List.set_cons_succ,i64_w,i32_w]
       rfl
      refine pure_ (i := 5) (N := some 22) (v := undef) (a' := ?_) #[true,true,true,true,true,true,false,false,false,false,false,false,false,false] rfl rfl (any_of HT_.out (by kernel_rfl)) (fun _ _ _ h => h) (Or.inr ⟨by rfl,rfl⟩) ?_ ?_
      rotate_left
      ·simp only [Act.put,List.setIfInBounds_toArray,List.set_cons_zero,List.set_cons_succ,i64_w,i32_w]
       rfl
      refine pure_ (i := 6) (N := some 23) (v := undef) (a' := ?_) #[true,true,true,true,true,true,true,false,false,false,false,false,false,false] rfl rfl (any_of HT_.out (by kernel_rfl)) (fun _ _ _ h => h) (Or.inr ⟨by rfl,rfl⟩) ?_ ?_
      rotate_left
      ·simp only [Act.put,List.setIfInBounds_toArray,List.set_cons_zero,List.set_cons_succ,i64_w,i32_w]
       rfl
      refine pure_ (i := 7) (N := some 24) (v := undef) (a' := ?_) #[true,true,true,true,true,true,true,true,false,false,false,false,false,false] rfl rfl (any_of HT_.out (by kernel_rfl)) (fun _ _ _ h => h) (Or.inr ⟨by rfl,rfl⟩) ?_ ?_
      rotate_left
      ·simp only [Act.put,List.setIfInBounds_toArray,List.set_cons_zero,List.set_cons_succ,i64_w,i32_w]
       rfl
      refine pure_ (i := 8) (N := some 25) (v := undef) (a' := ?_) #[true,true,true,true,true,true,true,true,true,false,false,false,false,false] rfl rfl (any_of HT_.out (by kernel_rfl)) (fun _ _ _ h => h) (Or.inr ⟨by rfl,rfl⟩) ?_ ?_
      rotate_left
      ·simp only [Act.put,List.setIfInBounds_toArray,List.set_cons_zero,List.set_cons_succ,i64_w,i32_w]
       rfl
      refine pure_ (i := 9) (N := some 26) (v := undef) (a' := ?_) #[true,true,true,true,true,true,true,true,true,true,false,false,false,false] rfl rfl (any_of HT_.out (by kernel_rfl)) (fun _ _ _ h => h) (Or.inr ⟨by rfl,rfl⟩) ?_ ?_
      rotate_left
      ·simp only [Act.put,List.setIfInBounds_toArray,List.set_cons_zero,List.set_cons_succ,i64_w,i32_w]
       rfl
      refine pure_ (i := 10) (N := some 27) (v := undef) (a' := ?_) #[true,true,true,true,true,true,true,true,true,true,true,false,false,false] rfl rfl (any_of HT_.out (by kernel_rfl)) (fun _ _ _ h => h) (Or.inr ⟨by rfl,rfl⟩) ?_ ?_
      rotate_left
      ·simp only [Act.put,List.setIfInBounds_toArray,List.set_cons_zero,List.set_cons_succ,i64_w,i32_w]
       rfl
      refine pure_ (i := 11) (N := some 28) (v := undef) (a' := ?_) #[true,true,true,true,true,true,true,true,true,true,true,true,false,false] rfl rfl (any_of HT_.out (by kernel_rfl)) (fun _ _ _ h => h) (Or.inr ⟨by rfl,rfl⟩) ?_ ?_
      rotate_left
      ·simp only [Act.put,List.setIfInBounds_toArray,List.set_cons_zero,List.set_cons_succ,i64_w,i32_w]
       rfl
      refine pure_ (i := 12) (N := some 29) (v := undef) (a' := ?_) #[true,true,true,true,true,true,true,true,true,true,true,true,true,false] rfl rfl (any_of HT_.out (by kernel_rfl)) (fun _ _ _ h => h) (Or.inr ⟨by rfl,rfl⟩) ?_ ?_
      rotate_left
      ·simp only [Act.put,List.setIfInBounds_toArray,List.set_cons_zero,List.set_cons_succ,i64_w,i32_w]
       rfl
      refine pure_ (i := 13) (N := some 30) (v := ?_) (a' := ?_) #[true,true,true,true,true,true,true,true,true,true,true,true,true,true] rfl rfl (any_of HT_.out (by kernel_rfl)) (fun _ _ _ h => h) (Or.inl ⟨by rfl,?_⟩) ?_ ?_
      rotate_left
      ·intro w'
       go_simp
       with_reducible rfl
      rotate_left
      ·simp only [Act.put,List.setIfInBounds_toArray,List.set_cons_zero,List.set_cons_succ,i64_w,i32_w]
       rfl
      refine done_ (done_of HT_.out (by kernel_rfl)) ?_
      try go_wp2
      go_meet
      case rel => exact ⟨_,(false),au3,H',⟨by have := HK1.out;first | omega | exact Nat.le_refl _⟩,⟨by (with_reducible repeat (first | apply Kd.R_alloc | apply Kd.R_drewN | apply Kd.R_drew));exact HO_3.out⟩,⟨by (with_reducible repeat (first | apply Kd.R_alloc | apply Kd.R_drewN | apply Kd.R_drew));exact HO_4.out⟩,⟨au0⟩⟩
    case rest =>
     clear HC5
     try clear c1
     try clear p2
     try clear q2
     try clear hx2
     try clear c4
     try clear c4b0
     try clear c6
     try clear p6
     try clear c7
     try clear c7b0
     try clear c9
     try clear c9b0
     try clear c10
     try clear c10b0
     try clear c11
     try clear c11b0
     try clear hx273_0
     try clear hx273_1
     try clear hx274_0
     try clear hx274_1
     try clear p2
     try clear p273
     try clear p274
     try clear q273
     try clear q274
     obtain ⟨kq,x30_4,rfl,HA,HJ4,HO_3,HO_4,HB⟩ := hcut
     cases kq with
     | zero => exact absurd HA.out (by simp [bodkinref03_List.j1])
     | succ kj4 =>
      have H := HA.out
      clear HA
      simp only [bodkinref03_List.j1] at H
      by_cases c16 : x30_4 = true
      ·subst c16
       have H1 : (if 0 ≤ (wrap64 ((x3_1.length : Int) - 1)) then (if (wrap64 ((x3_1.length : Int) - 1)) < (x3_1.length : Int) then (if 0 ≤ x6_1 then (if x6_1 < (t270.length : Int) then (if ((rd_T42 t270 x6_1).f0) = 10 then (bodkinref03_List.l0 kj4 (x3_1.set ((wrap64 ((x3_1.length : Int) - 1)) : Int).toNat (⟨(rd_T61 x3_1 (wrap64 ((x3_1.length : Int) - 1))).f0,wrap64 (x5_1 + ((rd_T42 t270 x6_1).f1)),1,0⟩ : S61)) t270 (wrap64 (x5_1 + ((rd_T42 t270 x6_1).f1))) (wrap64 (x6_1 + 1))) else (bodkinref03_List.l0 kj4 (x3_1.set ((wrap64 ((x3_1.length : Int) - 1)) : Int).toNat (⟨(rd_T61 x3_1 (wrap64 ((x3_1.length : Int) - 1))).f0,wrap64 (x5_1 + ((rd_T42 t270 x6_1).f1)),(rd_T61 x3_1 (wrap64 ((x3_1.length : Int) - 1))).f2,(rd_T61 x3_1 (wrap64 ((x3_1.length : Int) - 1))).f3⟩ : S61)) t270 (wrap64 (x5_1 + ((rd_T42 t270 x6_1).f1))) (wrap64 (x6_1 + 1)))) else (none)) else (none)) else (none)) else (none)) = some r := by rw [if_pos rfl] at H;exact H
       clear H
       have H := H1
       clear H1
       obtain ⟨ji17,hji17⟩ : ∃ j_ : Int,(wrap64 ((x3_1.length : Int) - 1)) = j_ := ⟨_,rfl⟩
       replace H : (if 0 ≤ (ji17) then (if (ji17) < (x3_1.length : Int) then (if 0 ≤ x6_1 then (if x6_1 < (t270.length : Int) then (if ((rd_T42 t270 x6_1).f0) = 10 then (bodkinref03_List.l0 kj4 (x3_1.set ((ji17) : Int).toNat (⟨(rd_T61 x3_1 (ji17)).f0,wrap64 (x5_1 + ((rd_T42 t270 x6_1).f1)),1,0⟩ : S61)) t270 (wrap64 (x5_1 + ((rd_T42 t270 x6_1).f1))) (wrap64 (x6_1 + 1))) else (bodkinref03_List.l0 kj4 (x3_1.set ((ji17) : Int).toNat (⟨(rd_T61 x3_1 (ji17)).f0,wrap64 (x5_1 + ((rd_T42 t270 x6_1).f1)),(rd_T61 x3_1 (ji17)).f2,(rd_T61 x3_1 (ji17)).f3⟩ : S61)) t270 (wrap64 (x5_1 + ((rd_T42 t270 x6_1).f1))) (wrap64 (x6_1 + 1)))) else (none)) else (none)) else (none)) else (none)) = some r := by first | (rw [hji17] at H;exact H) | (simp only [hji17] at H ⊢;exact H)
       have hji17w : (IntKind.i64.wrap ((x3_1.length : Int) - 1)) = ji17 := (i64_w _).trans hji17
       by_cases c18 : 0 ≤ (ji17)
       ·rw [if_pos c18] at H
        have c18b0 : decide (0 ≤ (ji17)) = true := decide_eq_true c18
        clear c18
        by_cases c19 : (ji17) < (x3_1.length : Int)
        ·rw [if_pos c19] at H
         have c19b0 : decide ((ji17) < (x3_1.length : Int)) = true := decide_eq_true c19
         clear c19
         by_cases c20 : 0 ≤ x6_1
         ·rw [if_pos c20] at H
          have c20b0 : decide (0 ≤ x6_1) = true := decide_eq_true c20
          clear c20
          by_cases c21 : x6_1 < (t270.length : Int)
          ·rw [if_pos c21] at H
           have c21b0 : decide (x6_1 < (t270.length : Int)) = true := decide_eq_true c21
           clear c21
           by_cases c22 : ((rd_T42 t270 x6_1).f0) = 10
           ·rw [if_pos c22] at H
            have c22b0 : (((rd_T42 t270 x6_1).f0) == 10) = true := beq_iff_eq.mpr c22
            have c22b1 : (((rd_T42 t270 x6_1).f0) != 10) = false := bne_eq_false_iff_eq.mpr c22
            clear c22
            obtain ⟨y280,hy280⟩ : ∃ y_ : List (S61),y_ = (x3_1.set ((ji17) : Int).toNat (⟨(rd_T61 x3_1 (ji17)).f0,wrap64 (x5_1 + ((rd_T42 t270 x6_1).f1)),1,0⟩ : S61)) := ⟨_,rfl⟩
            replace H : (bodkinref03_List.l0 kj4 y280 t270 (wrap64 (x5_1 + ((rd_T42 t270 x6_1).f1))) (wrap64 (x6_1 + 1))) = some r := by first | (rw [hy280];with_reducible exact H) | (have H2_ := (Option.bind_some _ _).symm.trans H;rw [hy280];with_reducible exact H2_) | (have H2_ := (Option.bind_some _ _).symm.trans H;with_reducible exact H2_) | with_reducible exact H | (rw [hy280];exact H) | exact H
            have Ny280 := Aside0.mk hy280
            clear hy280
            have H' := Aside0.mk H
            clear H
            obtain ⟨Ao24,co24,eo24⟩ := Kd.R_slice HO_3.out
            subst eo24
            have p276 : 0 ≤ ((ji17) : Int) := of_decide_eq_true au4
            have q276 : (ji17) < (x3_1.length : Int) := of_decide_eq_true au4
            obtain ⟨ad276,e276,hx276_0,hx276_1,hx276_2,hx276_3⟩ := at_T61 (Kd.R_reads' HO_3.out).2.2 (ji17) p276 q276
            cases e276
            replace p276 := eq_true p276
            replace q276 := eq_true q276
            go_wp2_with (first | ((with_reducible refine gate_dst (N := 7) rfl ?_);refine box_event ?hg (N := 7) ?hd (cs := #[.int .i64 0,.int .i64 0,.int .i64 0,.int .i64 0]) (t := 61) ?hr ?_;(case hd => rfl);(case hg => rfl);(case hr => first | (go_simp;done) | (go_simp;rfl));intro gb277 hg w25 hbox hb;have n0_ := Aside0.mk (Kd.R_below (Kd.R_elderB au5 gb277 (Nat.le_of_eq hg.symm)) hb);have n1_ := Aside0.mk (Kd.R_below au8 hb);have n2_ := Aside0.mk (below_step au0 hb);have n3_ := Aside0.mk (hbox);have n4_ := Aside0.mk ((by rw [hg];exact (below_size au0) : w.heap.size ≤ gb277));have n5_ := Aside0.mk ((by rw [hg];exact (below_size au0) : w.heap.size ≤ gb277));clear HO_3;clear HO_4;clear HB;have HO_3 := n0_;have HO_4 := n1_;have HB := n2_;have BK277 := n3_;have GW277 := n4_;have GE277 := n5_;clear n0_ n1_ n2_ n3_ n4_ n5_;clear hb hbox hg;have hcz26_0 : w25.cell? ⟨gb277,0,none⟩ = some (.int .i64 0) := (blk_cell BK277.out 0).trans rfl;have hcz26_1 : w25.cell? ⟨gb277,1,none⟩ = some (.int .i64 0) := (blk_cell BK277.out 1).trans rfl;have hcz26_2 : w25.cell? ⟨gb277,2,none⟩ = some (.int .i64 0) := (blk_cell BK277.out 2).trans rfl;have hcz26_3 : w25.cell? ⟨gb277,3,none⟩ = some (.int .i64 0) := (blk_cell BK277.out 3).trans rfl;have hfz26_0 := blk_frozen BK277.out 0;have hfz26_1 := blk_frozen BK277.out 1;have hfz26_2 := blk_frozen BK277.out 2;have hfz26_3 := blk_frozen BK277.out 3) | ((with_reducible refine gate_store (t := 61) (p := 7) rfl ?_);refine store_event (t := 61) (p := 7) (v := ?vo_w27) (w1 := ((((w25.setCell ⟨gb277,0,none⟩ (.int .i64 ((rd_T61 x3_1 (ji17)).f0))).setCell ⟨gb277,1,none⟩ (.int .i64 ((rd_T61 x3_1 (ji17)).f1))).setCell ⟨gb277,2,none⟩ (.int .i64 ((rd_T61 x3_1 (ji17)).f2))).setCell ⟨gb277,3,none⟩ (.int .i64 ((rd_T61 x3_1 (ji17)).f3)))) ?hg ?ho ?hn ?hr ?_;(case ho => rfl);(case hg => rfl);(case hn => rfl);(case hr => first | (go_simp;done) | (go_simp;rfl));intro w27 hw;have n0_ : Aside0 (Kd.R k61 61 w27 w.heap.size (fun k_ => k_ ≠ gb277) (.slice (some ad276) x3_1.length co24) x3_1) := ⟨au28⟩;have n1_ : Aside0 (Kd.R k42 42 w27 w.heap.size (fun _ => True) (.slice Ao6 t270.length co6) t270) := ⟨au31⟩;have n2_ : Aside0 (w27.heap[gb277]? = some (.cells #[.int .i64 ((rd_T61 x3_1 (ji17)).f0),.int .i64 ((rd_T61 x3_1 (ji17)).f1),.int .i64 ((rd_T61 x3_1 (ji17)).f2),.int .i64 ((rd_T61 x3_1 (ji17)).f3)] 61 (0,0))) := ⟨au15⟩;have n3_ : Aside0 (Below w.heap.size w w27) := ⟨au18⟩;clear hw;clear HO_3;clear HO_4;clear BK277;clear HB;have HO_3 := n0_;have HO_4 := n1_;have BK277 := n2_;have HB := n3_;clear n0_ n1_ n2_ n3_;have p278 : 0 ≤ (x6_1 : Int) := of_decide_eq_true au4;have q278 : x6_1 < (t270.length : Int) := of_decide_eq_true au4;obtain ⟨ad278,e278,hx278_0,hx278_1⟩ := at_T42 (Kd.R_reads' HO_4.out).2.2 x6_1 p278 q278;cases e278;replace p278 := eq_true p278;replace q278 := eq_true q278;have hcz28_0 : w27.cell? ⟨gb277,0,none⟩ = some (.int .i64 ((rd_T61 x3_1 (ji17)).f0)) := (blk_cell BK277.out 0).trans rfl;have hcz28_1 : w27.cell? ⟨gb277,1,none⟩ = some (.int .i64 ((rd_T61 x3_1 (ji17)).f1)) := (blk_cell BK277.out 1).trans rfl;have hcz28_2 : w27.cell? ⟨gb277,2,none⟩ = some (.int .i64 ((rd_T61 x3_1 (ji17)).f2)) := (blk_cell BK277.out 2).trans rfl;have hcz28_3 : w27.cell? ⟨gb277,3,none⟩ = some (.int .i64 ((rd_T61 x3_1 (ji17)).f3)) := (blk_cell BK277.out 3).trans rfl;have hfz28_0 := blk_frozen BK277.out 0;have hfz28_1 := blk_frozen BK277.out 1;have hfz28_2 := blk_frozen BK277.out 2;have hfz28_3 := blk_frozen BK277.out 3) | ((with_reducible refine gate_store (t := 3) (p := 44) rfl ?_);refine store_event (t := 3) (p := 44) (v := ?vo_w29) (w1 := (w27.setCell ⟨gb277,1,none⟩ (.int .i64 (wrap64 (x5_1 + ((rd_T42 t270 x6_1).f1)))))) ?hg ?ho ?hn ?hr ?_;(case ho => rfl);(case hg => rfl);(case hn => rfl);(case hr => first | (go_simp;done) | (go_simp;rfl));intro w29 hw;have n0_ : Aside0 (Kd.R k61 61 w29 w.heap.size (fun k_ => k_ ≠ gb277) (.slice (some ad276) x3_1.length co24) x3_1) := ⟨(by rw [hw];exact (by (with_reducible repeat (first | apply Kd.R_alloc | apply Kd.R_drewN | apply Kd.R_drew));exact Kd.R_mono (Kd.R_far (p := ⟨gb277,1,none⟩) (Kd.R_mono HO_3.out (fun k_ hk => (⟨hk,hk⟩ : _ ∧ k_ ≠ gb277))) (fun _ hk => hk.2) (.int .i64 (wrap64 (x5_1 + ((rd_T42 t270 x6_1).f1))))) (fun _ hk => hk.1)))⟩;have n1_ : Aside0 (Kd.R k42 42 w29 w.heap.size (fun _ => True) (.slice (some ad278) t270.length co6) t270) := ⟨(by rw [hw];exact (by (with_reducible repeat (first | apply Kd.R_alloc | apply Kd.R_drewN | apply Kd.R_drew));exact Kd.R_mono (Kd.R_far (p := ⟨gb277,1,none⟩) (Kd.R_types HO_4.out BK277.out (by decide)) (fun _ hk => hk.2) (.int .i64 (wrap64 (x5_1 + ((rd_T42 t270 x6_1).f1))))) (fun _ hk => trivial)))⟩;have n2_ : Aside0 (w29.heap[gb277]? = some (.cells #[.int .i64 ((rd_T61 x3_1 (ji17)).f0),.int .i64 (wrap64 (x5_1 + ((rd_T42 t270 x6_1).f1))),.int .i64 ((rd_T61 x3_1 (ji17)).f2),.int .i64 ((rd_T61 x3_1 (ji17)).f3)] 61 (0,0))) := ⟨au34⟩;have n3_ : Aside0 (Below w.heap.size w w29) := ⟨au18⟩;clear hw;clear HO_3;clear HO_4;clear BK277;clear HB;have HO_3 := n0_;have HO_4 := n1_;have BK277 := n2_;have HB := n3_;clear n0_ n1_ n2_ n3_;have p279 : 0 ≤ (x6_1 : Int) := of_decide_eq_true au4;have q279 : x6_1 < (t270.length : Int) := of_decide_eq_true au4;obtain ⟨ad279,e279,hx279_0,hx279_1⟩ := at_T42 (Kd.R_reads' HO_4.out).2.2 x6_1 p279 q279;obtain rfl : ad278 = ad279 := (by injection e279);replace p279 := eq_true p279;replace q279 := eq_true q279;have hcz30_0 : w29.cell? ⟨gb277,0,none⟩ = some (.int .i64 ((rd_T61 x3_1 (ji17)).f0)) := (blk_cell BK277.out 0).trans rfl;have hcz30_1 : w29.cell? ⟨gb277,1,none⟩ = some (.int .i64 (wrap64 (x5_1 + ((rd_T42 t270 x6_1).f1)))) := (blk_cell BK277.out 1).trans rfl;have hcz30_2 : w29.cell? ⟨gb277,2,none⟩ = some (.int .i64 ((rd_T61 x3_1 (ji17)).f2)) := (blk_cell BK277.out 2).trans rfl;have hcz30_3 : w29.cell? ⟨gb277,3,none⟩ = some (.int .i64 ((rd_T61 x3_1 (ji17)).f3)) := (blk_cell BK277.out 3).trans rfl;have hfz30_0 := blk_frozen BK277.out 0;have hfz30_1 := blk_frozen BK277.out 1;have hfz30_2 := blk_frozen BK277.out 2;have hfz30_3 := blk_frozen BK277.out 3) | ((with_reducible refine gate_store (t := 46) (p := 51) rfl ?_);refine store_event (t := 46) (p := 51) (v := ?vo_w31) (w1 := (w29.setCell ⟨gb277,2,none⟩ (.int .i64 1))) ?hg ?ho ?hn ?hr ?_;(case ho => rfl);(case hg => rfl);(case hn => rfl);(case hr => first | (go_simp;done) | (go_simp;rfl));intro w31 hw;have n0_ : Aside0 (Kd.R k61 61 w31 w.heap.size (fun k_ => k_ ≠ gb277) (.slice (some ad276) x3_1.length co24) x3_1) := ⟨(by rw [hw];exact (by (with_reducible repeat (first | apply Kd.R_alloc | apply Kd.R_drewN | apply Kd.R_drew));exact Kd.R_mono (Kd.R_far (p := ⟨gb277,2,none⟩) (Kd.R_mono HO_3.out (fun k_ hk => (⟨hk,hk⟩ : _ ∧ k_ ≠ gb277))) (fun _ hk => hk.2) (.int .i64 1)) (fun _ hk => hk.1)))⟩;have n1_ : Aside0 (Kd.R k42 42 w31 w.heap.size (fun _ => True) (.slice (some ad278) t270.length co6) t270) := ⟨(by rw [hw];exact (by (with_reducible repeat (first | apply Kd.R_alloc | apply Kd.R_drewN | apply Kd.R_drew));exact Kd.R_mono (Kd.R_far (p := ⟨gb277,2,none⟩) (Kd.R_types HO_4.out BK277.out (by decide)) (fun _ hk => hk.2) (.int .i64 1)) (fun _ hk => trivial)))⟩;have n2_ : Aside0 (w31.heap[gb277]? = some (.cells #[.int .i64 ((rd_T61 x3_1 (ji17)).f0),.int .i64 (wrap64 (x5_1 + ((rd_T42 t270 x6_1).f1))),.int .i64 1,.int .i64 ((rd_T61 x3_1 (ji17)).f3)] 61 (0,0))) := ⟨(by rw [hw];exact (by (with_reducible repeat (first | refine blk_drewN ?_ _ | refine blk_drew ?_ | refine blk_alloc ?_ _));refine blk_put (cs := #[.int .i64 ((rd_T61 x3_1 (ji17)).f0),.int .i64 (wrap64 (x5_1 + ((rd_T42 t270 x6_1).f1))),.int .i64 ((rd_T61 x3_1 (ji17)).f2),.int .i64 ((rd_T61 x3_1 (ji17)).f3)]) ?_ 2 _ rfl;(with_reducible repeat (first | refine blk_drewN ?_ _ | refine blk_drew ?_ | refine blk_alloc ?_ _));exact BK277.out))⟩;have n3_ : Aside0 (Below w.heap.size w w31) := ⟨au18⟩;clear hw;clear HO_3;clear HO_4;clear BK277;clear HB;have HO_3 := n0_;have HO_4 := n1_;have BK277 := n2_;have HB := n3_;clear n0_ n1_ n2_ n3_;have hcz32_0 : w31.cell? ⟨gb277,0,none⟩ = some (.int .i64 ((rd_T61 x3_1 (ji17)).f0)) := (blk_cell BK277.out 0).trans rfl;have hcz32_1 : w31.cell? ⟨gb277,1,none⟩ = some (.int .i64 (wrap64 (x5_1 + ((rd_T42 t270 x6_1).f1)))) := (blk_cell BK277.out 1).trans rfl;have hcz32_2 : w31.cell? ⟨gb277,2,none⟩ = some (.int .i64 1) := (blk_cell BK277.out 2).trans rfl;have hcz32_3 : w31.cell? ⟨gb277,3,none⟩ = some (.int .i64 ((rd_T61 x3_1 (ji17)).f3)) := (blk_cell BK277.out 3).trans rfl;have hfz32_0 := blk_frozen BK277.out 0;have hfz32_1 := blk_frozen BK277.out 1;have hfz32_2 := blk_frozen BK277.out 2;have hfz32_3 := blk_frozen BK277.out 3) | ((with_reducible refine gate_store (t := 3) (p := 52) rfl ?_);refine store_event (t := 3) (p := 52) (v := ?vo_w33) (w1 := (w31.setCell ⟨gb277,3,none⟩ (.int .i64 0))) ?hg ?ho ?hn ?hr ?_;(case ho => rfl);(case hg => rfl);(case hn => rfl);(case hr => first | (go_simp;done) | (go_simp;rfl));intro w33 hw;have n0_ : Aside0 (Kd.R k61 61 w33 w.heap.size (fun k_ => k_ ≠ gb277) (.slice (some ad276) x3_1.length co24) x3_1) := ⟨(by rw [hw];exact (by (with_reducible repeat (first | apply Kd.R_alloc | apply Kd.R_drewN | apply Kd.R_drew));exact Kd.R_mono (Kd.R_far (p := ⟨gb277,3,none⟩) (Kd.R_mono HO_3.out (fun k_ hk => (⟨hk,hk⟩ : _ ∧ k_ ≠ gb277))) (fun _ hk => hk.2) (.int .i64 0)) (fun _ hk => hk.1)))⟩;have n1_ : Aside0 (Kd.R k42 42 w33 w.heap.size (fun _ => True) (.slice (some ad278) t270.length co6) t270) := ⟨(by rw [hw];exact (by (with_reducible repeat (first | apply Kd.R_alloc | apply Kd.R_drewN | apply Kd.R_drew));exact Kd.R_mono (Kd.R_far (p := ⟨gb277,3,none⟩) (Kd.R_types HO_4.out BK277.out (by decide)) (fun _ hk => hk.2) (.int .i64 0)) (fun _ hk => trivial)))⟩;have n2_ : Aside0 (w33.heap[gb277]? = some (.cells #[.int .i64 ((rd_T61 x3_1 (ji17)).f0),.int .i64 (wrap64 (x5_1 + ((rd_T42 t270 x6_1).f1))),.int .i64 1,.int .i64 0] 61 (0,0))) := ⟨(by rw [hw];exact (by (with_reducible repeat (first | refine blk_drewN ?_ _ | refine blk_drew ?_ | refine blk_alloc ?_ _));refine blk_put (cs := #[.int .i64 ((rd_T61 x3_1 (ji17)).f0),.int .i64 (wrap64 (x5_1 + ((rd_T42 t270 x6_1).f1))),.int .i64 1,.int .i64 ((rd_T61 x3_1 (ji17)).f3)]) ?_ 3 _ rfl;(with_reducible repeat (first | refine blk_drewN ?_ _ | refine blk_drew ?_ | refine blk_alloc ?_ _));exact BK277.out))⟩;have n3_ : Aside0 (Below w.heap.size w w33) := ⟨au18⟩;clear hw;clear HO_3;clear HO_4;clear BK277;clear HB;have HO_3 := n0_;have HO_4 := n1_;have BK277 := n2_;have HB := n3_;clear n0_ n1_ n2_ n3_;have hcz34_0 : w33.cell? ⟨gb277,0,none⟩ = some (.int .i64 ((rd_T61 x3_1 (ji17)).f0)) := (blk_cell BK277.out 0).trans rfl;have hcz34_1 : w33.cell? ⟨gb277,1,none⟩ = some (.int .i64 (wrap64 (x5_1 + ((rd_T42 t270 x6_1).f1)))) := (blk_cell BK277.out 1).trans rfl;have hcz34_2 : w33.cell? ⟨gb277,2,none⟩ = some (.int .i64 1) := (blk_cell BK277.out 2).trans rfl;have hcz34_3 : w33.cell? ⟨gb277,3,none⟩ = some (.int .i64 0) := (blk_cell BK277.out 3).trans rfl;have hfz34_0 := blk_frozen BK277.out 0;have hfz34_1 := blk_frozen BK277.out 1;have hfz34_2 := blk_frozen BK277.out 2;have hfz34_3 := blk_frozen BK277.out 3;have p23 : 0 ≤ ((ji17) : Int) := of_decide_eq_true au4;have q23 : ((ji17) : Int) < ((x3_1.length : Int) : Int) := of_decide_eq_true au4;obtain ⟨go23,co23,eo23,gb23,gl23,cl23,HG23⟩ := Kd.R_form HO_3.out (by omega);(first | cases eo23 | (injection eo23 with ea_ en_ ec_;(first | subst ea_ | (injection ea_ with ea_;subst ea_));subst ec_;clear en_));have GB23 := Aside0.mk gb23;have GG23 := Aside0.mk HG23;clear gb23 gl23 HG23;(first | simp only [add_plain] at hx276_0 | skip);(first | simp only [add_plain] at hx276_1 | skip);(first | simp only [add_plain] at hx276_2 | skip);(first | simp only [add_plain] at hx276_3 | skip);obtain ⟨ce23,hcl23,hM23,hcc23,hfr23⟩ := Kd.R_elem HO_3.out z61 ((ji17) : Int) p23 q23;obtain rfl := k61_openM hM23;have hx23_0 : w33.cell? ⟨go23,((ji17) : Int).toNat * 4,none⟩ = some (.int .i64 ((rd_T61 x3_1 (ji17)).f0)) := hcc23 0 _ rfl;have hx23_1 : w33.cell? ⟨go23,((ji17) : Int).toNat * 4 + 1,none⟩ = some (.int .i64 ((rd_T61 x3_1 (ji17)).f1)) := hcc23 1 _ rfl;have hx23_2 : w33.cell? ⟨go23,((ji17) : Int).toNat * 4 + 2,none⟩ = some (.int .i64 ((rd_T61 x3_1 (ji17)).f2)) := hcc23 2 _ rfl;have hx23_3 : w33.cell? ⟨go23,((ji17) : Int).toNat * 4 + 3,none⟩ = some (.int .i64 ((rd_T61 x3_1 (ji17)).f3)) := hcc23 3 _ rfl;have hf23_0 : w33.frozen? ⟨go23,((ji17) : Int).toNat * 4,none⟩ = false := hfr23 0;have hf23_1 : w33.frozen? ⟨go23,((ji17) : Int).toNat * 4 + 1,none⟩ = false := hfr23 1;have hf23_2 : w33.frozen? ⟨go23,((ji17) : Int).toNat * 4 + 2,none⟩ = false := hfr23 2;have hf23_3 : w33.frozen? ⟨go23,((ji17) : Int).toNat * 4 + 3,none⟩ = false := hfr23 3;clear hcl23 hcc23 hfr23 hM23;replace p23 := eq_true p23;replace q23 := eq_true q23;have HX35 := Aside0.mk (show Kd.R k61 61 w33 w.heap.size (fun k_ => k_ ≠ gb277) (.slice (some ⟨go23,0,none⟩) x3_1.length co24) x3_1 from au5);obtain ⟨ce35,hcl35,hM35,hcc35,hfr35⟩ := Kd.R_elem HX35.out z61 ((ji17) : Int) (of_decide_eq_true au4) (by have h_ : ((ji17) : Int) < ((x3_1.length : Int) : Int) := of_decide_eq_true au4;first | exact h_ | (have e_ := (Kd.R_reads' HO_3.out).1;omega) | simpa using h_);obtain rfl := k61_openM hM35;have HP35 := Kd.R_seg HX35.out ((ji17) : Int) (of_decide_eq_true au4) (by have h_ : ((ji17) : Int) < ((x3_1.length : Int) : Int) := of_decide_eq_true au4;first | exact h_ | (have e_ := (Kd.R_reads' HO_3.out).1;omega) | simpa using h_) (seg := [.int .i64 ((rd_T61 x3_1 (ji17)).f0),.int .i64 (wrap64 (x5_1 + ((rd_T42 t270 x6_1).f1))),.int .i64 1,.int .i64 0]) (j := 0) hcl35 hcc35 (show 4 ≤ 4 from by decide) (x' := (⟨(rd_T61 x3_1 (ji17)).f0,wrap64 (x5_1 + ((rd_T42 t270 x6_1).f1)),1,0⟩ : S61)) (k61_mkM _ _ _ (⟨(rd_T61 x3_1 (ji17)).f0,wrap64 (x5_1 + ((rd_T42 t270 x6_1).f1)),1,0⟩ : S61) ) (fun _ hk => hk);have hx35_0 := hcc35 0 _ rfl;(try simp only [show (k61).sz = 4 from rfl,Nat.mul_one,Nat.add_zero] at hx35_0);have hf35_0 := hfr35 0;(try simp only [show (k61).sz = 4 from rfl,Nat.mul_one,Nat.add_zero] at hf35_0);have hx35_1 := hcc35 1 _ rfl;(try simp only [show (k61).sz = 4 from rfl,Nat.mul_one,Nat.add_zero] at hx35_1);have hf35_1 := hfr35 1;(try simp only [show (k61).sz = 4 from rfl,Nat.mul_one,Nat.add_zero] at hf35_1);have hx35_2 := hcc35 2 _ rfl;(try simp only [show (k61).sz = 4 from rfl,Nat.mul_one,Nat.add_zero] at hx35_2);have hf35_2 := hfr35 2;(try simp only [show (k61).sz = 4 from rfl,Nat.mul_one,Nat.add_zero] at hf35_2);have hx35_3 := hcc35 3 _ rfl;(try simp only [show (k61).sz = 4 from rfl,Nat.mul_one,Nat.add_zero] at hx35_3);have hf35_3 := hfr35 3;(try simp only [show (k61).sz = 4 from rfl,Nat.mul_one,Nat.add_zero] at hf35_3);clear hcl35 hcc35 hfr35 hM35) | ((with_reducible refine gate_store (t := 61) (p := 58) rfl ?_);refine store_event (t := 61) (p := 58) (v := ?vo_w36) (w1 := ((((w33.setCell ⟨go23,((ji17) : Int).toNat * 4,none⟩ (.int .i64 ((rd_T61 x3_1 (ji17)).f0))).setCell ⟨go23,((ji17) : Int).toNat * 4 + 1,none⟩ (.int .i64 (wrap64 (x5_1 + ((rd_T42 t270 x6_1).f1))))).setCell ⟨go23,((ji17) : Int).toNat * 4 + 2,none⟩ (.int .i64 1)).setCell ⟨go23,((ji17) : Int).toNat * 4 + 3,none⟩ (.int .i64 0))) ?hg ?ho ?hn ?hr ?_;(case ho => rfl);(case hg => rfl);(case hn => rfl);(case hr => first | (go_simp;done) | (go_simp;rfl));intro w36 hw;have hg : w33.grownBy w36 (some go23) := (by rw [hw];exact HP35.2);have hp_ : Kd.R k61 61 w36 w.heap.size (fun k_ => k_ ≠ gb277) (.slice (some ⟨go23,0,none⟩) x3_1.length co24) y280 := (by rw [hw,Ny280.out];exact HP35.1);clear HP35;have n0_ := Aside0.mk (hp_);have n1_ := Aside0.mk (Kd.R_over' (v := (.slice (some ⟨go23,0,none⟩) x3_1.length co24)) au8 (Kd.R_typed HO_3.out) (by decide) hg);have n2_ := Aside0.mk (blk_grown (g := gb277) (o := .cells #[.int .i64 ((rd_T61 x3_1 (ji17)).f0),.int .i64 (wrap64 (x5_1 + ((rd_T42 t270 x6_1).f1))),.int .i64 1,.int .i64 0] 61 (0,0)) (by (with_reducible repeat (first | refine blk_drewN ?_ _ | refine blk_drew ?_ | refine blk_alloc ?_ _));exact BK277.out) hg (Kd.R_away HO_3.out (fun _ hk => hk)));have n3_ := Aside0.mk ((by rw [hw];exact below_set (below_set (below_set (below_set (HB.out) GB23.out) GB23.out) GB23.out) GB23.out : Below w.heap.size w w36));clear HO_3;clear HO_4;clear BK277;clear HB;have HO_3 := n0_;have HO_4 := n1_;have BK277 := n2_;have HB := n3_;clear n0_ n1_ n2_ n3_;clear hg hw hp_;have p281 : 0 ≤ (x6_1 : Int) := of_decide_eq_true au4;have q281 : x6_1 < (t270.length : Int) := of_decide_eq_true au4;obtain ⟨ad281,e281,hx281_0,hx281_1⟩ := at_T42 (Kd.R_reads' HO_4.out).2.2 x6_1 p281 q281;obtain rfl : ad278 = ad281 := (by injection e281);replace p281 := eq_true p281;replace q281 := eq_true q281))
            go_roundg kj4
            case measure => have := HK1.out;have := HJ4.out;omega
            case rel => exact ⟨(y280),(wrap64 (x5_1 + ((rd_T42 t270 x6_1).f1))),(wrap64 (x6_1 + 1)),au3,au3,H',⟨by have := HK1.out;have := HJ4.out;omega⟩,⟨by (with_reducible repeat (first | apply Kd.R_alloc | apply Kd.R_drewN | apply Kd.R_drew));exact Kd.R_mono HO_3.out (fun _ hk => trivial)⟩,⟨by (with_reducible repeat (first | apply Kd.R_alloc | apply Kd.R_drewN | apply Kd.R_drew));exact HO_4.out⟩,⟨by repeat (first | (with_reducible first | exact HB.out | apply below_alloc | apply pw_below_drewN | apply below_drew1 | refine below_set ?_ GE277.out) | exact HB.out)⟩⟩
           ·rw [if_neg c22] at H
            have c22b0 : (((rd_T42 t270 x6_1).f0) == 10) = false := beq_eq_false_iff_ne.mpr c22
            have c22b1 : (((rd_T42 t270 x6_1).f0) != 10) = true := bne_iff_ne.mpr c22
            obtain ⟨y282,hy282⟩ : ∃ y_ : List (S61),y_ = (x3_1.set ((ji17) : Int).toNat (⟨(rd_T61 x3_1 (ji17)).f0,wrap64 (x5_1 + ((rd_T42 t270 x6_1).f1)),(rd_T61 x3_1 (ji17)).f2,(rd_T61 x3_1 (ji17)).f3⟩ : S61)) := ⟨_,rfl⟩
            replace H : (bodkinref03_List.l0 kj4 y282 t270 (wrap64 (x5_1 + ((rd_T42 t270 x6_1).f1))) (wrap64 (x6_1 + 1))) = some r := by first | (rw [hy282];with_reducible exact H) | (have H2_ := (Option.bind_some _ _).symm.trans H;rw [hy282];with_reducible exact H2_) | (have H2_ := (Option.bind_some _ _).symm.trans H;with_reducible exact H2_) | with_reducible exact H | (rw [hy282];exact H) | exact H
            have Ny282 := Aside0.mk hy282
            clear hy282
            have H' := Aside0.mk H
            clear H
            obtain ⟨Ao38,co38,eo38⟩ := Kd.R_slice HO_3.out
            subst eo38
            have p276 : 0 ≤ ((ji17) : Int) := of_decide_eq_true au4
            have q276 : (ji17) < (x3_1.length : Int) := of_decide_eq_true au4
            obtain ⟨ad276,e276,hx276_0,hx276_1,hx276_2,hx276_3⟩ := at_T61 (Kd.R_reads' HO_3.out).2.2 (ji17) p276 q276
            cases e276
            replace p276 := eq_true p276
            replace q276 := eq_true q276
            go_wp2_with (first | ((with_reducible refine gate_dst (N := 7) rfl ?_);refine box_event ?hg (N := 7) ?hd (cs := #[.int .i64 0,.int .i64 0,.int .i64 0,.int .i64 0]) (t := 61) ?hr ?_;(case hd => rfl);(case hg => rfl);(case hr => first | (go_simp;done) | (go_simp;rfl));intro gb277 hg w39 hbox hb;have n0_ := Aside0.mk (Kd.R_below (Kd.R_elderB au5 gb277 (Nat.le_of_eq hg.symm)) hb);have n1_ := Aside0.mk (Kd.R_below au8 hb);have n2_ := Aside0.mk (below_step au0 hb);have n3_ := Aside0.mk (hbox);have n4_ := Aside0.mk ((by rw [hg];exact (below_size au0) : w.heap.size ≤ gb277));have n5_ := Aside0.mk ((by rw [hg];exact (below_size au0) : w.heap.size ≤ gb277));clear HO_3;clear HO_4;clear HB;have HO_3 := n0_;have HO_4 := n1_;have HB := n2_;have BK277 := n3_;have GW277 := n4_;have GE277 := n5_;clear n0_ n1_ n2_ n3_ n4_ n5_;clear hb hbox hg;have hcz40_0 : w39.cell? ⟨gb277,0,none⟩ = some (.int .i64 0) := (blk_cell BK277.out 0).trans rfl;have hcz40_1 : w39.cell? ⟨gb277,1,none⟩ = some (.int .i64 0) := (blk_cell BK277.out 1).trans rfl;have hcz40_2 : w39.cell? ⟨gb277,2,none⟩ = some (.int .i64 0) := (blk_cell BK277.out 2).trans rfl;have hcz40_3 : w39.cell? ⟨gb277,3,none⟩ = some (.int .i64 0) := (blk_cell BK277.out 3).trans rfl;have hfz40_0 := blk_frozen BK277.out 0;have hfz40_1 := blk_frozen BK277.out 1;have hfz40_2 := blk_frozen BK277.out 2;have hfz40_3 := blk_frozen BK277.out 3) | ((with_reducible refine gate_store (t := 61) (p := 7) rfl ?_);refine store_event (t := 61) (p := 7) (v := ?vo_w41) (w1 := ((((w39.setCell ⟨gb277,0,none⟩ (.int .i64 ((rd_T61 x3_1 (ji17)).f0))).setCell ⟨gb277,1,none⟩ (.int .i64 ((rd_T61 x3_1 (ji17)).f1))).setCell ⟨gb277,2,none⟩ (.int .i64 ((rd_T61 x3_1 (ji17)).f2))).setCell ⟨gb277,3,none⟩ (.int .i64 ((rd_T61 x3_1 (ji17)).f3)))) ?hg ?ho ?hn ?hr ?_;(case ho => rfl);(case hg => rfl);(case hn => rfl);(case hr => first | (go_simp;done) | (go_simp;rfl));intro w41 hw;have n0_ : Aside0 (Kd.R k61 61 w41 w.heap.size (fun k_ => k_ ≠ gb277) (.slice (some ad276) x3_1.length co38) x3_1) := ⟨au28⟩;have n1_ : Aside0 (Kd.R k42 42 w41 w.heap.size (fun _ => True) (.slice Ao6 t270.length co6) t270) := ⟨au31⟩;have n2_ : Aside0 (w41.heap[gb277]? = some (.cells #[.int .i64 ((rd_T61 x3_1 (ji17)).f0),.int .i64 ((rd_T61 x3_1 (ji17)).f1),.int .i64 ((rd_T61 x3_1 (ji17)).f2),.int .i64 ((rd_T61 x3_1 (ji17)).f3)] 61 (0,0))) := ⟨au15⟩;have n3_ : Aside0 (Below w.heap.size w w41) := ⟨au18⟩;clear hw;clear HO_3;clear HO_4;clear BK277;clear HB;have HO_3 := n0_;have HO_4 := n1_;have BK277 := n2_;have HB := n3_;clear n0_ n1_ n2_ n3_;have p278 : 0 ≤ (x6_1 : Int) := of_decide_eq_true au4;have q278 : x6_1 < (t270.length : Int) := of_decide_eq_true au4;obtain ⟨ad278,e278,hx278_0,hx278_1⟩ := at_T42 (Kd.R_reads' HO_4.out).2.2 x6_1 p278 q278;cases e278;replace p278 := eq_true p278;replace q278 := eq_true q278;have hcz42_0 : w41.cell? ⟨gb277,0,none⟩ = some (.int .i64 ((rd_T61 x3_1 (ji17)).f0)) := (blk_cell BK277.out 0).trans rfl;have hcz42_1 : w41.cell? ⟨gb277,1,none⟩ = some (.int .i64 ((rd_T61 x3_1 (ji17)).f1)) := (blk_cell BK277.out 1).trans rfl;have hcz42_2 : w41.cell? ⟨gb277,2,none⟩ = some (.int .i64 ((rd_T61 x3_1 (ji17)).f2)) := (blk_cell BK277.out 2).trans rfl;have hcz42_3 : w41.cell? ⟨gb277,3,none⟩ = some (.int .i64 ((rd_T61 x3_1 (ji17)).f3)) := (blk_cell BK277.out 3).trans rfl;have hfz42_0 := blk_frozen BK277.out 0;have hfz42_1 := blk_frozen BK277.out 1;have hfz42_2 := blk_frozen BK277.out 2;have hfz42_3 := blk_frozen BK277.out 3) | ((with_reducible refine gate_store (t := 3) (p := 44) rfl ?_);refine store_event (t := 3) (p := 44) (v := ?vo_w43) (w1 := (w41.setCell ⟨gb277,1,none⟩ (.int .i64 (wrap64 (x5_1 + ((rd_T42 t270 x6_1).f1)))))) ?hg ?ho ?hn ?hr ?_;(case ho => rfl);(case hg => rfl);(case hn => rfl);(case hr => first | (go_simp;done) | (go_simp;rfl));intro w43 hw;have n0_ : Aside0 (Kd.R k61 61 w43 w.heap.size (fun k_ => k_ ≠ gb277) (.slice (some ad276) x3_1.length co38) x3_1) := ⟨(by rw [hw];exact (by (with_reducible repeat (first | apply Kd.R_alloc | apply Kd.R_drewN | apply Kd.R_drew));exact Kd.R_mono (Kd.R_far (p := ⟨gb277,1,none⟩) (Kd.R_mono HO_3.out (fun k_ hk => (⟨hk,hk⟩ : _ ∧ k_ ≠ gb277))) (fun _ hk => hk.2) (.int .i64 (wrap64 (x5_1 + ((rd_T42 t270 x6_1).f1))))) (fun _ hk => hk.1)))⟩;have n1_ : Aside0 (Kd.R k42 42 w43 w.heap.size (fun _ => True) (.slice (some ad278) t270.length co6) t270) := ⟨(by rw [hw];exact (by (with_reducible repeat (first | apply Kd.R_alloc | apply Kd.R_drewN | apply Kd.R_drew));exact Kd.R_mono (Kd.R_far (p := ⟨gb277,1,none⟩) (Kd.R_types HO_4.out BK277.out (by decide)) (fun _ hk => hk.2) (.int .i64 (wrap64 (x5_1 + ((rd_T42 t270 x6_1).f1))))) (fun _ hk => trivial)))⟩;have n2_ : Aside0 (w43.heap[gb277]? = some (.cells #[.int .i64 ((rd_T61 x3_1 (ji17)).f0),.int .i64 (wrap64 (x5_1 + ((rd_T42 t270 x6_1).f1))),.int .i64 ((rd_T61 x3_1 (ji17)).f2),.int .i64 ((rd_T61 x3_1 (ji17)).f3)] 61 (0,0))) := ⟨au34⟩;have n3_ : Aside0 (Below w.heap.size w w43) := ⟨au18⟩;clear hw;clear HO_3;clear HO_4;clear BK277;clear HB;have HO_3 := n0_;have HO_4 := n1_;have BK277 := n2_;have HB := n3_;clear n0_ n1_ n2_ n3_;have p279 : 0 ≤ (x6_1 : Int) := of_decide_eq_true au4;have q279 : x6_1 < (t270.length : Int) := of_decide_eq_true au4;obtain ⟨ad279,e279,hx279_0,hx279_1⟩ := at_T42 (Kd.R_reads' HO_4.out).2.2 x6_1 p279 q279;obtain rfl : ad278 = ad279 := (by injection e279);replace p279 := eq_true p279;replace q279 := eq_true q279;have hcz44_0 : w43.cell? ⟨gb277,0,none⟩ = some (.int .i64 ((rd_T61 x3_1 (ji17)).f0)) := (blk_cell BK277.out 0).trans rfl;have hcz44_1 : w43.cell? ⟨gb277,1,none⟩ = some (.int .i64 (wrap64 (x5_1 + ((rd_T42 t270 x6_1).f1)))) := (blk_cell BK277.out 1).trans rfl;have hcz44_2 : w43.cell? ⟨gb277,2,none⟩ = some (.int .i64 ((rd_T61 x3_1 (ji17)).f2)) := (blk_cell BK277.out 2).trans rfl;have hcz44_3 : w43.cell? ⟨gb277,3,none⟩ = some (.int .i64 ((rd_T61 x3_1 (ji17)).f3)) := (blk_cell BK277.out 3).trans rfl;have hfz44_0 := blk_frozen BK277.out 0;have hfz44_1 := blk_frozen BK277.out 1;have hfz44_2 := blk_frozen BK277.out 2;have hfz44_3 := blk_frozen BK277.out 3;have p37 : 0 ≤ ((ji17) : Int) := of_decide_eq_true au4;have q37 : ((ji17) : Int) < ((x3_1.length : Int) : Int) := of_decide_eq_true au4;obtain ⟨go37,co37,eo37,gb37,gl37,cl37,HG37⟩ := Kd.R_form HO_3.out (by omega);(first | cases eo37 | (injection eo37 with ea_ en_ ec_;(first | subst ea_ | (injection ea_ with ea_;subst ea_));subst ec_;clear en_));have GB37 := Aside0.mk gb37;have GG37 := Aside0.mk HG37;clear gb37 gl37 HG37;(first | simp only [add_plain] at hx276_0 | skip);(first | simp only [add_plain] at hx276_1 | skip);(first | simp only [add_plain] at hx276_2 | skip);(first | simp only [add_plain] at hx276_3 | skip);obtain ⟨ce37,hcl37,hM37,hcc37,hfr37⟩ := Kd.R_elem HO_3.out z61 ((ji17) : Int) p37 q37;obtain rfl := k61_openM hM37;have hx37_0 : w43.cell? ⟨go37,((ji17) : Int).toNat * 4,none⟩ = some (.int .i64 ((rd_T61 x3_1 (ji17)).f0)) := hcc37 0 _ rfl;have hx37_1 : w43.cell? ⟨go37,((ji17) : Int).toNat * 4 + 1,none⟩ = some (.int .i64 ((rd_T61 x3_1 (ji17)).f1)) := hcc37 1 _ rfl;have hx37_2 : w43.cell? ⟨go37,((ji17) : Int).toNat * 4 + 2,none⟩ = some (.int .i64 ((rd_T61 x3_1 (ji17)).f2)) := hcc37 2 _ rfl;have hx37_3 : w43.cell? ⟨go37,((ji17) : Int).toNat * 4 + 3,none⟩ = some (.int .i64 ((rd_T61 x3_1 (ji17)).f3)) := hcc37 3 _ rfl;have hf37_0 : w43.frozen? ⟨go37,((ji17) : Int).toNat * 4,none⟩ = false := hfr37 0;have hf37_1 : w43.frozen? ⟨go37,((ji17) : Int).toNat * 4 + 1,none⟩ = false := hfr37 1;have hf37_2 : w43.frozen? ⟨go37,((ji17) : Int).toNat * 4 + 2,none⟩ = false := hfr37 2;have hf37_3 : w43.frozen? ⟨go37,((ji17) : Int).toNat * 4 + 3,none⟩ = false := hfr37 3;clear hcl37 hcc37 hfr37 hM37;replace p37 := eq_true p37;replace q37 := eq_true q37;have HX45 := Aside0.mk (show Kd.R k61 61 w43 w.heap.size (fun k_ => k_ ≠ gb277) (.slice (some ⟨go37,0,none⟩) x3_1.length co38) x3_1 from au5);obtain ⟨ce45,hcl45,hM45,hcc45,hfr45⟩ := Kd.R_elem HX45.out z61 ((ji17) : Int) (of_decide_eq_true au4) (by have h_ : ((ji17) : Int) < ((x3_1.length : Int) : Int) := of_decide_eq_true au4;first | exact h_ | (have e_ := (Kd.R_reads' HO_3.out).1;omega) | simpa using h_);obtain rfl := k61_openM hM45;have HP45 := Kd.R_seg HX45.out ((ji17) : Int) (of_decide_eq_true au4) (by have h_ : ((ji17) : Int) < ((x3_1.length : Int) : Int) := of_decide_eq_true au4;first | exact h_ | (have e_ := (Kd.R_reads' HO_3.out).1;omega) | simpa using h_) (seg := [.int .i64 ((rd_T61 x3_1 (ji17)).f0),.int .i64 (wrap64 (x5_1 + ((rd_T42 t270 x6_1).f1))),.int .i64 ((rd_T61 x3_1 (ji17)).f2),.int .i64 ((rd_T61 x3_1 (ji17)).f3)]) (j := 0) hcl45 hcc45 (show 4 ≤ 4 from by decide) (x' := (⟨(rd_T61 x3_1 (ji17)).f0,wrap64 (x5_1 + ((rd_T42 t270 x6_1).f1)),(rd_T61 x3_1 (ji17)).f2,(rd_T61 x3_1 (ji17)).f3⟩ : S61)) (k61_mkM _ _ _ (⟨(rd_T61 x3_1 (ji17)).f0,wrap64 (x5_1 + ((rd_T42 t270 x6_1).f1)),(rd_T61 x3_1 (ji17)).f2,(rd_T61 x3_1 (ji17)).f3⟩ : S61) ) (fun _ hk => hk);have hx45_0 := hcc45 0 _ rfl;(try simp only [show (k61).sz = 4 from rfl,Nat.mul_one,Nat.add_zero] at hx45_0);have hf45_0 := hfr45 0;(try simp only [show (k61).sz = 4 from rfl,Nat.mul_one,Nat.add_zero] at hf45_0);have hx45_1 := hcc45 1 _ rfl;(try simp only [show (k61).sz = 4 from rfl,Nat.mul_one,Nat.add_zero] at hx45_1);have hf45_1 := hfr45 1;(try simp only [show (k61).sz = 4 from rfl,Nat.mul_one,Nat.add_zero] at hf45_1);have hx45_2 := hcc45 2 _ rfl;(try simp only [show (k61).sz = 4 from rfl,Nat.mul_one,Nat.add_zero] at hx45_2);have hf45_2 := hfr45 2;(try simp only [show (k61).sz = 4 from rfl,Nat.mul_one,Nat.add_zero] at hf45_2);have hx45_3 := hcc45 3 _ rfl;(try simp only [show (k61).sz = 4 from rfl,Nat.mul_one,Nat.add_zero] at hx45_3);have hf45_3 := hfr45 3;(try simp only [show (k61).sz = 4 from rfl,Nat.mul_one,Nat.add_zero] at hf45_3);clear hcl45 hcc45 hfr45 hM45) | ((with_reducible refine gate_store (t := 61) (p := 58) rfl ?_);refine store_event (t := 61) (p := 58) (v := ?vo_w46) (w1 := ((((w43.setCell ⟨go37,((ji17) : Int).toNat * 4,none⟩ (.int .i64 ((rd_T61 x3_1 (ji17)).f0))).setCell ⟨go37,((ji17) : Int).toNat * 4 + 1,none⟩ (.int .i64 (wrap64 (x5_1 + ((rd_T42 t270 x6_1).f1))))).setCell ⟨go37,((ji17) : Int).toNat * 4 + 2,none⟩ (.int .i64 ((rd_T61 x3_1 (ji17)).f2))).setCell ⟨go37,((ji17) : Int).toNat * 4 + 3,none⟩ (.int .i64 ((rd_T61 x3_1 (ji17)).f3)))) ?hg ?ho ?hn ?hr ?_;(case ho => rfl);(case hg => rfl);(case hn => rfl);(case hr => first | (go_simp;done) | (go_simp;rfl));intro w46 hw;have hg : w43.grownBy w46 (some go37) := (by rw [hw];exact HP45.2);have hp_ : Kd.R k61 61 w46 w.heap.size (fun k_ => k_ ≠ gb277) (.slice (some ⟨go37,0,none⟩) x3_1.length co38) y282 := (by rw [hw,Ny282.out];exact HP45.1);clear HP45;have n0_ := Aside0.mk (hp_);have n1_ := Aside0.mk (Kd.R_over' (v := (.slice (some ⟨go37,0,none⟩) x3_1.length co38)) au8 (Kd.R_typed HO_3.out) (by decide) hg);have n2_ := Aside0.mk (blk_grown (g := gb277) (o := .cells #[.int .i64 ((rd_T61 x3_1 (ji17)).f0),.int .i64 (wrap64 (x5_1 + ((rd_T42 t270 x6_1).f1))),.int .i64 ((rd_T61 x3_1 (ji17)).f2),.int .i64 ((rd_T61 x3_1 (ji17)).f3)] 61 (0,0)) (by (with_reducible repeat (first | refine blk_drewN ?_ _ | refine blk_drew ?_ | refine blk_alloc ?_ _));exact BK277.out) hg (Kd.R_away HO_3.out (fun _ hk => hk)));have n3_ := Aside0.mk ((by rw [hw];exact below_set (below_set (below_set (below_set (HB.out) GB37.out) GB37.out) GB37.out) GB37.out : Below w.heap.size w w46));clear HO_3;clear HO_4;clear BK277;clear HB;have HO_3 := n0_;have HO_4 := n1_;have BK277 := n2_;have HB := n3_;clear n0_ n1_ n2_ n3_;clear hg hw hp_;have p283 : 0 ≤ (x6_1 : Int) := of_decide_eq_true au4;have q283 : x6_1 < (t270.length : Int) := of_decide_eq_true au4;obtain ⟨ad283,e283,hx283_0,hx283_1⟩ := at_T42 (Kd.R_reads' HO_4.out).2.2 x6_1 p283 q283;obtain rfl : ad278 = ad283 := (by injection e283);replace p283 := eq_true p283;replace q283 := eq_true q283))
            go_roundg kj4
            case measure => have := HK1.out;have := HJ4.out;omega
            case rel => exact ⟨(y282),(wrap64 (x5_1 + ((rd_T42 t270 x6_1).f1))),(wrap64 (x6_1 + 1)),au3,au3,H',⟨by have := HK1.out;have := HJ4.out;omega⟩,⟨by (with_reducible repeat (first | apply Kd.R_alloc | apply Kd.R_drewN | apply Kd.R_drew));exact Kd.R_mono HO_3.out (fun _ hk => trivial)⟩,⟨by (with_reducible repeat (first | apply Kd.R_alloc | apply Kd.R_drewN | apply Kd.R_drew));exact HO_4.out⟩,⟨by repeat (first | (with_reducible first | exact HB.out | apply below_alloc | apply pw_below_drewN | apply below_drew1 | refine below_set ?_ GE277.out) | exact HB.out)⟩⟩
          ·rw [if_neg c21] at H
           exact absurd H (by simp)
         ·rw [if_neg c20] at H
          exact absurd H (by simp)
        ·rw [if_neg c19] at H
         exact absurd H (by simp)
       ·rw [if_neg c18] at H
        exact absurd H (by simp)
      ·replace c16 := Bool.eq_false_iff.mpr c16
       subst c16
       have H1 : (if 0 ≤ x6_1 then (if x6_1 < (t270.length : Int) then ((bodkinref02_Class.f kj4 ((rd_T42 t270 x6_1).f0)).bind fun t286 => ((bodkinref02_Cells.f kj4 ((rd_T42 t270 x6_1).f0)).bind fun t287 => (if x3_1.length < 4398046511104 then (bodkinref03_List.l0 kj4 (x3_1 ++ [(⟨x5_1,wrap64 (x5_1 + ((rd_T42 t270 x6_1).f1)),t286,t287⟩ : S61)]) t270 (wrap64 (x5_1 + ((rd_T42 t270 x6_1).f1))) (wrap64 (x6_1 + 1))) else (none)))) else (none)) else (none)) = some r := by rw [if_neg (show ¬ (false = true) by decide)] at H;exact H
       clear H
       have H := H1
       clear H1
       by_cases c47 : 0 ≤ x6_1
       ·rw [if_pos c47] at H
        have c47b0 : decide (0 ≤ x6_1) = true := decide_eq_true c47
        clear c47
        by_cases c48 : x6_1 < (t270.length : Int)
        ·rw [if_pos c48] at H
         have c48b0 : decide (x6_1 < (t270.length : Int)) = true := decide_eq_true c48
         clear c48
         replace H := Option.bind_eq_some_iff.mp H
         obtain ⟨t286,A490,H⟩ := H
         replace H : ((bodkinref02_Cells.f kj4 ((rd_T42 t270 x6_1).f0)).bind fun t287 => (if x3_1.length < 4398046511104 then (bodkinref03_List.l0 kj4 (x3_1 ++ [(⟨x5_1,wrap64 (x5_1 + ((rd_T42 t270 x6_1).f1)),t286,t287⟩ : S61)]) t270 (wrap64 (x5_1 + ((rd_T42 t270 x6_1).f1))) (wrap64 (x6_1 + 1))) else (none))) = some r := H
         have A49 := Aside0.mk A490
         clear A490
         replace H := Option.bind_eq_some_iff.mp H
         obtain ⟨t287,A500,H⟩ := H
         replace H : (if x3_1.length < 4398046511104 then (bodkinref03_List.l0 kj4 (x3_1 ++ [(⟨x5_1,wrap64 (x5_1 + ((rd_T42 t270 x6_1).f1)),t286,t287⟩ : S61)]) t270 (wrap64 (x5_1 + ((rd_T42 t270 x6_1).f1))) (wrap64 (x6_1 + 1))) else (none)) = some r := H
         have A50 := Aside0.mk A500
         clear A500
         by_cases c51 : x3_1.length < 4398046511104
         ·rw [if_pos c51] at H
          have LMc51 := Aside0.mk c51
          clear c51
          obtain ⟨y288,hy288⟩ : ∃ y_ : List (S61),y_ = (x3_1 ++ [(⟨x5_1,wrap64 (x5_1 + ((rd_T42 t270 x6_1).f1)),t286,t287⟩ : S61)]) := ⟨_,rfl⟩
          replace H : (bodkinref03_List.l0 kj4 y288 t270 (wrap64 (x5_1 + ((rd_T42 t270 x6_1).f1))) (wrap64 (x6_1 + 1))) = some r := by first | (rw [hy288];with_reducible exact H) | (have H2_ := (Option.bind_some _ _).symm.trans H;rw [hy288];with_reducible exact H2_) | (have H2_ := (Option.bind_some _ _).symm.trans H;with_reducible exact H2_) | with_reducible exact H | (rw [hy288];exact H) | exact H
          have Ny288 := Aside0.mk hy288
          clear hy288
          have H' := Aside0.mk H
          clear H
          have p284 : 0 ≤ (x6_1 : Int) := of_decide_eq_true au4
          have q284 : x6_1 < (t270.length : Int) := of_decide_eq_true au4
          obtain ⟨ad284,e284,hx284_0,hx284_1⟩ := at_T42 (Kd.R_reads' HO_4.out).2.2 x6_1 p284 q284
          cases e284
          replace p284 := eq_true p284
          replace q284 := eq_true q284
          try go_wp2
          have n0_ := Aside0.mk (Kd.R_drew HO_3.out)
          have n1_ := Aside0.mk (Kd.R_drew HO_4.out)
          have n2_ := Aside0.mk (below_drew1 HB.out)
          clear HO_3
          clear HO_4
          clear HB
          have HO_3 := n0_
          have HO_4 := n1_
          have HB := n2_
          clear n0_ n1_ n2_
          have p285 : 0 ≤ (x6_1 : Int) := of_decide_eq_true au4
          have q285 : x6_1 < (t270.length : Int) := of_decide_eq_true au4
          obtain ⟨ad285,e285,hx285_0,hx285_1⟩ := at_T42 (Kd.R_reads' HO_4.out).2.2 x6_1 p285 q285
          obtain rfl : ad284 = ad285 := (by injection e285)
          replace p285 := eq_true p285
          replace q285 := eq_true q285
          refine start_ (n := 17) (S := fun w' => w'.cell? (ad284.add ((x6_1).toNat * 2)) = some (.int .i32 ((rd_T42 t270 x6_1).f0)) ∧ w'.cell? ⟨(ad284.add ((x6_1).toNat * 2)).block,(ad284.add ((x6_1).toNat * 2)).off + 1,none⟩ = some (.int .i64 ((rd_T42 t270 x6_1).f1))) (ds := [14,15]) #[false,false,false,false,false,false,false,false,false,false,false,false,false,false,false,false,false] (by kernel_rfl) rfl rfl ⟨hx285_0,hx285_1⟩ (fun hHeld => ?_);refine with_tabW bodkinref03_List.tab15 bodkinref03_List.bits15 (fun HT_ HW_ => ?_)
          generalize wc.drew = w52 at HO_3 HO_4 HB hx285_0 hx285_1 hHeld ⊢
          refine pure_ (i := 0) (N := some 64) (v := ?_) (a' := ?_) #[true,false,false,false,false,false,false,false,false,false,false,false,false,false,false,false,false] rfl rfl (any_of HT_.out (by kernel_rfl)) (fun _ _ _ h => h) (Or.inl ⟨by rfl,?_⟩) ?_ ?_
          rotate_left
          ·intro w'
           go_simp
           with_reducible rfl
          rotate_left
          ·simp only [Act.put,List.setIfInBounds_toArray,List.set_cons_zero,List.set_cons_succ,i64_w,i32_w]
           rfl
          refine pure_ (i := 1) (N := some 65) (v := ?_) (a' := ?_) #[true,true,false,false,false,false,false,false,false,false,false,false,false,false,false,false,false] rfl rfl (any_of HT_.out (by kernel_rfl)) (fun _ _ _ h => h) (Or.inl ⟨by rfl,?_⟩) ?_ ?_
          rotate_left
          ·intro w'
           go_simp
           with_reducible rfl
          rotate_left
          ·simp only [Act.put,List.setIfInBounds_toArray,List.set_cons_zero,List.set_cons_succ,i64_w,i32_w]
           rfl
          refine pure_ (i := 2) (N := some 66) (v := ?_) (a' := ?_) #[true,true,true,false,false,false,false,false,false,false,false,false,false,false,false,false,false] rfl rfl (any_of HT_.out (by kernel_rfl)) (fun _ _ _ h => h) (Or.inl ⟨by rfl,?_⟩) ?_ ?_
          rotate_left
          ·intro w'
           go_simp
           with_reducible rfl
          rotate_left
          ·simp only [Act.put,List.setIfInBounds_toArray,List.set_cons_zero,List.set_cons_succ,i64_w,i32_w]
           rfl
          refine pure_ (i := 3) (N := some 67) (v := ?_) (a' := ?_) #[true,true,true,true,false,false,false,false,false,false,false,false,false,false,false,false,false] rfl rfl (any_of HT_.out (by kernel_rfl)) (fun _ _ _ h => h) (Or.inl ⟨by rfl,?_⟩) ?_ ?_
          rotate_left
          ·intro w'
           go_simp
           with_reducible rfl
          rotate_left
          ·simp only [Act.put,List.setIfInBounds_toArray,List.set_cons_zero,List.set_cons_succ,i64_w,i32_w]
           rfl
          refine pure_ (i := 4) (N := some 68) (v := ?_) (a' := ?_) #[true,true,true,true,true,false,false,false,false,false,false,false,false,false,false,false,false] rfl rfl (any_of HT_.out (by kernel_rfl)) (fun _ _ _ h => h) (Or.inl ⟨by rfl,?_⟩) ?_ ?_
          rotate_left
          ·intro w'
           go_simp
           with_reducible rfl
          rotate_left
          ·simp only [Act.put,List.setIfInBounds_toArray,List.set_cons_zero,List.set_cons_succ,i64_w,i32_w]
           rfl
          refine pure_ (i := 5) (N := some 69) (v := ?_) (a' := ?_) #[true,true,true,true,true,true,false,false,false,false,false,false,false,false,false,false,false] rfl rfl (any_of HT_.out (by kernel_rfl)) (fun _ _ _ h => h) (Or.inl ⟨by rfl,?_⟩) ?_ ?_
          rotate_left
          ·intro w'
           go_simp
           with_reducible rfl
          rotate_left
          ·simp only [Act.put,List.setIfInBounds_toArray,List.set_cons_zero,List.set_cons_succ,i64_w,i32_w]
           rfl
          refine pure_ (i := 6) (N := some 70) (v := ?_) (a' := ?_) #[true,true,true,true,true,true,true,false,false,false,false,false,false,false,false,false,false] rfl rfl (any_of HT_.out (by kernel_rfl)) (fun _ _ _ h => h) (Or.inl ⟨by rfl,?_⟩) ?_ ?_
          rotate_left
          ·intro w'
           go_simp
           with_reducible rfl
          rotate_left
          ·simp only [Act.put,List.setIfInBounds_toArray,List.set_cons_zero,List.set_cons_succ,i64_w,i32_w]
           rfl
          refine pure_ (i := 9) (N := some 73) (v := ?_) (a' := ?_) #[true,true,true,true,true,true,true,false,false,true,false,false,false,false,false,false,false] rfl rfl (any_of HT_.out (by kernel_rfl)) (fun _ _ _ h => h) (Or.inl ⟨by rfl,?_⟩) ?_ ?_
          rotate_left
          ·intro w'
           go_simp
           with_reducible rfl
          rotate_left
          ·simp only [Act.put,List.setIfInBounds_toArray,List.set_cons_zero,List.set_cons_succ,i64_w,i32_w]
           rfl
          refine pure_ (i := 11) (N := some 75) (v := ?_) (a' := ?_) #[true,true,true,true,true,true,true,false,false,true,false,true,false,false,false,false,false] rfl rfl (any_of HT_.out (by kernel_rfl)) (fun _ _ _ h => h) (Or.inl ⟨by rfl,?_⟩) ?_ ?_
          rotate_left
          ·intro w'
           go_simp
           with_reducible rfl
          rotate_left
          ·simp only [Act.put,List.setIfInBounds_toArray,List.set_cons_zero,List.set_cons_succ,i64_w,i32_w]
           rfl
          refine take_ (i := 7) (N := some 71) (v := ?_) (a' := ?_) #[true,true,true,true,true,true,true,true,false,true,false,true,false,false,false,false,false] rfl rfl (take_ofW HT_.out HW_.out (by kernel_rfl)) (fun _ _ _ h => h) (Or.inl ⟨by rfl,?_⟩) hHeld ?_ ?_
          rotate_left
          ·rintro w' ⟨s0,s1⟩
           go_simp
           with_reducible rfl
          rotate_left
          ·simp only [Act.put,List.setIfInBounds_toArray,List.set_cons_zero,List.set_cons_succ,i64_w,i32_w]
           rfl
          refine pure_ (i := 8) (N := some 72) (v := ?_) (a' := ?_) #[true,true,true,true,true,true,true,true,true,true,false,true,false,false,false,false,false] rfl rfl (any_of HT_.out (by kernel_rfl)) (fun _ _ _ h => h) (Or.inl ⟨by rfl,?_⟩) ?_ ?_
          rotate_left
          ·intro w'
           go_simp
           with_reducible rfl
          rotate_left
          ·simp only [Act.put,List.setIfInBounds_toArray,List.set_cons_zero,List.set_cons_succ,i64_w,i32_w]
           rfl
          refine one_ (i := 10) (N := some 74) #[true,true,true,true,true,true,true,true,true,true,true,true,false,false,false,false,false] rfl rfl (one_of HT_.out (by kernel_rfl)) (by decide) (fun K hK => ?_)
          refine goes_ Tryd.func41 (by kernel_rfl) rfl #[.int .i32 ((rd_T42 t270 x6_1).f0)] (by rfl) rfl rfl au1 ?_
          with_reducible refine (bodkinref02_Class.calls kj4 ((rd_T42 t270 x6_1).f0) t286 _ A49.out).mono ?_
          rintro e w53 ⟨rfl,hb⟩
          have HS0_ := (hb.cell (World.block_lt_of_cell? _ _ (hHeld.1))).trans (hHeld.1)
          have HS1_ := (hb.cell (World.block_lt_of_cell? _ _ (hHeld.2))).trans (hHeld.2)
          refine ⟨_,rfl,?_⟩
          have n0_ := Aside0.mk (Kd.R_below au5 hb)
          have n1_ := Aside0.mk (Kd.R_below au8 hb)
          have n2_ := Aside0.mk (below_step au0 hb)
          clear HO_3
          clear HO_4
          clear HB
          have HO_3 := n0_
          have HO_4 := n1_
          have HB := n2_
          clear n0_ n1_ n2_
          (try clear hb)
          (try clear hb2)
          (try clear hk)
          (try clear hi)
          refine hK.out _ _ ⟨HS0_,HS1_⟩ (fun hHeld => ?_)
          clear hK K
          refine norm_ (a' := ?_) ?_ ?_
          rotate_left
          ·show Act.put _ (some 74) _ = _
           simp only [Act.put,List.setIfInBounds_toArray,List.set_cons_zero,List.set_cons_succ,i64_w,i32_w]
           rfl
          refine one_ (i := 12) (N := some 76) #[true,true,true,true,true,true,true,true,true,true,true,true,true,false,false,false,false] rfl rfl (one_of HT_.out (by kernel_rfl)) (by decide) (fun K hK => ?_)
          refine goes_ Tryd.func68 (by kernel_rfl) rfl #[.int .i32 ((rd_T42 t270 x6_1).f0)] (by rfl) rfl rfl au1 ?_
          with_reducible refine (bodkinref02_Cells.calls kj4 ((rd_T42 t270 x6_1).f0) t287 _ A50.out).mono ?_
          rintro e w54 ⟨rfl,hb⟩
          have HS0_ := (hb.cell (World.block_lt_of_cell? _ _ (hHeld.1))).trans (hHeld.1)
          have HS1_ := (hb.cell (World.block_lt_of_cell? _ _ (hHeld.2))).trans (hHeld.2)
          refine ⟨_,rfl,?_⟩
          have n0_ := Aside0.mk (Kd.R_below au5 hb)
          have n1_ := Aside0.mk (Kd.R_below au8 hb)
          have n2_ := Aside0.mk (below_step au0 hb)
          clear HO_3
          clear HO_4
          clear HB
          have HO_3 := n0_
          have HO_4 := n1_
          have HB := n2_
          clear n0_ n1_ n2_
          (try clear hb)
          (try clear hb2)
          (try clear hk)
          (try clear hi)
          refine hK.out _ _ ⟨HS0_,HS1_⟩ (fun hHeld => ?_)
          clear hK K
          refine norm_ (a' := ?_) ?_ ?_
          rotate_left
          ·show Act.put _ (some 76) _ = _
           simp only [Act.put,List.setIfInBounds_toArray,List.set_cons_zero,List.set_cons_succ,i64_w,i32_w]
           rfl
          refine pure_ (i := 13) (N := some 77) (v := ?_) (a' := ?_) #[true,true,true,true,true,true,true,true,true,true,true,true,true,true,false,false,false] rfl rfl (any_of HT_.out (by kernel_rfl)) (fun _ _ _ h => h) (Or.inl ⟨by rfl,?_⟩) ?_ ?_
          rotate_left
          ·intro w'
           go_simp
           with_reducible rfl
          rotate_left
          ·simp only [Act.put,List.setIfInBounds_toArray,List.set_cons_zero,List.set_cons_succ,i64_w,i32_w]
           rfl
          refine last_ (i := 14) (N := some 78) #[true,true,true,true,true,true,true,true,true,true,true,true,true,true,true,false,false] rfl rfl (one_of HT_.out (by kernel_rfl)) (by decide) (fun K hK => ?_)
          refine value_ (w1 := ?_) (v := ?_) (by rfl) rfl ?_ ?_
          rotate_left 2
          ·go_simp
           constructor
           ·rfl
           ·rfl
          refine hK.out _ _ ?_
          clear hK K
          refine norm_ (a' := ?_) ?_ ?_
          rotate_left
          ·show Act.put _ (some 78) _ = _
           simp only [Act.put,List.setIfInBounds_toArray,List.set_cons_zero,List.set_cons_succ,i64_w,i32_w]
           rfl
          refine last_ (i := 15) (N := some 79) #[true,true,true,true,true,true,true,true,true,true,true,true,true,true,true,true,false] rfl rfl (one_of HT_.out (by kernel_rfl)) (by decide) (fun K hK => ?_)
          refine Kd.R_append_step k61 (w0 := w) w.heap.size (by rfl) (.tmp 64) (.tmp 78) 57 61 (.agg #[(.int .i64 0),(.int .i64 0),(.int .i64 0),(.int .i64 0)]) 32 rfl Tryd.underlying57 info61 rfl (by decide) (by omega) u3 x3_1 (⟨x5_1,wrap64 (x5_1 + ((rd_T42 t270 x6_1).f1)),t286,t287⟩ : S61) [.int .i64 x5_1,.int .i64 (wrap64 (x5_1 + ((rd_T42 t270 x6_1).f1))),.int .i64 t286,.int .i64 t287] (fun _ => True) (fun _ => False) rfl rfl ?aP (fun _ hk => hk.elim) ?aF ?aO ?aB ?aS ?aL ?_
          (case aP => exact k61_mkM _ _ _ (⟨x5_1,wrap64 (x5_1 + ((rd_T42 t270 x6_1).f1)),t286,t287⟩ : S61))
          (case aB => exact au0)
          (case aF => exact (fun _ _ => trivial))
          (case aO => exact au5)
          (case aS => exact (below_size au0))
          (case aL => have := LMc51.out;omega)
          intro v289 w55 ho hb hg hat
          rw [← Ny288.out] at ho
          have n0_ := Aside0.mk (Kd.R_over' au8 (Kd.R_typed au5) (by decide) hg)
          have n1_ := Aside0.mk (hb)
          have n2_ := Aside0.mk (ho)
          clear HO_4
          clear HB
          clear HO_3
          have HO_4 := n0_
          have HB := n1_
          have HO290 := n2_
          clear n0_ n1_ n2_
          clear ho hb hg hat
          refine hK.out _ _ ?_
          clear hK K
          refine norm_ (a' := ?_) ?_ ?_
          rotate_left
          ·show Act.put _ (some 79) _ = _
           simp only [Act.put,List.setIfInBounds_toArray,List.set_cons_zero,List.set_cons_succ,i64_w,i32_w]
           rfl
          refine pure_ (i := 16) (N := some 3) (v := ?_) (a' := ?_) #[true,true,true,true,true,true,true,true,true,true,true,true,true,true,true,true,true] rfl rfl (any_of HT_.out (by kernel_rfl)) (fun _ _ _ h => h) (Or.inl ⟨by rfl,?_⟩) ?_ ?_
          rotate_left
          ·intro w'
           go_simp
           with_reducible rfl
          rotate_left
          ·simp only [Act.put,List.setIfInBounds_toArray,List.set_cons_zero,List.set_cons_succ,i64_w,i32_w]
           rfl
          refine done_ (done_of HT_.out (by kernel_rfl)) ?_
          have p291 : 0 ≤ (x6_1 : Int) := of_decide_eq_true au4
          have q291 : x6_1 < (t270.length : Int) := of_decide_eq_true au4
          obtain ⟨ad291,e291,hx291_0,hx291_1⟩ := at_T42 (Kd.R_reads' HO_4.out).2.2 x6_1 p291 q291
          obtain rfl : ad284 = ad291 := (by injection e291)
          replace p291 := eq_true p291
          replace q291 := eq_true q291
          try go_wp2
          go_roundg kj4
          case measure => have := HK1.out;have := HJ4.out;omega
          case rel => exact ⟨(y288),(wrap64 (x5_1 + ((rd_T42 t270 x6_1).f1))),(wrap64 (x6_1 + 1)),au3,au3,H',⟨by have := HK1.out;have := HJ4.out;omega⟩,⟨by (with_reducible repeat (first | apply Kd.R_alloc | apply Kd.R_drewN | apply Kd.R_drew));exact HO290.out⟩,⟨by (with_reducible repeat (first | apply Kd.R_alloc | apply Kd.R_drewN | apply Kd.R_drew));exact HO_4.out⟩,⟨au0⟩⟩
         ·rw [if_neg c51] at H
          exact absurd H (by simp)
        ·rw [if_neg c48] at H
         exact absurd H (by simp)
       ·rw [if_neg c47] at H
        exact absurd H (by simp)
   ·rw [if_neg c4] at H
    have c4b0 : decide (x6_1 < (t270.length : Int)) = false := decide_eq_false c4
    clear c4
    obtain rfl := Option.some.inj H
    obtain ⟨Ao56,co56,eo56⟩ := Kd.R_slice HO_4.out
    subst eo56
    go_wp2
    go_ret
    exact ⟨_,by first | rfl | (simp [errW_none,errW_some] <;> rfl) | (simp [*,errW_none,errW_some] <;> rfl),by (with_reducible repeat (first | apply Kd.R_alloc | apply Kd.R_drewN | apply Kd.R_drew));exact HO_3.out,au0⟩
end Go.Proofs.YtkficbgnjpekaaaDoor.U
end
section
namespace Go.Proofs.YtkficbgnjpekaaaDoor.U
open Go.RowKit Go.Proofs.YtkficbgnjpekaaaDoorW.PrintWords Go.Proofs.YtkficbgnjpekaaaDoorW.PrintLast Go.Proofs.YtkficbgnjpekaaaDoorW.PrintMore
attribute [local go_sem] max2_int min2_int max_two min_two max_three min_three max_four min_four   -- for this text's walks alone
set_option linter.unusedVariables false
set_option linter.unusedSimpArgs false
def bodkinref01_At.l0 : Nat → Int → List (S42) → Int → Int → Option (Int × Int × Bool)
 | 0,_,_,_,_ => none
 | k + 1,x1,x6,x7,x8 => if x8 < (x6.length : Int) then (if x7 = x1 then (if 0 ≤ x8 then (some ((rd_T42 x6 x8).f0,(rd_T42 x6 x8).f1,true)) else (none)) else (if 0 ≤ x8 then (bodkinref01_At.l0 k x1 x6 (wrap64 (x7 + ((rd_T42 x6 x8).f1))) (wrap64 (x8 + 1))) else (none))) else (some (0,0,false))
def bodkinref01_At.f (k : Nat) (a0 : ByteArray) (a1 : Int) : Option (Int × Int × Bool) := (bodkinref01_Units.f k a0).bind fun t293 => (bodkinref01_At.l0 k a1 t293 0 0)
set_option maxHeartbeats 8000000 in
set_option maxRecDepth 100000 in
theorem bodkinref01_At.calls (k : Nat) (a0 : ByteArray) (a1 : Int) (r1 : Int) (r2 : Int) (r3 : Bool) (w : World) (h : bodkinref01_At.f k a0 a1 = some (r1,r2,r3)) :
  Calls Tryd.prog 59 #[.string a0,.int .i64 a1] w fun e w' => e = .returned (.tuple #[.agg #[.int .i32 r1,.int .i64 r2],.bool r3]) ∧ Below w.heap.size w w' := by
 have hu42 := Tryd.underlying42
 have HB := Aside0.mk (Below.refl w.heap.size w)
 have H : ((bodkinref01_Units.f k a0).bind fun t293 => (bodkinref01_At.l0 k a1 t293 0 0)) = some (r1,r2,r3) := h
 clear h
 replace H := Option.bind_eq_some_iff.mp H
 obtain ⟨t293,A30,H⟩ := H
 replace H : (bodkinref01_At.l0 k a1 t293 0 0) = some (r1,r2,r3) := H
 have A3 := Aside0.mk A30
 clear A30
 have H' := Aside0.mk H
 clear H
 go_enter Tryd.func59,Tryd.ntmps59
 go_wp2_with (first | ((with_reducible refine gate_dst (N := 4) rfl ?_);refine box_event ?hg (N := 4) ?hd (cs := #[.int .i32 0,.int .i64 0]) (t := 42) ?hr ?_;(case hd => rfl);(case hg => rfl);(case hr => first | (go_simp;done) | (go_simp;rfl));intro gb292 hg w4 hbox hb;have n0_ := Aside0.mk (below_step au0 hb);have n1_ := Aside0.mk (hbox);have n2_ := Aside0.mk ((by rw [hg];exact (below_size au0) : w.heap.size ≤ gb292));have n3_ := Aside0.mk ((by rw [hg];exact (below_size au0) : w.heap.size ≤ gb292));clear HB;have HB := n0_;have BK292 := n1_;have GW292 := n2_;have GE292 := n3_;clear n0_ n1_ n2_ n3_;clear hb hbox hg) | ((with_reducible refine gate_callee (f := 66) rfl ?_);refine goesL_ (some 10) rfl rfl Tryd.func66 (by kernel_rfl) rfl #[.string a0] rfl au1 ?_;(with_reducible refine (bodkinref01_Units.calls k a0 t293 _ A3.out).mono ?_);rintro e w5 ⟨v294,rfl,ho0,hb⟩;refine ⟨_,rfl,?_⟩;have n0_ := Aside0.mk (Kd.R_lower (Kd.R_newB ho0 (g := gb292) (o := .cells #[.int .i32 0,.int .i64 0] 42 (0,0)) (by (with_reducible repeat (first | refine blk_drewN ?_ _ | refine blk_drew ?_ | refine blk_alloc ?_ _));exact BK292.out)) (below_size (by repeat (first | (with_reducible first | exact HB.out | apply below_alloc | apply pw_below_drewN | apply below_drew1 | refine below_set ?_ GE292.out) | exact HB.out))));have n1_ := Aside0.mk (blk_below (g := gb292) (o := .cells #[.int .i32 0,.int .i64 0] 42 (0,0)) (by (with_reducible repeat (first | refine blk_drewN ?_ _ | refine blk_drew ?_ | refine blk_alloc ?_ _));exact BK292.out) hb);have n2_ := Aside0.mk (below_step (by repeat (first | (with_reducible first | exact HB.out | apply below_alloc | apply pw_below_drewN | apply below_drew1 | refine below_set ?_ GE292.out) | exact HB.out)) hb);clear BK292;clear HB;have HO295 := n0_;have BK292 := n1_;have HB := n2_;clear n0_ n1_ n2_;(try clear hb);(try clear hb2);(try clear hk);(try clear hi);(try clear ho0)))
 go_loopg [7,8] k (fun kq v7 v8 w' => ∃ (x7_1 : Int) (x8_1 : Int) (x293000_1 : Int) (x293001_1 : Int),v7 = .int .i64 x7_1 ∧ v8 = .int .i64 x8_1 ∧ Aside0 (bodkinref01_At.l0 kq a1 t293 x7_1 x8_1 = some (r1,r2,r3)) ∧ Aside0 (kq ≤ k) ∧ Aside0 (Kd.R k42 42 w' w.heap.size (fun k_ => k_ ≠ gb292) v294 t293) ∧ Aside0 (w'.heap[gb292]? = some (.cells #[.int .i32 x293000_1,.int .i64 x293001_1] 42 (0,0))) ∧ Aside0 (Below w.heap.size w w'))
 case atStart => exact ⟨(0),(0),(0),(0),au3,au3,H',⟨Nat.le_refl _⟩,⟨by (with_reducible repeat (first | apply Kd.R_alloc | apply Kd.R_drewN | apply Kd.R_drew));exact Kd.R_mono HO295.out (fun _ hk => hk.2)⟩,⟨by (with_reducible repeat (first | refine blk_drewN ?_ _ | refine blk_drew ?_ | refine blk_alloc ?_ _));exact BK292.out⟩,⟨by repeat (first | (with_reducible first | exact HB.out | apply below_alloc | apply pw_below_drewN | apply below_drew1 | refine below_set ?_ GE292.out) | exact HB.out)⟩⟩
 case round =>
  clear H'
  try clear p2
  try clear c5
  obtain ⟨x7_1,x8_1,x293000_1,x293001_1,rfl,rfl,HA,HK1,HO_6,BK292,HB⟩ := hrel
  cases gk with
  | zero => exact absurd HA.out (by simp [bodkinref01_At.l0])
  | succ k1 =>
   have H := HA.out
   clear HA
   simp only [bodkinref01_At.l0] at H
   by_cases c6 : x8_1 < (t293.length : Int)
   ·rw [if_pos c6] at H
    have c6b0 : decide (x8_1 < (t293.length : Int)) = true := decide_eq_true c6
    clear c6
    by_cases c7 : x7_1 = a1
    ·rw [if_pos c7] at H
     have c7b0 : (x7_1 == a1) = true := beq_iff_eq.mpr c7
     have c7b1 : (x7_1 != a1) = false := bne_eq_false_iff_eq.mpr c7
     clear c7
     by_cases c8 : 0 ≤ x8_1
     ·rw [if_pos c8] at H
      have c8b0 : decide (0 ≤ x8_1) = true := decide_eq_true c8
      clear c8
      simp only [Option.some.injEq,Prod.mk.injEq] at H
      obtain ⟨rfl,rfl,rfl⟩ := H
      obtain ⟨Ao9,co9,eo9⟩ := Kd.R_slice HO_6.out
      subst eo9
      have p296 : 0 ≤ (x8_1 : Int) := of_decide_eq_true au4
      have q296 : x8_1 < (t293.length : Int) := of_decide_eq_true au4
      obtain ⟨ad296,e296,hx296_0,hx296_1⟩ := at_T42 (Kd.R_reads' HO_6.out).2.2 x8_1 p296 q296
      cases e296
      replace p296 := eq_true p296
      replace q296 := eq_true q296
      have hcz10_0 : wr.cell? ⟨gb292,0,none⟩ = some (.int .i32 x293000_1) := (blk_cell BK292.out 0).trans rfl
      have hcz10_1 : wr.cell? ⟨gb292,1,none⟩ = some (.int .i64 x293001_1) := (blk_cell BK292.out 1).trans rfl
      have hfz10_0 := blk_frozen BK292.out 0
      have hfz10_1 := blk_frozen BK292.out 1
      go_wp2
      refine bodyPost_ret (results_ct rfl _ _ gb292 42 #[.int .i32 ((rd_T42 t293 x8_1).f0),.int .i64 ((rd_T42 t293 x8_1).f1)] (0,0) _ rfl (by (with_reducible repeat (first | refine blk_drewN ?_ _ | refine blk_drew ?_ | refine blk_alloc ?_ _));refine blk_put (cs := #[.int .i32 ((rd_T42 t293 x8_1).f0),.int .i64 x293001_1]) ?_ 1 _ rfl;(with_reducible repeat (first | refine blk_drewN ?_ _ | refine blk_drew ?_ | refine blk_alloc ?_ _));refine blk_put (cs := #[.int .i32 x293000_1,.int .i64 x293001_1]) ?_ 0 _ rfl;(with_reducible repeat (first | refine blk_drewN ?_ _ | refine blk_drew ?_ | refine blk_alloc ?_ _));exact BK292.out) Tryd.underlying42 rfl (by kernel_rfl)) rfl ?_
      exact ⟨au2,by repeat (first | (with_reducible first | exact HB.out | apply below_alloc | apply pw_below_drewN | apply below_drew1 | refine below_set ?_ GE292.out) | exact HB.out)⟩
     ·rw [if_neg c8] at H
      exact absurd H (by simp)
    ·rw [if_neg c7] at H
     have c7b0 : (x7_1 == a1) = false := beq_eq_false_iff_ne.mpr c7
     have c7b1 : (x7_1 != a1) = true := bne_iff_ne.mpr c7
     by_cases c11 : 0 ≤ x8_1
     ·rw [if_pos c11] at H
      have c11b0 : decide (0 ≤ x8_1) = true := decide_eq_true c11
      clear c11
      have H' := Aside0.mk H
      clear H
      obtain ⟨Ao12,co12,eo12⟩ := Kd.R_slice HO_6.out
      subst eo12
      have p297 : 0 ≤ (x8_1 : Int) := of_decide_eq_true au4
      have q297 : x8_1 < (t293.length : Int) := of_decide_eq_true au4
      obtain ⟨ad297,e297,hx297_0,hx297_1⟩ := at_T42 (Kd.R_reads' HO_6.out).2.2 x8_1 p297 q297
      cases e297
      replace p297 := eq_true p297
      replace q297 := eq_true q297
      go_wp2
      go_roundg k1
      case measure => have := HK1.out;omega
      case rel => exact ⟨(wrap64 (x7_1 + ((rd_T42 t293 x8_1).f1))),(wrap64 (x8_1 + 1)),(x293000_1),(x293001_1),au3,au3,H',⟨by have := HK1.out;omega⟩,⟨by (with_reducible repeat (first | apply Kd.R_alloc | apply Kd.R_drewN | apply Kd.R_drew));exact HO_6.out⟩,⟨by (with_reducible repeat (first | refine blk_drewN ?_ _ | refine blk_drew ?_ | refine blk_alloc ?_ _));exact BK292.out⟩,⟨by repeat (first | (with_reducible first | exact HB.out | apply below_alloc | apply pw_below_drewN | apply below_drew1 | refine below_set ?_ GE292.out) | exact HB.out)⟩⟩
     ·rw [if_neg c11] at H
      exact absurd H (by simp)
   ·rw [if_neg c6] at H
    have c6b0 : decide (x8_1 < (t293.length : Int)) = false := decide_eq_false c6
    clear c6
    simp only [Option.some.injEq,Prod.mk.injEq] at H
    obtain ⟨rfl,rfl,rfl⟩ := H
    obtain ⟨Ao13,co13,eo13⟩ := Kd.R_slice HO_6.out
    subst eo13
    have hcz14_0 : wr.cell? ⟨gb292,0,none⟩ = some (.int .i32 x293000_1) := (blk_cell BK292.out 0).trans rfl
    have hcz14_1 : wr.cell? ⟨gb292,1,none⟩ = some (.int .i64 x293001_1) := (blk_cell BK292.out 1).trans rfl
    have hfz14_0 := blk_frozen BK292.out 0
    have hfz14_1 := blk_frozen BK292.out 1
    go_wp2
    refine bodyPost_ret (results_ct rfl _ _ gb292 42 #[.int .i32 0,.int .i64 0] (0,0) _ rfl (by (with_reducible repeat (first | refine blk_drewN ?_ _ | refine blk_drew ?_ | refine blk_alloc ?_ _));refine blk_put (cs := #[.int .i32 0,.int .i64 x293001_1]) ?_ 1 _ rfl;(with_reducible repeat (first | refine blk_drewN ?_ _ | refine blk_drew ?_ | refine blk_alloc ?_ _));refine blk_put (cs := #[.int .i32 x293000_1,.int .i64 x293001_1]) ?_ 0 _ rfl;(with_reducible repeat (first | refine blk_drewN ?_ _ | refine blk_drew ?_ | refine blk_alloc ?_ _));exact BK292.out) Tryd.underlying42 rfl (by kernel_rfl)) rfl ?_
    exact ⟨au2,by repeat (first | (with_reducible first | exact HB.out | apply below_alloc | apply pw_below_drewN | apply below_drew1 | refine below_set ?_ GE292.out) | exact HB.out)⟩
def bodkinref05_wordly.f (k : Nat) (a0 : ByteArray) (a1_0 : Int) (a1_1 : Int) (a1_2 : Int) (a1_3 : Int) : Option (Bool) := if 0 ≤ a1_0 then (if a1_0 ≤ a1_1 then (if a1_1 ≤ (a0.size : Int) then ((bodkinref01_At.f k (a0.extract (a1_0 : Int).toNat (a1_1 : Int).toNat) 0).bind fun bt299 => (if bt299.2.2 = true then ((bodkinref05_IsWord.f k bt299.1).bind fun t303 => (some t303)) else (some false))) else (none)) else (none)) else (none)
set_option maxHeartbeats 8000000 in
set_option maxRecDepth 100000 in
theorem bodkinref05_wordly.calls (k : Nat) (a0 : ByteArray) (a1_0 : Int) (a1_1 : Int) (a1_2 : Int) (a1_3 : Int) (r : Bool) (w : World) (h : bodkinref05_wordly.f k a0 a1_0 a1_1 a1_2 a1_3 = some r) :
  Calls Tryd.prog 45 #[.string a0,.agg #[.int .i64 a1_0,.int .i64 a1_1,.int .i64 a1_2,.int .i64 a1_3]] w fun e w' => e = .returned (.bool r) ∧ Below w.heap.size w w' := by
 have hu61 := Tryd.underlying61
 have hu42 := Tryd.underlying42
 have HB := Aside0.mk (Below.refl w.heap.size w)
 have H : (if 0 ≤ a1_0 then (if a1_0 ≤ a1_1 then (if a1_1 ≤ (a0.size : Int) then ((bodkinref01_At.f k (a0.extract (a1_0 : Int).toNat (a1_1 : Int).toNat) 0).bind fun bt299 => (if bt299.2.2 = true then ((bodkinref05_IsWord.f k bt299.1).bind fun t303 => (some t303)) else (some false))) else (none)) else (none)) else (none)) = some r := h
 clear h
 by_cases c3 : 0 ≤ a1_0
 ·rw [if_pos c3] at H
  have c3b0 := eq_true c3
  have c3b1 : decide (0 ≤ a1_0) = true := decide_eq_true c3
  clear c3
  by_cases c4 : a1_0 ≤ a1_1
  ·rw [if_pos c4] at H
   have c4b0 := eq_true c4
   have c4b1 : decide (a1_0 ≤ a1_1) = true := decide_eq_true c4
   clear c4
   by_cases c5 : a1_1 ≤ (a0.size : Int)
   ·rw [if_pos c5] at H
    have c5b0 := eq_true c5
    have c5b1 : decide (a1_1 ≤ (a0.size : Int)) = true := decide_eq_true c5
    clear c5
    replace H := Option.bind_eq_some_iff.mp H
    obtain ⟨⟨t299,t300,t301⟩,A60,H⟩ := H
    replace H : (if t301 = true then ((bodkinref05_IsWord.f k t299).bind fun t303 => (some t303)) else (some false)) = some r := H
    have A6 := Aside0.mk A60
    clear A60
    by_cases c7 : t301 = true
    ·subst c7
     have H1 : ((bodkinref05_IsWord.f k t299).bind fun t303 => (some t303)) = some r := by rw [if_pos rfl] at H;exact H
     clear H
     have H := H1
     clear H1
     replace H := Option.bind_eq_some_iff.mp H
     obtain ⟨t303,A80,H⟩ := H
     replace H : (some t303) = some r := H
     have A8 := Aside0.mk A80
     clear A80
     obtain rfl := Option.some.inj H
     go_enter Tryd.func45,Tryd.ntmps45
     go_wp2_with (first | ((with_reducible refine gate_dst (N := 3) rfl ?_);refine box_event ?hg (N := 3) ?hd (cs := #[.int .i64 a1_0,.int .i64 a1_1,.int .i64 a1_2,.int .i64 a1_3]) (t := 61) ?hr ?_;(case hd => rfl);(case hg => rfl);(case hr => first | (go_simp;done) | (go_simp;rfl));intro gb298 hg w9 hbox hb;have n0_ := Aside0.mk (below_step au0 hb);have n1_ := Aside0.mk (hbox);have n2_ := Aside0.mk ((by rw [hg];exact (below_size au0) : w.heap.size ≤ gb298));have n3_ := Aside0.mk ((by rw [hg];exact (below_size au0) : w.heap.size ≤ gb298));clear HB;have HB := n0_;have BK298 := n1_;have GW298 := n2_;have GE298 := n3_;clear n0_ n1_ n2_ n3_;clear hb hbox hg;have hcz10_0 : w9.cell? ⟨gb298,0,none⟩ = some (.int .i64 a1_0) := (blk_cell BK298.out 0).trans rfl;have hcz10_1 : w9.cell? ⟨gb298,1,none⟩ = some (.int .i64 a1_1) := (blk_cell BK298.out 1).trans rfl;have hcz10_2 : w9.cell? ⟨gb298,2,none⟩ = some (.int .i64 a1_2) := (blk_cell BK298.out 2).trans rfl;have hcz10_3 : w9.cell? ⟨gb298,3,none⟩ = some (.int .i64 a1_3) := (blk_cell BK298.out 3).trans rfl;have hfz10_0 := blk_frozen BK298.out 0;have hfz10_1 := blk_frozen BK298.out 1;have hfz10_2 := blk_frozen BK298.out 2;have hfz10_3 := blk_frozen BK298.out 3) | ((with_reducible refine gate_callee (f := 59) rfl ?_);refine goesL_ (some 14) rfl rfl Tryd.func59 (by kernel_rfl) rfl #[.string (a0.extract (a1_0 : Int).toNat (a1_1 : Int).toNat),.int .i64 0] rfl au1 ?_;(with_reducible refine (bodkinref01_At.calls k (a0.extract (a1_0 : Int).toNat (a1_1 : Int).toNat) 0 t299 t300 true _ A6.out).mono ?_);rintro e w11 ⟨rfl,hb⟩;refine ⟨_,rfl,?_⟩;have n0_ := Aside0.mk (blk_below (g := gb298) (o := .cells #[.int .i64 a1_0,.int .i64 a1_1,.int .i64 a1_2,.int .i64 a1_3] 61 (0,0)) au24 hb);have n1_ := Aside0.mk (below_step au13 hb);clear BK298;clear HB;have BK298 := n0_;have HB := n1_;clear n0_ n1_;(try clear hb);(try clear hb2);(try clear hk);(try clear hi)) | ((with_reducible refine gate_dst (N := 5) rfl ?_);refine box_event ?hg (N := 5) ?hd (cs := #[.int .i32 0,.int .i64 0]) (t := 42) ?hr ?_;(case hd => rfl);(case hg => rfl);(case hr => first | (go_simp;done) | (go_simp;rfl));intro gb302 hg w12 hbox hb;have n0_ := Aside0.mk (blk_below (g := gb298) (o := .cells #[.int .i64 a1_0,.int .i64 a1_1,.int .i64 a1_2,.int .i64 a1_3] 61 (0,0)) au24 hb);have n1_ := Aside0.mk (below_step au13 hb);have n2_ := Aside0.mk (hbox);have n3_ := Aside0.mk ((by rw [hg];exact (below_size au13) : w.heap.size ≤ gb302));have n4_ := Aside0.mk ((by rw [hg];exact (below_size au13) : w.heap.size ≤ gb302));have n5_ := Aside0.mk ((by rw [hg];exact Nat.ne_of_lt (blk_lt (g := gb298) (o := .cells #[.int .i64 a1_0,.int .i64 a1_1,.int .i64 a1_2,.int .i64 a1_3] 61 (0,0)) au24) : gb298 ≠ gb302));have n6_ := Aside0.mk ((by rw [hg];exact Nat.ne_of_gt (blk_lt (g := gb298) (o := .cells #[.int .i64 a1_0,.int .i64 a1_1,.int .i64 a1_2,.int .i64 a1_3] 61 (0,0)) au24) : gb302 ≠ gb298));clear BK298;clear HB;have BK298 := n0_;have HB := n1_;have BK302 := n2_;have GW302 := n3_;have GE302 := n4_;have NB298_302 := n5_;have NB302_298 := n6_;clear n0_ n1_ n2_ n3_ n4_ n5_ n6_;clear hb hbox hg;have hnb13 := NB302_298.out;have hnc13 := NB298_302.out;have hcz14_0 : w12.cell? ⟨gb302,0,none⟩ = some (.int .i32 0) := (blk_cell BK302.out 0).trans rfl;have hcz14_1 : w12.cell? ⟨gb302,1,none⟩ = some (.int .i64 0) := (blk_cell BK302.out 1).trans rfl;have hfz14_0 := blk_frozen BK302.out 0;have hfz14_1 := blk_frozen BK302.out 1) | (go_at_call 14;(with_reducible refine (bodkinref05_IsWord.calls k t299 t303 _ A8.out).mono ?_);rintro e w15 ⟨rfl,hb⟩;have n0_ := Aside0.mk (blk_below (g := gb298) (o := .cells #[.int .i64 a1_0,.int .i64 a1_1,.int .i64 a1_2,.int .i64 a1_3] 61 (0,0)) (by (with_reducible repeat (first | refine blk_drewN ?_ _ | refine blk_drew ?_ | refine blk_alloc ?_ _));refine blk_far ?_ NB298_302.out _;(with_reducible repeat (first | refine blk_drewN ?_ _ | refine blk_drew ?_ | refine blk_alloc ?_ _));refine blk_far ?_ NB298_302.out _;(with_reducible repeat (first | refine blk_drewN ?_ _ | refine blk_drew ?_ | refine blk_alloc ?_ _));exact BK298.out) hb);have n1_ := Aside0.mk (blk_below (g := gb302) (o := .cells #[.int .i32 t299,.int .i64 t300] 42 (0,0)) (by (with_reducible repeat (first | refine blk_drewN ?_ _ | refine blk_drew ?_ | refine blk_alloc ?_ _));refine blk_put (cs := #[.int .i32 t299,.int .i64 0]) ?_ 1 _ rfl;(with_reducible repeat (first | refine blk_drewN ?_ _ | refine blk_drew ?_ | refine blk_alloc ?_ _));refine blk_put (cs := #[.int .i32 0,.int .i64 0]) ?_ 0 _ rfl;(with_reducible repeat (first | refine blk_drewN ?_ _ | refine blk_drew ?_ | refine blk_alloc ?_ _));exact BK302.out) hb);have n2_ := Aside0.mk (below_step (by repeat (first | (with_reducible first | exact HB.out | apply below_alloc | apply pw_below_drewN | apply below_drew1 | refine below_set ?_ GE298.out | refine below_set ?_ GE302.out) | exact HB.out)) hb);clear BK298;clear BK302;clear HB;have BK298 := n0_;have BK302 := n1_;have HB := n2_;clear n0_ n1_ n2_;(try clear hb);(try clear hb2);(try clear hk);(try clear hi)))
     go_ret
     exact ⟨au2,by repeat (first | (with_reducible first | exact HB.out | apply below_alloc | apply pw_below_drewN | apply below_drew1 | refine below_set ?_ GE298.out | refine below_set ?_ GE302.out) | exact HB.out)⟩
    ·replace c7 := Bool.eq_false_iff.mpr c7
     subst c7
     have H1 : (some false) = some r := by rw [if_neg (show ¬ (false = true) by decide)] at H;exact H
     clear H
     have H := H1
     clear H1
     obtain rfl := Option.some.inj H
     go_enter Tryd.func45,Tryd.ntmps45
     go_wp2_with (first | ((with_reducible refine gate_dst (N := 3) rfl ?_);refine box_event ?hg (N := 3) ?hd (cs := #[.int .i64 a1_0,.int .i64 a1_1,.int .i64 a1_2,.int .i64 a1_3]) (t := 61) ?hr ?_;(case hd => rfl);(case hg => rfl);(case hr => first | (go_simp;done) | (go_simp;rfl));intro gb298 hg w16 hbox hb;have n0_ := Aside0.mk (below_step au0 hb);have n1_ := Aside0.mk (hbox);have n2_ := Aside0.mk ((by rw [hg];exact (below_size au0) : w.heap.size ≤ gb298));have n3_ := Aside0.mk ((by rw [hg];exact (below_size au0) : w.heap.size ≤ gb298));clear HB;have HB := n0_;have BK298 := n1_;have GW298 := n2_;have GE298 := n3_;clear n0_ n1_ n2_ n3_;clear hb hbox hg;have hcz17_0 : w16.cell? ⟨gb298,0,none⟩ = some (.int .i64 a1_0) := (blk_cell BK298.out 0).trans rfl;have hcz17_1 : w16.cell? ⟨gb298,1,none⟩ = some (.int .i64 a1_1) := (blk_cell BK298.out 1).trans rfl;have hcz17_2 : w16.cell? ⟨gb298,2,none⟩ = some (.int .i64 a1_2) := (blk_cell BK298.out 2).trans rfl;have hcz17_3 : w16.cell? ⟨gb298,3,none⟩ = some (.int .i64 a1_3) := (blk_cell BK298.out 3).trans rfl;have hfz17_0 := blk_frozen BK298.out 0;have hfz17_1 := blk_frozen BK298.out 1;have hfz17_2 := blk_frozen BK298.out 2;have hfz17_3 := blk_frozen BK298.out 3) | ((with_reducible refine gate_callee (f := 59) rfl ?_);refine goesL_ (some 14) rfl rfl Tryd.func59 (by kernel_rfl) rfl #[.string (a0.extract (a1_0 : Int).toNat (a1_1 : Int).toNat),.int .i64 0] rfl au1 ?_;(with_reducible refine (bodkinref01_At.calls k (a0.extract (a1_0 : Int).toNat (a1_1 : Int).toNat) 0 t299 t300 false _ A6.out).mono ?_);rintro e w18 ⟨rfl,hb⟩;refine ⟨_,rfl,?_⟩;have n0_ := Aside0.mk (blk_below (g := gb298) (o := .cells #[.int .i64 a1_0,.int .i64 a1_1,.int .i64 a1_2,.int .i64 a1_3] 61 (0,0)) au24 hb);have n1_ := Aside0.mk (below_step au13 hb);clear BK298;clear HB;have BK298 := n0_;have HB := n1_;clear n0_ n1_;(try clear hb);(try clear hb2);(try clear hk);(try clear hi)) | ((with_reducible refine gate_dst (N := 5) rfl ?_);refine box_event ?hg (N := 5) ?hd (cs := #[.int .i32 0,.int .i64 0]) (t := 42) ?hr ?_;(case hd => rfl);(case hg => rfl);(case hr => first | (go_simp;done) | (go_simp;rfl));intro gb302 hg w19 hbox hb;have n0_ := Aside0.mk (blk_below (g := gb298) (o := .cells #[.int .i64 a1_0,.int .i64 a1_1,.int .i64 a1_2,.int .i64 a1_3] 61 (0,0)) au24 hb);have n1_ := Aside0.mk (below_step au13 hb);have n2_ := Aside0.mk (hbox);have n3_ := Aside0.mk ((by rw [hg];exact (below_size au13) : w.heap.size ≤ gb302));have n4_ := Aside0.mk ((by rw [hg];exact (below_size au13) : w.heap.size ≤ gb302));have n5_ := Aside0.mk ((by rw [hg];exact Nat.ne_of_lt (blk_lt (g := gb298) (o := .cells #[.int .i64 a1_0,.int .i64 a1_1,.int .i64 a1_2,.int .i64 a1_3] 61 (0,0)) au24) : gb298 ≠ gb302));have n6_ := Aside0.mk ((by rw [hg];exact Nat.ne_of_gt (blk_lt (g := gb298) (o := .cells #[.int .i64 a1_0,.int .i64 a1_1,.int .i64 a1_2,.int .i64 a1_3] 61 (0,0)) au24) : gb302 ≠ gb298));clear BK298;clear HB;have BK298 := n0_;have HB := n1_;have BK302 := n2_;have GW302 := n3_;have GE302 := n4_;have NB298_302 := n5_;have NB302_298 := n6_;clear n0_ n1_ n2_ n3_ n4_ n5_ n6_;clear hb hbox hg;have hnb20 := NB302_298.out;have hnc20 := NB298_302.out;have hcz21_0 : w19.cell? ⟨gb302,0,none⟩ = some (.int .i32 0) := (blk_cell BK302.out 0).trans rfl;have hcz21_1 : w19.cell? ⟨gb302,1,none⟩ = some (.int .i64 0) := (blk_cell BK302.out 1).trans rfl;have hfz21_0 := blk_frozen BK302.out 0;have hfz21_1 := blk_frozen BK302.out 1))
     go_ret
     exact ⟨au2,by repeat (first | (with_reducible first | exact HB.out | apply below_alloc | apply pw_below_drewN | apply below_drew1 | refine below_set ?_ GE298.out | refine below_set ?_ GE302.out) | exact HB.out)⟩
   ·rw [if_neg c5] at H
    exact absurd H (by simp)
  ·rw [if_neg c4] at H
   exact absurd H (by simp)
 ·rw [if_neg c3] at H
  exact absurd H (by simp)
end Go.Proofs.YtkficbgnjpekaaaDoor.U
end
