/- What the law WordCased reaches of this seat's own texts, merged; what nothing uses is left out. -/
import Derived.Test.YtkficbgnjpekaaaDoorZWordCased0
import Derived.Test.YtkficbgnjpekaaaDoorZWordCased1
import Derived.Test.YtkficbgnjpekaaaDoorZWordCased4
import Derived.Test.YtkficbgnjpekaaaDoorZWordCased5
section
namespace Go.Proofs.YtkficbgnjpekaaaDoor.U
open Go.RowKit Go.Proofs.YtkficbgnjpekaaaDoorW.PrintWords Go.Proofs.YtkficbgnjpekaaaDoorW.PrintLast Go.Proofs.YtkficbgnjpekaaaDoorW.PrintMore
attribute [local go_sem] max2_int min2_int max_two min_two max_three min_three max_four min_four   -- for this text's walks alone
set_option linter.unusedVariables false
set_option linter.unusedSimpArgs false
attribute [local go_sem high] eqA42
mutual
def bodkinlaw05_WordCased.j0 : Nat → ByteArray → ByteArray → ByteArray → ByteArray → Bool → Option (Bool)
 | 0,_,_,_,_,_ => none
 | k + 1,x0,x3,x4,x5,x71 => if x71 = true then (some false) else ((word_Spans.f x0).bind fun t549 => ((word_Spans.f x3).bind fun t552 => ((bodkinlaw05_same.f k t552 t549).bind fun t555 => (if t555 = true then ((word_Spans.f x4).bind fun t556 => ((bodkinlaw05_same.f k t556 t549).bind fun t559 => (if t559 = true then ((word_Spans.f x5).bind fun t560 => ((bodkinlaw05_same.f k t560 t549).bind fun t563 => (bodkinlaw05_WordCased.j1 k x0 x3 x4 x5 t549 (!t563)))) else (bodkinlaw05_WordCased.j1 k x0 x3 x4 x5 t549 true)))) else (bodkinlaw05_WordCased.j1 k x0 x3 x4 x5 t549 true)))))
def bodkinlaw05_WordCased.j1 : Nat → ByteArray → ByteArray → ByteArray → ByteArray → List (S32) → Bool → Option (Bool)
 | 0,_,_,_,_,_,_ => none
 | k + 1,x0,x3,x4,x5,x6,x92 => if x92 = true then (some false) else (bodkinlaw05_WordCased.l0 k x0 x3 x4 x5 x6 0)
def bodkinlaw05_WordCased.l0 : Nat → ByteArray → ByteArray → ByteArray → ByteArray → List (S32) → Int → Option (Bool)
 | 0,_,_,_,_,_,_ => none
 | k + 1,x0,x3,x4,x5,x6,x7 => if x7 ≤ (x0.size : Int) then ((unit_At.f k x0 x7).bind fun bt564 => ((unit_At.f k x3 x7).bind fun bt568 => ((unit_At.f k x4 x7).bind fun bt572 => (if (bt564.2.2 != bt568.2.2) = true then (some false) else (if (bt564.2.2 != bt572.2.2) = true then (some false) else (if bt564.2.2 = true then ((word_UpperOf.f k bt564.1).bind fun t576 => (if bt568.1 = t576 then ((word_LowerOf.f bt564.1).bind fun t577 => (if bt572.1 = t577 then (bodkinlaw05_WordCased.l0 k x0 x3 x4 x5 x6 (wrap64 (x7 + 1))) else (some false))) else (some false))) else (bodkinlaw05_WordCased.l0 k x0 x3 x4 x5 x6 (wrap64 (x7 + 1))))))))) else (bodkinlaw05_WordCased.l1 k x3 x4 x5 x6 0)
def bodkinlaw05_WordCased.l1 : Nat → ByteArray → ByteArray → ByteArray → List (S32) → Int → Option (Bool)
 | 0,_,_,_,_,_ => none
 | k + 1,x3,x4,x5,x6,x14 => if x14 < (x6.length : Int) then (if 0 ≤ x14 then ((unit_At.f k x5 ((rd_T32 x6 x14).f0)).bind fun bt579 => ((unit_At.f k x3 ((rd_T32 x6 x14).f0)).bind fun bt584 => (if bt579.2.2 = true then (if bt584.2.2 = true then (bodkinlaw05_WordCased.j4 k x3 x4 x5 x6 x14 (!(bt579.1 == bt584.1) || (!(bt579.2.1 == bt584.2.1))) bt579.1 bt579.2.1) else (bodkinlaw05_WordCased.j4 k x3 x4 x5 x6 x14 true bt579.1 bt579.2.1)) else (bodkinlaw05_WordCased.j4 k x3 x4 x5 x6 x14 true bt579.1 bt579.2.1)))) else (none)) else (some true)
def bodkinlaw05_WordCased.j4 : Nat → ByteArray → ByteArray → ByteArray → List (S32) → Int → Bool → Int → Int → Option (Bool)
 | 0,_,_,_,_,_,_,_,_ => none
 | k + 1,x3,x4,x5,x6,x14,x180,x583000,x583001 => if x180 = true then (some false) else (if 0 ≤ x14 then (if x14 < (x6.length : Int) then (if 0 ≤ (wrap64 (((rd_T32 x6 x14).f0) + x583001)) then (if (wrap64 (((rd_T32 x6 x14).f0) + x583001)) ≤ ((rd_T32 x6 x14).f1) then (if ((rd_T32 x6 x14).f1) ≤ (x5.size : Int) then (if ((rd_T32 x6 x14).f1) ≤ (x4.size : Int) then (if (x5.extract ((wrap64 (((rd_T32 x6 x14).f0) + x583001)) : Int).toNat (((rd_T32 x6 x14).f1) : Int).toNat).toList = (x4.extract ((wrap64 (((rd_T32 x6 x14).f0) + x583001)) : Int).toNat (((rd_T32 x6 x14).f1) : Int).toNat).toList then (bodkinlaw05_WordCased.l1 k x3 x4 x5 x6 (wrap64 (x14 + 1))) else (some false)) else (none)) else (none)) else (none)) else (none)) else (none)) else (none))
end
def bodkinlaw05_WordCased.f (k : Nat) (a0 : ByteArray) : Option (Bool) := (bodkinlaw05_awake.f k).bind fun t539 => (if t539 = true then ((word_Upper.f a0).bind fun t540 => ((word_Lower.f a0).bind fun t541 => ((word_Capital.f a0).bind fun t542 => (if (t540.size : Int) = (a0.size : Int) then (if (t541.size : Int) = (a0.size : Int) then (if (t542.size : Int) = (a0.size : Int) then ((word_Upper.f t540).bind fun t543 => (if t543.toList = t540.toList then ((word_Lower.f t541).bind fun t544 => (if t544.toList = t541.toList then ((word_Upper.f t541).bind fun t545 => ((word_Lower.f t540).bind fun t546 => ((word_Upper.f t546).bind fun t547 => (if t545.toList = t547.toList then ((word_Lower.f t542).bind fun t548 => (bodkinlaw05_WordCased.j0 k a0 t540 t541 t542 (t548.toList != t541.toList))) else (bodkinlaw05_WordCased.j0 k a0 t540 t541 t542 true))))) else (bodkinlaw05_WordCased.j0 k a0 t540 t541 t542 true))) else (bodkinlaw05_WordCased.j0 k a0 t540 t541 t542 true))) else (bodkinlaw05_WordCased.j0 k a0 t540 t541 t542 true)) else (bodkinlaw05_WordCased.j0 k a0 t540 t541 t542 true)) else (bodkinlaw05_WordCased.j0 k a0 t540 t541 t542 true))))) else (some false))
def bodkinlaw05_WordCased.T17 : Bool × List (List Nat × List Nat) := (true,[([],[]),([],[]),([0,1],[0,1]),([2],[2]),([3],[3]),([3],[3]),([4,5,3],[3,4,5]),([3,6],[3,6]),([7,3],[7]),([8],[8]),([9,8,8],[8,9]),([10],[10]),([11,10],[10,11]),([10],[10]),([13,10],[10,13]),([14,10,10],[10,14]),([12,15,10],[10,12,15]),([16,15,10],[10,16]),([17],[17]),([18,17],[17,18]),([17],[17]),([20,17],[17,20]),([21,17,17],[17,21]),([19,22,17],[17,19,22]),([17,23,10],[10,17,23]),([10,24,8],[8,10,24]),([8,25],[8,25])])
def bodkinlaw05_WordCased.B17 : List Nat := [0,0,3,7,15,15,63,127,255,511,1023,2047,4095,2047,10239,26623,65535,131071,262143,524287,262143,1310719,3407871,8388607,16777215,33554431,67108863]
theorem bodkinlaw05_WordCased.tab17 : rtab .any (opsOf Tryd.f10 17) = bodkinlaw05_WordCased.T17 := by kernel_rfl
theorem bodkinlaw05_WordCased.bits17 : waitsOk bodkinlaw05_WordCased.T17.2 bodkinlaw05_WordCased.B17 = true := by kernel_rfl
def bodkinlaw05_WordCased.T26 : Bool × List (List Nat × List Nat) := (true,[([],[]),([],[]),([],[]),([1,2],[1,2]),([3],[3]),([4],[4]),([],[]),([6],[6]),([5,7],[5,7]),([],[]),([],[]),([9,10],[9,10]),([11],[11]),([12],[12]),([0,8,13],[0,8,13]),([],[]),([],[]),([],[]),([16,17],[16,17]),([18],[18]),([19],[19]),([],[]),([21],[21]),([20,22],[20,22]),([],[]),([],[]),([24,25],[24,25]),([26],[26]),([27],[27]),([15,23,28],[15,23,28]),([14,29],[14,29])])
def bodkinlaw05_WordCased.B26 : List Nat := [0,0,0,6,14,30,0,64,254,0,0,1536,3584,7680,16383,0,0,0,196608,458752,983040,0,2097152,8323072,0,0,50331648,117440512,251658240,536838144,1073741823]
theorem bodkinlaw05_WordCased.tab26 : rtab .any (opsOf Tryd.f10 26) = bodkinlaw05_WordCased.T26 := by kernel_rfl
theorem bodkinlaw05_WordCased.bits26 : waitsOk bodkinlaw05_WordCased.T26.2 bodkinlaw05_WordCased.B26 = true := by kernel_rfl
set_option maxHeartbeats 8000000 in
set_option maxRecDepth 100000 in
theorem bodkinlaw05_WordCased.calls (k : Nat) (a0 : ByteArray) (r : Bool) (hr_ : r = true) (w : World) (hT : Lib.Utf8Tabs 0 1 w) (h : bodkinlaw05_WordCased.f k a0 = some r) :
  Calls Tryd.prog 10 #[.string a0] w fun e w' => e = .returned (.bool r) ∧ Below w.heap.size w w' := by
 have hu42 := Tryd.underlying42
 have HT := Aside0.mk hT
 clear hT
 have HB := Aside0.mk (Below.refl w.heap.size w)
 have H : ((bodkinlaw05_awake.f k).bind fun t539 => (if t539 = true then ((word_Upper.f a0).bind fun t540 => ((word_Lower.f a0).bind fun t541 => ((word_Capital.f a0).bind fun t542 => (if (t540.size : Int) = (a0.size : Int) then (if (t541.size : Int) = (a0.size : Int) then (if (t542.size : Int) = (a0.size : Int) then ((word_Upper.f t540).bind fun t543 => (if t543.toList = t540.toList then ((word_Lower.f t541).bind fun t544 => (if t544.toList = t541.toList then ((word_Upper.f t541).bind fun t545 => ((word_Lower.f t540).bind fun t546 => ((word_Upper.f t546).bind fun t547 => (if t545.toList = t547.toList then ((word_Lower.f t542).bind fun t548 => (bodkinlaw05_WordCased.j0 k a0 t540 t541 t542 (t548.toList != t541.toList))) else (bodkinlaw05_WordCased.j0 k a0 t540 t541 t542 true))))) else (bodkinlaw05_WordCased.j0 k a0 t540 t541 t542 true))) else (bodkinlaw05_WordCased.j0 k a0 t540 t541 t542 true))) else (bodkinlaw05_WordCased.j0 k a0 t540 t541 t542 true)) else (bodkinlaw05_WordCased.j0 k a0 t540 t541 t542 true)) else (bodkinlaw05_WordCased.j0 k a0 t540 t541 t542 true))))) else (some false))) = some r := h
 clear h
 replace H := Option.bind_eq_some_iff.mp H
 obtain ⟨t539,A20,H⟩ := H
 replace H : (if t539 = true then ((word_Upper.f a0).bind fun t540 => ((word_Lower.f a0).bind fun t541 => ((word_Capital.f a0).bind fun t542 => (if (t540.size : Int) = (a0.size : Int) then (if (t541.size : Int) = (a0.size : Int) then (if (t542.size : Int) = (a0.size : Int) then ((word_Upper.f t540).bind fun t543 => (if t543.toList = t540.toList then ((word_Lower.f t541).bind fun t544 => (if t544.toList = t541.toList then ((word_Upper.f t541).bind fun t545 => ((word_Lower.f t540).bind fun t546 => ((word_Upper.f t546).bind fun t547 => (if t545.toList = t547.toList then ((word_Lower.f t542).bind fun t548 => (bodkinlaw05_WordCased.j0 k a0 t540 t541 t542 (t548.toList != t541.toList))) else (bodkinlaw05_WordCased.j0 k a0 t540 t541 t542 true))))) else (bodkinlaw05_WordCased.j0 k a0 t540 t541 t542 true))) else (bodkinlaw05_WordCased.j0 k a0 t540 t541 t542 true))) else (bodkinlaw05_WordCased.j0 k a0 t540 t541 t542 true)) else (bodkinlaw05_WordCased.j0 k a0 t540 t541 t542 true)) else (bodkinlaw05_WordCased.j0 k a0 t540 t541 t542 true))))) else (some false)) = some r := H
 have A2 := Aside0.mk A20
 clear A20
 by_cases c3 : t539 = true
 ·subst c3
  have H1 : ((word_Upper.f a0).bind fun t540 => ((word_Lower.f a0).bind fun t541 => ((word_Capital.f a0).bind fun t542 => (if (t540.size : Int) = (a0.size : Int) then (if (t541.size : Int) = (a0.size : Int) then (if (t542.size : Int) = (a0.size : Int) then ((word_Upper.f t540).bind fun t543 => (if t543.toList = t540.toList then ((word_Lower.f t541).bind fun t544 => (if t544.toList = t541.toList then ((word_Upper.f t541).bind fun t545 => ((word_Lower.f t540).bind fun t546 => ((word_Upper.f t546).bind fun t547 => (if t545.toList = t547.toList then ((word_Lower.f t542).bind fun t548 => (bodkinlaw05_WordCased.j0 k a0 t540 t541 t542 (t548.toList != t541.toList))) else (bodkinlaw05_WordCased.j0 k a0 t540 t541 t542 true))))) else (bodkinlaw05_WordCased.j0 k a0 t540 t541 t542 true))) else (bodkinlaw05_WordCased.j0 k a0 t540 t541 t542 true))) else (bodkinlaw05_WordCased.j0 k a0 t540 t541 t542 true)) else (bodkinlaw05_WordCased.j0 k a0 t540 t541 t542 true)) else (bodkinlaw05_WordCased.j0 k a0 t540 t541 t542 true))))) = some r := by rw [if_pos rfl] at H;exact H
  clear H
  have H := H1
  clear H1
  replace H := Option.bind_eq_some_iff.mp H
  obtain ⟨t540,A40,H⟩ := H
  replace H : ((word_Lower.f a0).bind fun t541 => ((word_Capital.f a0).bind fun t542 => (if (t540.size : Int) = (a0.size : Int) then (if (t541.size : Int) = (a0.size : Int) then (if (t542.size : Int) = (a0.size : Int) then ((word_Upper.f t540).bind fun t543 => (if t543.toList = t540.toList then ((word_Lower.f t541).bind fun t544 => (if t544.toList = t541.toList then ((word_Upper.f t541).bind fun t545 => ((word_Lower.f t540).bind fun t546 => ((word_Upper.f t546).bind fun t547 => (if t545.toList = t547.toList then ((word_Lower.f t542).bind fun t548 => (bodkinlaw05_WordCased.j0 k a0 t540 t541 t542 (t548.toList != t541.toList))) else (bodkinlaw05_WordCased.j0 k a0 t540 t541 t542 true))))) else (bodkinlaw05_WordCased.j0 k a0 t540 t541 t542 true))) else (bodkinlaw05_WordCased.j0 k a0 t540 t541 t542 true))) else (bodkinlaw05_WordCased.j0 k a0 t540 t541 t542 true)) else (bodkinlaw05_WordCased.j0 k a0 t540 t541 t542 true)) else (bodkinlaw05_WordCased.j0 k a0 t540 t541 t542 true)))) = some r := H
  have A4 := Aside0.mk A40
  clear A40
  replace H := Option.bind_eq_some_iff.mp H
  obtain ⟨t541,A50,H⟩ := H
  replace H : ((word_Capital.f a0).bind fun t542 => (if (t540.size : Int) = (a0.size : Int) then (if (t541.size : Int) = (a0.size : Int) then (if (t542.size : Int) = (a0.size : Int) then ((word_Upper.f t540).bind fun t543 => (if t543.toList = t540.toList then ((word_Lower.f t541).bind fun t544 => (if t544.toList = t541.toList then ((word_Upper.f t541).bind fun t545 => ((word_Lower.f t540).bind fun t546 => ((word_Upper.f t546).bind fun t547 => (if t545.toList = t547.toList then ((word_Lower.f t542).bind fun t548 => (bodkinlaw05_WordCased.j0 k a0 t540 t541 t542 (t548.toList != t541.toList))) else (bodkinlaw05_WordCased.j0 k a0 t540 t541 t542 true))))) else (bodkinlaw05_WordCased.j0 k a0 t540 t541 t542 true))) else (bodkinlaw05_WordCased.j0 k a0 t540 t541 t542 true))) else (bodkinlaw05_WordCased.j0 k a0 t540 t541 t542 true)) else (bodkinlaw05_WordCased.j0 k a0 t540 t541 t542 true)) else (bodkinlaw05_WordCased.j0 k a0 t540 t541 t542 true))) = some r := H
  have A5 := Aside0.mk A50
  clear A50
  replace H := Option.bind_eq_some_iff.mp H
  obtain ⟨t542,A60,H⟩ := H
  replace H : (if (t540.size : Int) = (a0.size : Int) then (if (t541.size : Int) = (a0.size : Int) then (if (t542.size : Int) = (a0.size : Int) then ((word_Upper.f t540).bind fun t543 => (if t543.toList = t540.toList then ((word_Lower.f t541).bind fun t544 => (if t544.toList = t541.toList then ((word_Upper.f t541).bind fun t545 => ((word_Lower.f t540).bind fun t546 => ((word_Upper.f t546).bind fun t547 => (if t545.toList = t547.toList then ((word_Lower.f t542).bind fun t548 => (bodkinlaw05_WordCased.j0 k a0 t540 t541 t542 (t548.toList != t541.toList))) else (bodkinlaw05_WordCased.j0 k a0 t540 t541 t542 true))))) else (bodkinlaw05_WordCased.j0 k a0 t540 t541 t542 true))) else (bodkinlaw05_WordCased.j0 k a0 t540 t541 t542 true))) else (bodkinlaw05_WordCased.j0 k a0 t540 t541 t542 true)) else (bodkinlaw05_WordCased.j0 k a0 t540 t541 t542 true)) else (bodkinlaw05_WordCased.j0 k a0 t540 t541 t542 true)) = some r := H
  have A6 := Aside0.mk A60
  clear A60
  have HC7 := Aside0.mk H
  clear H
  go_enter Tryd.func10,Tryd.ntmps10
  go_upto_region 6 with (first | ((with_reducible refine gate_callee (f := 12) rfl ?_);refine goesL_ (some 19) rfl rfl Tryd.func12 (by kernel_rfl) rfl #[] rfl au1 ?_;(with_reducible refine (bodkinlaw05_awake.calls k true rfl _ ?side1 A2.out).mono ?_);(case side1 => exact tabs_below HT.out au0);rintro e w8 ⟨rfl,hb⟩;refine ⟨_,rfl,?_⟩;have n0_ := Aside0.mk (below_step au0 hb);clear HB;have HB := n0_;clear n0_;(try clear hb);(try clear hb2);(try clear hk);(try clear hi)) | ((with_reducible refine gate_callee (f := 30) rfl ?_);refine goesL_ (some 22) rfl rfl Tryd.func30 (by kernel_rfl) rfl #[.string a0] rfl au1 ?_;(with_reducible refine (word_Upper.calls a0 t540 _ ?side1 A4.out).mono ?_);(case side1 => exact tabs_below HT.out au0);rintro e w9 ⟨rfl,hb⟩;refine ⟨_,rfl,?_⟩;have n0_ := Aside0.mk (below_step au0 hb);clear HB;have HB := n0_;clear n0_;(try clear hb);(try clear hb2);(try clear hk);(try clear hi)) | ((with_reducible refine gate_callee (f := 32) rfl ?_);refine goesL_ (some 24) rfl rfl Tryd.func32 (by kernel_rfl) rfl #[.string a0] rfl au1 ?_;(with_reducible refine (word_Lower.calls a0 t541 _ ?side1 A5.out).mono ?_);(case side1 => exact tabs_below HT.out au0);rintro e w10 ⟨rfl,hb⟩;refine ⟨_,rfl,?_⟩;have n0_ := Aside0.mk (below_step au0 hb);clear HB;have HB := n0_;clear n0_;(try clear hb);(try clear hb2);(try clear hk);(try clear hi)) | ((with_reducible refine gate_callee (f := 34) rfl ?_);refine goesL_ (some 26) rfl rfl Tryd.func34 (by kernel_rfl) rfl #[.string a0] rfl au1 ?_;(with_reducible refine (word_Capital.calls a0 t542 _ ?side1 A6.out).mono ?_);(case side1 => exact tabs_below HT.out au0);rintro e w11 ⟨rfl,hb⟩;refine ⟨_,rfl,?_⟩;have n0_ := Aside0.mk (below_step au0 hb);clear HB;have HB := n0_;clear n0_;(try clear hb);(try clear hb2);(try clear hk);(try clear hi)))
  (try simp only [Act.put,List.setIfInBounds_toArray,List.set_cons_zero,List.set_cons_succ])
  go_cut [71] (fun v71 wc => ∃ (kq : Nat) (x71_6 : Bool),v71 = .bool x71_6 ∧ Aside0 (bodkinlaw05_WordCased.j0 kq a0 t540 t541 t542 x71_6 = some r) ∧ Aside0 (kq ≤ k) ∧ Aside0 (Below w.heap.size w wc))
  case first =>
   have H := HC7.out
   clear HC7
   by_cases c12 : (t540.size : Int) = (a0.size : Int)
   ·rw [if_pos c12] at H
    have c12b0 : ((t540.size : Int) == (a0.size : Int)) = true := beq_iff_eq.mpr c12
    have c12b1 : ((t540.size : Int) != (a0.size : Int)) = false := bne_eq_false_iff_eq.mpr c12
    have c12b2 : (t540.size == a0.size) = true := by first | simpa using c12 | (simp at c12 ⊢;omega)
    clear c12
    (first | rw [c12b0] | (simp only [i64_w,i32_w];rw [c12b0]) | skip)
    by_cases c13 : (t541.size : Int) = (a0.size : Int)
    ·rw [if_pos c13] at H
     have c13b0 : ((t541.size : Int) == (a0.size : Int)) = true := beq_iff_eq.mpr c13
     have c13b1 : ((t541.size : Int) != (a0.size : Int)) = false := bne_eq_false_iff_eq.mpr c13
     have c13b2 : (t541.size == a0.size) = true := by first | simpa using c13 | (simp at c13 ⊢;omega)
     clear c13
     by_cases c14 : (t542.size : Int) = (a0.size : Int)
     ·rw [if_pos c14] at H
      have c14b0 : ((t542.size : Int) == (a0.size : Int)) = true := beq_iff_eq.mpr c14
      have c14b1 : ((t542.size : Int) != (a0.size : Int)) = false := bne_eq_false_iff_eq.mpr c14
      have c14b2 : (t542.size == a0.size) = true := by first | simpa using c14 | (simp at c14 ⊢;omega)
      clear c14
      replace H := Option.bind_eq_some_iff.mp H
      obtain ⟨t543,A150,H⟩ := H
      replace H : (if t543.toList = t540.toList then ((word_Lower.f t541).bind fun t544 => (if t544.toList = t541.toList then ((word_Upper.f t541).bind fun t545 => ((word_Lower.f t540).bind fun t546 => ((word_Upper.f t546).bind fun t547 => (if t545.toList = t547.toList then ((word_Lower.f t542).bind fun t548 => (bodkinlaw05_WordCased.j0 k a0 t540 t541 t542 (t548.toList != t541.toList))) else (bodkinlaw05_WordCased.j0 k a0 t540 t541 t542 true))))) else (bodkinlaw05_WordCased.j0 k a0 t540 t541 t542 true))) else (bodkinlaw05_WordCased.j0 k a0 t540 t541 t542 true)) = some r := H
      have A15 := Aside0.mk A150
      clear A150
      by_cases c16 : t543.toList = t540.toList
      ·rw [if_pos c16] at H
       have c16b0 : (t543.toList == t540.toList) = true := beq_iff_eq.mpr c16
       have c16b1 : (t543.toList != t540.toList) = false := bne_eq_false_iff_eq.mpr c16
       clear c16
       replace H := Option.bind_eq_some_iff.mp H
       obtain ⟨t544,A170,H⟩ := H
       replace H : (if t544.toList = t541.toList then ((word_Upper.f t541).bind fun t545 => ((word_Lower.f t540).bind fun t546 => ((word_Upper.f t546).bind fun t547 => (if t545.toList = t547.toList then ((word_Lower.f t542).bind fun t548 => (bodkinlaw05_WordCased.j0 k a0 t540 t541 t542 (t548.toList != t541.toList))) else (bodkinlaw05_WordCased.j0 k a0 t540 t541 t542 true))))) else (bodkinlaw05_WordCased.j0 k a0 t540 t541 t542 true)) = some r := H
       have A17 := Aside0.mk A170
       clear A170
       by_cases c18 : t544.toList = t541.toList
       ·rw [if_pos c18] at H
        have c18b0 : (t544.toList == t541.toList) = true := beq_iff_eq.mpr c18
        have c18b1 : (t544.toList != t541.toList) = false := bne_eq_false_iff_eq.mpr c18
        clear c18
        replace H := Option.bind_eq_some_iff.mp H
        obtain ⟨t545,A190,H⟩ := H
        replace H : ((word_Lower.f t540).bind fun t546 => ((word_Upper.f t546).bind fun t547 => (if t545.toList = t547.toList then ((word_Lower.f t542).bind fun t548 => (bodkinlaw05_WordCased.j0 k a0 t540 t541 t542 (t548.toList != t541.toList))) else (bodkinlaw05_WordCased.j0 k a0 t540 t541 t542 true)))) = some r := H
        have A19 := Aside0.mk A190
        clear A190
        replace H := Option.bind_eq_some_iff.mp H
        obtain ⟨t546,A200,H⟩ := H
        replace H : ((word_Upper.f t546).bind fun t547 => (if t545.toList = t547.toList then ((word_Lower.f t542).bind fun t548 => (bodkinlaw05_WordCased.j0 k a0 t540 t541 t542 (t548.toList != t541.toList))) else (bodkinlaw05_WordCased.j0 k a0 t540 t541 t542 true))) = some r := H
        have A20 := Aside0.mk A200
        clear A200
        replace H := Option.bind_eq_some_iff.mp H
        obtain ⟨t547,A210,H⟩ := H
        replace H : (if t545.toList = t547.toList then ((word_Lower.f t542).bind fun t548 => (bodkinlaw05_WordCased.j0 k a0 t540 t541 t542 (t548.toList != t541.toList))) else (bodkinlaw05_WordCased.j0 k a0 t540 t541 t542 true)) = some r := H
        have A21 := Aside0.mk A210
        clear A210
        by_cases c22 : t545.toList = t547.toList
        ·rw [if_pos c22] at H
         have c22b0 : (t545.toList == t547.toList) = true := beq_iff_eq.mpr c22
         have c22b1 : (t545.toList != t547.toList) = false := bne_eq_false_iff_eq.mpr c22
         clear c22
         replace H := Option.bind_eq_some_iff.mp H
         obtain ⟨t548,A230,H⟩ := H
         replace H : (bodkinlaw05_WordCased.j0 k a0 t540 t541 t542 (t548.toList != t541.toList)) = some r := H
         have A23 := Aside0.mk A230
         clear A230
         have H' := Aside0.mk H
         clear H
         go_wp2_with (first | (go_at_call 30;(with_reducible refine (word_Upper.calls t540 t543 _ ?side1 A15.out).mono ?_);(case side1 => exact tabs_below HT.out au0);rintro e w24 ⟨rfl,hb⟩;have n0_ := Aside0.mk (below_step au0 hb);clear HB;have HB := n0_;clear n0_;(try clear hb);(try clear hb2);(try clear hk);(try clear hi)) | (go_at_call 32;(with_reducible refine (word_Lower.calls t541 t544 _ ?side1 A17.out).mono ?_);(case side1 => exact tabs_below HT.out au0);rintro e w25 ⟨rfl,hb⟩;have n0_ := Aside0.mk (below_step au0 hb);clear HB;have HB := n0_;clear n0_;(try clear hb);(try clear hb2);(try clear hk);(try clear hi)) | (go_at_call 30;(with_reducible refine (word_Upper.calls t541 t545 _ ?side1 A19.out).mono ?_);(case side1 => exact tabs_below HT.out au0);rintro e w26 ⟨rfl,hb⟩;have n0_ := Aside0.mk (below_step au0 hb);clear HB;have HB := n0_;clear n0_;(try clear hb);(try clear hb2);(try clear hk);(try clear hi)) | (go_at_call 32;(with_reducible refine (word_Lower.calls t540 t546 _ ?side1 A20.out).mono ?_);(case side1 => exact tabs_below HT.out au0);rintro e w27 ⟨rfl,hb⟩;have n0_ := Aside0.mk (below_step au0 hb);clear HB;have HB := n0_;clear n0_;(try clear hb);(try clear hb2);(try clear hk);(try clear hi)) | (go_at_call 30;(with_reducible refine (word_Upper.calls t546 t547 _ ?side1 A21.out).mono ?_);(case side1 => exact tabs_below HT.out au0);rintro e w28 ⟨rfl,hb⟩;have n0_ := Aside0.mk (below_step au0 hb);clear HB;have HB := n0_;clear n0_;(try clear hb);(try clear hb2);(try clear hk);(try clear hi)) | (go_at_call 32;(with_reducible refine (word_Lower.calls t542 t548 _ ?side1 A23.out).mono ?_);(case side1 => exact tabs_below HT.out au0);rintro e w29 ⟨rfl,hb⟩;have n0_ := Aside0.mk (below_step au0 hb);clear HB;have HB := n0_;clear n0_;(try clear hb);(try clear hb2);(try clear hk);(try clear hi)))
         go_meet
         case rel => exact ⟨_,((t548.toList != t541.toList)),au3,H',⟨by first | omega | exact Nat.le_refl _⟩,⟨au0⟩⟩
        ·rw [if_neg c22] at H
         exfalso
         subst hr_
         cases k <;> simp [bodkinlaw05_WordCased.j0] at H
       ·rw [if_neg c18] at H
        exfalso
        subst hr_
        cases k <;> simp [bodkinlaw05_WordCased.j0] at H
      ·rw [if_neg c16] at H
       exfalso
       subst hr_
       cases k <;> simp [bodkinlaw05_WordCased.j0] at H
     ·rw [if_neg c14] at H
      exfalso
      subst hr_
      cases k <;> simp [bodkinlaw05_WordCased.j0] at H
    ·rw [if_neg c13] at H
     exfalso
     subst hr_
     cases k <;> simp [bodkinlaw05_WordCased.j0] at H
   ·rw [if_neg c12] at H
    exfalso
    subst hr_
    cases k <;> simp [bodkinlaw05_WordCased.j0] at H
  case rest =>
   clear HC7
   try clear c1
   try clear c2
   try clear p2
   try clear c3
   try clear c10
   try clear c12
   try clear c12b0
   try clear c12b1
   try clear c12b2
   try clear c13
   try clear c13b0
   try clear c13b1
   try clear c13b2
   try clear c14
   try clear c14b0
   try clear c14b1
   try clear c14b2
   try clear c16
   try clear c16b0
   try clear c16b1
   try clear c18
   try clear c18b0
   try clear c18b1
   try clear c22
   try clear c22b0
   try clear c22b1
   try clear c30
   try clear c32
   try clear c34
   obtain ⟨kq,x71_6,rfl,HA,HJ6,HB⟩ := hcut
   cases kq with
   | zero => exact absurd HA.out (by simp [bodkinlaw05_WordCased.j0])
   | succ kj6 =>
    have H := HA.out
    clear HA
    simp only [bodkinlaw05_WordCased.j0] at H
    by_cases c38 : x71_6 = true
    ·subst c38
     have H1 : (some false) = some r := by rw [if_pos rfl] at H;exact H
     clear H
     have H := H1
     clear H1
     obtain rfl := Option.some.inj H
     cases hr_
    ·replace c38 := Bool.eq_false_iff.mpr c38
     subst c38
     have H1 : ((word_Spans.f a0).bind fun t549 => ((word_Spans.f t540).bind fun t552 => ((bodkinlaw05_same.f kj6 t552 t549).bind fun t555 => (if t555 = true then ((word_Spans.f t541).bind fun t556 => ((bodkinlaw05_same.f kj6 t556 t549).bind fun t559 => (if t559 = true then ((word_Spans.f t542).bind fun t560 => ((bodkinlaw05_same.f kj6 t560 t549).bind fun t563 => (bodkinlaw05_WordCased.j1 kj6 a0 t540 t541 t542 t549 (!t563)))) else (bodkinlaw05_WordCased.j1 kj6 a0 t540 t541 t542 t549 true)))) else (bodkinlaw05_WordCased.j1 kj6 a0 t540 t541 t542 t549 true))))) = some r := by rw [if_neg (show ¬ (false = true) by decide)] at H;exact H
     clear H
     have H := H1
     clear H1
     replace H := Option.bind_eq_some_iff.mp H
     obtain ⟨t549,A390,H⟩ := H
     replace H : ((word_Spans.f t540).bind fun t552 => ((bodkinlaw05_same.f kj6 t552 t549).bind fun t555 => (if t555 = true then ((word_Spans.f t541).bind fun t556 => ((bodkinlaw05_same.f kj6 t556 t549).bind fun t559 => (if t559 = true then ((word_Spans.f t542).bind fun t560 => ((bodkinlaw05_same.f kj6 t560 t549).bind fun t563 => (bodkinlaw05_WordCased.j1 kj6 a0 t540 t541 t542 t549 (!t563)))) else (bodkinlaw05_WordCased.j1 kj6 a0 t540 t541 t542 t549 true)))) else (bodkinlaw05_WordCased.j1 kj6 a0 t540 t541 t542 t549 true)))) = some r := H
     have A39 := Aside0.mk A390
     clear A390
     have HC40 := Aside0.mk H
     clear H
     go_upto_region 9 with (first | ((with_reducible refine gate_callee (f := 20) rfl ?_);refine goesL_ (some 73) rfl rfl Tryd.func20 (by kernel_rfl) rfl #[.string a0] rfl au1 ?_;(with_reducible refine (word_Spans.calls a0 t549 _ ?side1 A39.out).mono ?_);(case side1 => exact tabs_below HT.out au0);rintro e w41 ⟨v550,rfl,ho0,hb⟩;refine ⟨_,rfl,?_⟩;have n0_ := Aside0.mk (Kd.R_lower ho0 (below_size au0));have n1_ := Aside0.mk (below_step au0 hb);clear HB;have HO551 := n0_;have HB := n1_;clear n0_ n1_;(try clear hb);(try clear hb2);(try clear hk);(try clear hi);(try clear ho0)))
     (try simp only [Act.put,List.setIfInBounds_toArray,List.set_cons_zero,List.set_cons_succ])
     go_cut [92] (fun v92 wc => ∃ (kq : Nat) (x92_39 : Bool),v92 = .bool x92_39 ∧ Aside0 (bodkinlaw05_WordCased.j1 kq a0 t540 t541 t542 t549 x92_39 = some r) ∧ Aside0 (kq ≤ kj6) ∧ Aside0 (Kd.R k32 32 wc w.heap.size (fun _ => True) v550 t549) ∧ Aside0 (Below w.heap.size w wc))
     case first =>
      have H := HC40.out
      clear HC40
      replace H := Option.bind_eq_some_iff.mp H
      obtain ⟨t552,A420,H⟩ := H
      replace H : ((bodkinlaw05_same.f kj6 t552 t549).bind fun t555 => (if t555 = true then ((word_Spans.f t541).bind fun t556 => ((bodkinlaw05_same.f kj6 t556 t549).bind fun t559 => (if t559 = true then ((word_Spans.f t542).bind fun t560 => ((bodkinlaw05_same.f kj6 t560 t549).bind fun t563 => (bodkinlaw05_WordCased.j1 kj6 a0 t540 t541 t542 t549 (!t563)))) else (bodkinlaw05_WordCased.j1 kj6 a0 t540 t541 t542 t549 true)))) else (bodkinlaw05_WordCased.j1 kj6 a0 t540 t541 t542 t549 true))) = some r := H
      have A42 := Aside0.mk A420
      clear A420
      replace H := Option.bind_eq_some_iff.mp H
      obtain ⟨t555,A430,H⟩ := H
      replace H : (if t555 = true then ((word_Spans.f t541).bind fun t556 => ((bodkinlaw05_same.f kj6 t556 t549).bind fun t559 => (if t559 = true then ((word_Spans.f t542).bind fun t560 => ((bodkinlaw05_same.f kj6 t560 t549).bind fun t563 => (bodkinlaw05_WordCased.j1 kj6 a0 t540 t541 t542 t549 (!t563)))) else (bodkinlaw05_WordCased.j1 kj6 a0 t540 t541 t542 t549 true)))) else (bodkinlaw05_WordCased.j1 kj6 a0 t540 t541 t542 t549 true)) = some r := H
      have A43 := Aside0.mk A430
      clear A430
      by_cases c44 : t555 = true
      ·subst c44
       have H1 : ((word_Spans.f t541).bind fun t556 => ((bodkinlaw05_same.f kj6 t556 t549).bind fun t559 => (if t559 = true then ((word_Spans.f t542).bind fun t560 => ((bodkinlaw05_same.f kj6 t560 t549).bind fun t563 => (bodkinlaw05_WordCased.j1 kj6 a0 t540 t541 t542 t549 (!t563)))) else (bodkinlaw05_WordCased.j1 kj6 a0 t540 t541 t542 t549 true)))) = some r := by rw [if_pos rfl] at H;exact H
       clear H
       have H := H1
       clear H1
       replace H := Option.bind_eq_some_iff.mp H
       obtain ⟨t556,A450,H⟩ := H
       replace H : ((bodkinlaw05_same.f kj6 t556 t549).bind fun t559 => (if t559 = true then ((word_Spans.f t542).bind fun t560 => ((bodkinlaw05_same.f kj6 t560 t549).bind fun t563 => (bodkinlaw05_WordCased.j1 kj6 a0 t540 t541 t542 t549 (!t563)))) else (bodkinlaw05_WordCased.j1 kj6 a0 t540 t541 t542 t549 true))) = some r := H
       have A45 := Aside0.mk A450
       clear A450
       replace H := Option.bind_eq_some_iff.mp H
       obtain ⟨t559,A460,H⟩ := H
       replace H : (if t559 = true then ((word_Spans.f t542).bind fun t560 => ((bodkinlaw05_same.f kj6 t560 t549).bind fun t563 => (bodkinlaw05_WordCased.j1 kj6 a0 t540 t541 t542 t549 (!t563)))) else (bodkinlaw05_WordCased.j1 kj6 a0 t540 t541 t542 t549 true)) = some r := H
       have A46 := Aside0.mk A460
       clear A460
       by_cases c47 : t559 = true
       ·subst c47
        have H1 : ((word_Spans.f t542).bind fun t560 => ((bodkinlaw05_same.f kj6 t560 t549).bind fun t563 => (bodkinlaw05_WordCased.j1 kj6 a0 t540 t541 t542 t549 (!t563)))) = some r := by rw [if_pos rfl] at H;exact H
        clear H
        have H := H1
        clear H1
        replace H := Option.bind_eq_some_iff.mp H
        obtain ⟨t560,A480,H⟩ := H
        replace H : ((bodkinlaw05_same.f kj6 t560 t549).bind fun t563 => (bodkinlaw05_WordCased.j1 kj6 a0 t540 t541 t542 t549 (!t563))) = some r := H
        have A48 := Aside0.mk A480
        clear A480
        replace H := Option.bind_eq_some_iff.mp H
        obtain ⟨t563,A490,H⟩ := H
        replace H : (bodkinlaw05_WordCased.j1 kj6 a0 t540 t541 t542 t549 (!t563)) = some r := H
        have A49 := Aside0.mk A490
        clear A490
        have H' := Aside0.mk H
        clear H
        go_wp2_with (first | ((with_reducible refine gate_callee (f := 20) rfl ?_);refine goesL_ (some 75) rfl rfl Tryd.func20 (by kernel_rfl) rfl #[.string t540] rfl au1 ?_;(with_reducible refine (word_Spans.calls t540 t552 _ ?side1 A42.out).mono ?_);(case side1 => exact tabs_below HT.out au0);rintro e w50 ⟨v553,rfl,ho0,hb⟩;refine ⟨_,rfl,?_⟩;have n0_ := Aside0.mk (Kd.R_elder' au25 (Kd.R_base ho0) hb);have n1_ := Aside0.mk (Kd.R_lower (Kd.R_new' ho0 (Kd.R_lt au25)) (below_size au0));have n2_ := Aside0.mk (below_step au0 hb);clear HO551;clear HB;have HO551 := n0_;have HO554 := n1_;have HB := n2_;clear n0_ n1_ n2_;(try clear hb);(try clear hb2);(try clear hk);(try clear hi);(try clear ho0);obtain ⟨Ao51,co51,eo51⟩ := Kd.R_slice HO554.out;subst eo51;obtain ⟨Ao52,co52,eo52⟩ := Kd.R_slice HO551.out;subst eo52) | ((with_reducible refine gate_callee (f := 21) rfl ?_);refine goesL_ (some 77) rfl rfl Tryd.func21 (by kernel_rfl) rfl #[.slice Ao51 t552.length co51,.slice Ao52 t549.length co52] rfl au1 ?_;(with_reducible refine (bodkinlaw05_same.calls kj6 _ _ t552 _ _ t549 true _ ?side1 ?side2 ?side3 ?side4 A43.out).mono ?_);(case side1 => repeat (first | exact (Kd.R_reads' HO554.out).2.2 | (with_reducible refine Kd.C_alloc ?_ _) | (with_reducible refine Kd.C_drewN ?_ _) | (with_reducible refine Kd.C_drew ?_)));(case side2 => exact (Kd.R_reads' HO554.out).2.1);(case side3 => repeat (first | exact (Kd.R_reads' HO551.out).2.2 | (with_reducible refine Kd.C_alloc ?_ _) | (with_reducible refine Kd.C_drewN ?_ _) | (with_reducible refine Kd.C_drew ?_)));(case side4 => exact (Kd.R_reads' HO551.out).2.1);rintro e w' ⟨rfl,⟨nd,rfl⟩⟩;refine ⟨_,rfl,?_⟩) | (go_at_call 20;(with_reducible refine (word_Spans.calls t541 t556 _ ?side1 A45.out).mono ?_);(case side1 => exact tabs_below HT.out au0);rintro e w53 ⟨v557,rfl,ho0,hb⟩;have n0_ := Aside0.mk (Kd.R_elder' au25 (Kd.R_base ho0) hb);have n1_ := Aside0.mk (Kd.R_elder' (by (with_reducible repeat (first | apply Kd.R_alloc | apply Kd.R_drewN | apply Kd.R_drew));exact HO554.out) (Kd.R_base ho0) hb);have n2_ := Aside0.mk (Kd.R_lower (Kd.R_new' (Kd.R_new' ho0 (Kd.R_lt au25)) (Kd.R_lt (by (with_reducible repeat (first | apply Kd.R_alloc | apply Kd.R_drewN | apply Kd.R_drew));exact HO554.out))) (below_size au0));have n3_ := Aside0.mk (below_step au0 hb);clear HO551;clear HO554;clear HB;have HO551 := n0_;have HO554 := n1_;have HO558 := n2_;have HB := n3_;clear n0_ n1_ n2_ n3_;(try clear hb);(try clear hb2);(try clear hk);(try clear hi);(try clear ho0);obtain ⟨Ao54,co54,eo54⟩ := Kd.R_slice HO558.out;subst eo54) | (go_at_call 21;(with_reducible refine (bodkinlaw05_same.calls kj6 _ _ t556 _ _ t549 true _ ?side1 ?side2 ?side3 ?side4 A46.out).mono ?_);(case side1 => repeat (first | exact (Kd.R_reads' HO558.out).2.2 | (with_reducible refine Kd.C_alloc ?_ _) | (with_reducible refine Kd.C_drewN ?_ _) | (with_reducible refine Kd.C_drew ?_)));(case side2 => exact (Kd.R_reads' HO558.out).2.1);(case side3 => repeat (first | exact (Kd.R_reads' HO551.out).2.2 | (with_reducible refine Kd.C_alloc ?_ _) | (with_reducible refine Kd.C_drewN ?_ _) | (with_reducible refine Kd.C_drew ?_)));(case side4 => exact (Kd.R_reads' HO551.out).2.1);rintro e w' ⟨rfl,⟨nd,rfl⟩⟩) | (go_at_call 20;(with_reducible refine (word_Spans.calls t542 t560 _ ?side1 A48.out).mono ?_);(case side1 => exact tabs_below HT.out au0);rintro e w55 ⟨v561,rfl,ho0,hb⟩;have n0_ := Aside0.mk (Kd.R_elder' au25 (Kd.R_base ho0) hb);have n1_ := Aside0.mk (Kd.R_elder' (by (with_reducible repeat (first | apply Kd.R_alloc | apply Kd.R_drewN | apply Kd.R_drew));exact HO554.out) (Kd.R_base ho0) hb);have n2_ := Aside0.mk (Kd.R_elder' (by (with_reducible repeat (first | apply Kd.R_alloc | apply Kd.R_drewN | apply Kd.R_drew));exact HO558.out) (Kd.R_base ho0) hb);have n3_ := Aside0.mk (Kd.R_lower (Kd.R_new' (Kd.R_new' (Kd.R_new' ho0 (Kd.R_lt au25)) (Kd.R_lt (by (with_reducible repeat (first | apply Kd.R_alloc | apply Kd.R_drewN | apply Kd.R_drew));exact HO554.out))) (Kd.R_lt (by (with_reducible repeat (first | apply Kd.R_alloc | apply Kd.R_drewN | apply Kd.R_drew));exact HO558.out))) (below_size au0));have n4_ := Aside0.mk (below_step au0 hb);clear HO551;clear HO554;clear HO558;clear HB;have HO551 := n0_;have HO554 := n1_;have HO558 := n2_;have HO562 := n3_;have HB := n4_;clear n0_ n1_ n2_ n3_ n4_;(try clear hb);(try clear hb2);(try clear hk);(try clear hi);(try clear ho0);obtain ⟨Ao56,co56,eo56⟩ := Kd.R_slice HO562.out;subst eo56) | (go_at_call 21;(with_reducible refine (bodkinlaw05_same.calls kj6 _ _ t560 _ _ t549 t563 _ ?side1 ?side2 ?side3 ?side4 A49.out).mono ?_);(case side1 => repeat (first | exact (Kd.R_reads' HO562.out).2.2 | (with_reducible refine Kd.C_alloc ?_ _) | (with_reducible refine Kd.C_drewN ?_ _) | (with_reducible refine Kd.C_drew ?_)));(case side2 => exact (Kd.R_reads' HO562.out).2.1);(case side3 => repeat (first | exact (Kd.R_reads' HO551.out).2.2 | (with_reducible refine Kd.C_alloc ?_ _) | (with_reducible refine Kd.C_drewN ?_ _) | (with_reducible refine Kd.C_drew ?_)));(case side4 => exact (Kd.R_reads' HO551.out).2.1);rintro e w' ⟨rfl,⟨nd,rfl⟩⟩))
        go_meet
        case rel => exact ⟨_,(!t563),au3,H',⟨by have := HJ6.out;first | omega | exact Nat.le_refl _⟩,⟨by (with_reducible repeat (first | apply Kd.R_alloc | apply Kd.R_drewN | apply Kd.R_drew));exact Kd.R_mono HO551.out (fun _ hk => trivial)⟩,⟨au0⟩⟩
       ·replace c47 := Bool.eq_false_iff.mpr c47
        subst c47
        have H1 : (bodkinlaw05_WordCased.j1 kj6 a0 t540 t541 t542 t549 true) = some r := by rw [if_neg (show ¬ (false = true) by decide)] at H;exact H
        clear H
        have H := H1
        clear H1
        exfalso
        subst hr_
        cases kj6 <;> simp [bodkinlaw05_WordCased.j1] at H
      ·replace c44 := Bool.eq_false_iff.mpr c44
       subst c44
       have H1 : (bodkinlaw05_WordCased.j1 kj6 a0 t540 t541 t542 t549 true) = some r := by rw [if_neg (show ¬ (false = true) by decide)] at H;exact H
       clear H
       have H := H1
       clear H1
       exfalso
       subst hr_
       cases kj6 <;> simp [bodkinlaw05_WordCased.j1] at H
     case rest =>
      clear HC40
      try clear c1
      try clear c2
      try clear p2
      try clear c3
      try clear c4
      try clear c10
      try clear c12
      try clear c12b0
      try clear c12b1
      try clear c12b2
      try clear c13
      try clear c13b0
      try clear c13b1
      try clear c13b2
      try clear c14
      try clear c14b0
      try clear c14b1
      try clear c14b2
      try clear c16
      try clear c16b0
      try clear c16b1
      try clear c18
      try clear c18b0
      try clear c18b1
      try clear c20
      try clear c21
      try clear c22
      try clear c22b0
      try clear c22b1
      try clear c30
      try clear c32
      try clear c34
      try clear c38
      try clear c44
      try clear c47
      try clear p2
      obtain ⟨kq,x92_39,rfl,HA,HJ39,HO_6,HB⟩ := hcut
      cases kq with
      | zero => exact absurd HA.out (by simp [bodkinlaw05_WordCased.j1])
      | succ kj39 =>
       have H := HA.out
       clear HA
       simp only [bodkinlaw05_WordCased.j1] at H
       by_cases c65 : x92_39 = true
       ·subst c65
        have H1 : (some false) = some r := by rw [if_pos rfl] at H;exact H
        clear H
        have H := H1
        clear H1
        obtain rfl := Option.some.inj H
        cases hr_
       ·replace c65 := Bool.eq_false_iff.mpr c65
        subst c65
        have H1 : (bodkinlaw05_WordCased.l0 kj39 a0 t540 t541 t542 t549 0) = some r := by rw [if_neg (show ¬ (false = true) by decide)] at H;exact H
        clear H
        have H := H1
        clear H1
        have H' := Aside0.mk H
        clear H
        go_wp2
        go_loopg [7] kj39 (fun kq v7 w' => ∃ (x7_3 : Int),v7 = .int .i64 x7_3 ∧ Aside0 (bodkinlaw05_WordCased.l0 kq a0 t540 t541 t542 t549 x7_3 = some r) ∧ Aside0 (kq ≤ kj39) ∧ Aside0 (Kd.R k32 32 w' w.heap.size (fun _ => True) v550 t549) ∧ Aside0 (Below w.heap.size w w'))
        case atStart => exact ⟨(0),au3,H',⟨Nat.le_refl _⟩,⟨by (with_reducible repeat (first | apply Kd.R_alloc | apply Kd.R_drewN | apply Kd.R_drew));exact HO_6.out⟩,⟨au0⟩⟩
        case round =>
         clear H'
         try clear c1
         try clear c2
         try clear p2
         try clear c3
         try clear c4
         try clear c6
         try clear c10
         try clear c12
         try clear c12b0
         try clear c12b1
         try clear c12b2
         try clear c13
         try clear c13b0
         try clear c13b1
         try clear c13b2
         try clear c14
         try clear c14b0
         try clear c14b1
         try clear c14b2
         try clear c16
         try clear c16b0
         try clear c16b1
         try clear c18
         try clear c18b0
         try clear c18b1
         try clear c20
         try clear c21
         try clear c22
         try clear c22b0
         try clear c22b1
         try clear c30
         try clear c32
         try clear c34
         try clear c38
         try clear c44
         try clear c47
         try clear c65
         try clear p2
         obtain ⟨x7_3,rfl,HA,HK3,HO_6,HB⟩ := hrel
         cases gk with
         | zero => exact absurd HA.out (by simp [bodkinlaw05_WordCased.l0])
         | succ k3 =>
          have H := HA.out
          clear HA
          simp only [bodkinlaw05_WordCased.l0] at H
          by_cases c66 : x7_3 ≤ (a0.size : Int)
          ·rw [if_pos c66] at H
           have c66b0 : decide (x7_3 ≤ (a0.size : Int)) = true := decide_eq_true c66
           clear c66
           replace H := Option.bind_eq_some_iff.mp H
           obtain ⟨⟨t564,t565,t566⟩,A670,H⟩ := H
           replace H : ((unit_At.f k3 t540 x7_3).bind fun bt568 => ((unit_At.f k3 t541 x7_3).bind fun bt572 => (if (t566 != bt568.2.2) = true then (some false) else (if (t566 != bt572.2.2) = true then (some false) else (if t566 = true then ((word_UpperOf.f k3 t564).bind fun t576 => (if bt568.1 = t576 then ((word_LowerOf.f t564).bind fun t577 => (if bt572.1 = t577 then (bodkinlaw05_WordCased.l0 k3 a0 t540 t541 t542 t549 (wrap64 (x7_3 + 1))) else (some false))) else (some false))) else (bodkinlaw05_WordCased.l0 k3 a0 t540 t541 t542 t549 (wrap64 (x7_3 + 1)))))))) = some r := H
           have A67 := Aside0.mk A670
           clear A670
           replace H := Option.bind_eq_some_iff.mp H
           obtain ⟨⟨t568,t569,t570⟩,A680,H⟩ := H
           replace H : ((unit_At.f k3 t541 x7_3).bind fun bt572 => (if (t566 != t570) = true then (some false) else (if (t566 != bt572.2.2) = true then (some false) else (if t566 = true then ((word_UpperOf.f k3 t564).bind fun t576 => (if t568 = t576 then ((word_LowerOf.f t564).bind fun t577 => (if bt572.1 = t577 then (bodkinlaw05_WordCased.l0 k3 a0 t540 t541 t542 t549 (wrap64 (x7_3 + 1))) else (some false))) else (some false))) else (bodkinlaw05_WordCased.l0 k3 a0 t540 t541 t542 t549 (wrap64 (x7_3 + 1))))))) = some r := H
           have A68 := Aside0.mk A680
           clear A680
           replace H := Option.bind_eq_some_iff.mp H
           obtain ⟨⟨t572,t573,t574⟩,A690,H⟩ := H
           replace H : (if (t566 != t570) = true then (some false) else (if (t566 != t574) = true then (some false) else (if t566 = true then ((word_UpperOf.f k3 t564).bind fun t576 => (if t568 = t576 then ((word_LowerOf.f t564).bind fun t577 => (if t572 = t577 then (bodkinlaw05_WordCased.l0 k3 a0 t540 t541 t542 t549 (wrap64 (x7_3 + 1))) else (some false))) else (some false))) else (bodkinlaw05_WordCased.l0 k3 a0 t540 t541 t542 t549 (wrap64 (x7_3 + 1)))))) = some r := H
           have A69 := Aside0.mk A690
           clear A690
           by_cases c70 : (t566 != t570) = true
           ·rw [if_pos c70] at H
            have c70b0 : (t566 != t570) = true := c70
            (try (have c70b1 : decide (t566 = t570) = false := by simpa using c70))
            (try (have c70b2 : (t566 == t570) = false := by simpa using c70))
            (try (have c70b3 : ¬ (t566 = t570) := by simpa using c70))
            clear c70
            obtain rfl := Option.some.inj H
            cases hr_
           ·rw [if_neg c70] at H
            have c70b0 : (t566 != t570) = false := by simpa using c70
            (try (have c70b1 : decide (t566 = t570) = true := by simpa using c70))
            (try (have c70b2 : (t566 == t570) = true := by simpa using c70))
            clear c70
            by_cases c85 : (t566 != t574) = true
            ·rw [if_pos c85] at H
             have c85b0 : (t566 != t574) = true := c85
             (try (have c85b1 : decide (t566 = t574) = false := by simpa using c85))
             (try (have c85b2 : (t566 == t574) = false := by simpa using c85))
             (try (have c85b3 : ¬ (t566 = t574) := by simpa using c85))
             clear c85
             obtain rfl := Option.some.inj H
             cases hr_
            ·rw [if_neg c85] at H
             have c85b0 : (t566 != t574) = false := by simpa using c85
             (try (have c85b1 : decide (t566 = t574) = true := by simpa using c85))
             (try (have c85b2 : (t566 == t574) = true := by simpa using c85))
             clear c85
             by_cases c100 : t566 = true
             ·subst c100
              have H1 : ((word_UpperOf.f k3 t564).bind fun t576 => (if t568 = t576 then ((word_LowerOf.f t564).bind fun t577 => (if t572 = t577 then (bodkinlaw05_WordCased.l0 k3 a0 t540 t541 t542 t549 (wrap64 (x7_3 + 1))) else (some false))) else (some false))) = some r := by rw [if_pos rfl] at H;exact H
              clear H
              have H := H1
              clear H1
              replace H := Option.bind_eq_some_iff.mp H
              obtain ⟨t576,A1010,H⟩ := H
              replace H : (if t568 = t576 then ((word_LowerOf.f t564).bind fun t577 => (if t572 = t577 then (bodkinlaw05_WordCased.l0 k3 a0 t540 t541 t542 t549 (wrap64 (x7_3 + 1))) else (some false))) else (some false)) = some r := H
              have A101 := Aside0.mk A1010
              clear A1010
              by_cases c102 : t568 = t576
              ·rw [if_pos c102] at H
               have c102b0 : (t568 == t576) = true := beq_iff_eq.mpr c102
               have c102b1 : (t568 != t576) = false := bne_eq_false_iff_eq.mpr c102
               clear c102
               replace H := Option.bind_eq_some_iff.mp H
               obtain ⟨t577,A1030,H⟩ := H
               replace H : (if t572 = t577 then (bodkinlaw05_WordCased.l0 k3 a0 t540 t541 t542 t549 (wrap64 (x7_3 + 1))) else (some false)) = some r := H
               have A103 := Aside0.mk A1030
               clear A1030
               by_cases c104 : t572 = t577
               ·rw [if_pos c104] at H
                have c104b0 : (t572 == t577) = true := beq_iff_eq.mpr c104
                have c104b1 : (t572 != t577) = false := bne_eq_false_iff_eq.mpr c104
                clear c104
                have H' := Aside0.mk H
                clear H
                try go_wp2_with (first | ((with_reducible refine gate_callee (f := 36) rfl ?_);refine goesL_ (some 102) rfl rfl Tryd.func36 (by kernel_rfl) rfl #[.string a0,.int .i64 x7_3] rfl au1 ?_;(with_reducible refine (unit_At.calls k3 a0 x7_3 t564 t565 true _ ?side1 A67.out).mono ?_);(case side1 => exact tabs_below HT.out au0);rintro e w105 ⟨rfl,hb⟩;refine ⟨_,rfl,?_⟩;have n0_ := Aside0.mk (Kd.R_below au15 hb);have n1_ := Aside0.mk (below_step au0 hb);clear HO_6;clear HB;have HO_6 := n0_;have HB := n1_;clear n0_ n1_;(try clear hb);(try clear hb2);(try clear hk);(try clear hi)) | ((with_reducible refine gate_dst (N := 8) rfl ?_);(try (refine gate_guard (by rfl) ?_;dsimp only));refine box_event ?hg (N := 8) ?hd (cs := #[.int .i32 0,.int .i64 0]) (t := 42) ?hr ?_;(case hd => rfl);(case hg => rfl);(case hr => first | (go_simp;done) | (go_simp;rfl));intro gb567 hg w106 hbox hb;have n0_ := Aside0.mk (Kd.R_below au15 hb);have n1_ := Aside0.mk (below_step au0 hb);have n2_ := Aside0.mk (hbox);have n3_ := Aside0.mk ((by rw [hg];exact (below_size au0) : w.heap.size ≤ gb567));have n4_ := Aside0.mk ((by rw [hg];exact (below_size au0) : w.heap.size ≤ gb567));clear HO_6;clear HB;have HO_6 := n0_;have HB := n1_;have BK567 := n2_;have GW567 := n3_;have GE567 := n4_;clear n0_ n1_ n2_ n3_ n4_;clear hb hbox hg;have hcz107_0 : w106.cell? ⟨gb567,0,none⟩ = some (.int .i32 0) := (blk_cell BK567.out 0).trans rfl;have hcz107_1 : w106.cell? ⟨gb567,1,none⟩ = some (.int .i64 0) := (blk_cell BK567.out 1).trans rfl;have hfz107_0 := blk_frozen BK567.out 0;have hfz107_1 := blk_frozen BK567.out 1) | ((with_reducible refine gate_callee (f := 36) rfl ?_);refine goesL_ (some 108) rfl rfl Tryd.func36 (by kernel_rfl) rfl #[.string t540,.int .i64 x7_3] rfl au1 ?_;(with_reducible refine (unit_At.calls k3 t540 x7_3 t568 t569 t570 _ ?side1 A68.out).mono ?_);(case side1 => exact tabs_below HT.out au10);rintro e w108 ⟨rfl,hb⟩;refine ⟨_,rfl,?_⟩;have n0_ := Aside0.mk (Kd.R_below (by (with_reducible repeat (first | apply Kd.R_alloc | apply Kd.R_drewN | apply Kd.R_drew));exact (Kd.R_mono (Kd.R_far (p := ⟨gb567,1,none⟩) (Kd.R_far (p := ⟨gb567,0,none⟩) (Kd.R_types HO_6.out BK567.out (by decide)) (fun _ hk => hk.2) (.int .i32 t564)) (fun _ hk => hk.2) (.int .i64 t565)) (fun _ h_ => h_.1))) hb);have n1_ := Aside0.mk (blk_below (g := gb567) (o := .cells #[.int .i32 t564,.int .i64 t565] 42 (0,0)) au27 hb);have n2_ := Aside0.mk (below_step au10 hb);clear HO_6;clear BK567;clear HB;have HO_6 := n0_;have BK567 := n1_;have HB := n2_;clear n0_ n1_ n2_;(try clear hb);(try clear hb2);(try clear hk);(try clear hi)) | ((with_reducible refine gate_dst (N := 10) rfl ?_);(try (refine gate_guard (by rfl) ?_;dsimp only));refine box_event ?hg (N := 10) ?hd (cs := #[.int .i32 0,.int .i64 0]) (t := 42) ?hr ?_;(case hd => rfl);(case hg => rfl);(case hr => first | (go_simp;done) | (go_simp;rfl));intro gb571 hg w109 hbox hb;have n0_ := Aside0.mk (Kd.R_below au15 hb);have n1_ := Aside0.mk (blk_below (g := gb567) (o := .cells #[.int .i32 t564,.int .i64 t565] 42 (0,0)) au11 hb);have n2_ := Aside0.mk (below_step au10 hb);have n3_ := Aside0.mk (hbox);have n4_ := Aside0.mk ((by rw [hg];exact (below_size au10) : w.heap.size ≤ gb571));have n5_ := Aside0.mk ((by rw [hg];exact (below_size au10) : w.heap.size ≤ gb571));have n6_ := Aside0.mk ((by rw [hg];exact Nat.ne_of_lt (blk_lt (g := gb567) (o := .cells #[.int .i32 t564,.int .i64 t565] 42 (0,0)) au11) : gb567 ≠ gb571));have n7_ := Aside0.mk ((by rw [hg];exact Nat.ne_of_gt (blk_lt (g := gb567) (o := .cells #[.int .i32 t564,.int .i64 t565] 42 (0,0)) au11) : gb571 ≠ gb567));clear HO_6;clear BK567;clear HB;have HO_6 := n0_;have BK567 := n1_;have HB := n2_;have BK571 := n3_;have GW571 := n4_;have GE571 := n5_;have NB567_571 := n6_;have NB571_567 := n7_;clear n0_ n1_ n2_ n3_ n4_ n5_ n6_ n7_;clear hb hbox hg;have hnb110 := NB571_567.out;have hnc110 := NB567_571.out;have hcz111_0 : w109.cell? ⟨gb571,0,none⟩ = some (.int .i32 0) := (blk_cell BK571.out 0).trans rfl;have hcz111_1 : w109.cell? ⟨gb571,1,none⟩ = some (.int .i64 0) := (blk_cell BK571.out 1).trans rfl;have hfz111_0 := blk_frozen BK571.out 0;have hfz111_1 := blk_frozen BK571.out 1) | ((with_reducible refine gate_callee (f := 36) rfl ?_);refine goesL_ (some 114) rfl rfl Tryd.func36 (by kernel_rfl) rfl #[.string t541,.int .i64 x7_3] rfl au1 ?_;(with_reducible refine (unit_At.calls k3 t541 x7_3 t572 t573 t574 _ ?side1 A69.out).mono ?_);(case side1 => exact tabs_below HT.out au8);rintro e w112 ⟨rfl,hb⟩;refine ⟨_,rfl,?_⟩;have n0_ := Aside0.mk (Kd.R_below (by (with_reducible repeat (first | apply Kd.R_alloc | apply Kd.R_drewN | apply Kd.R_drew));exact (Kd.R_mono (Kd.R_far (p := ⟨gb571,1,none⟩) (Kd.R_far (p := ⟨gb571,0,none⟩) (Kd.R_types HO_6.out BK571.out (by decide)) (fun _ hk => hk.2) (.int .i32 t568)) (fun _ hk => hk.2) (.int .i64 t569)) (fun _ h_ => h_.1))) hb);have n1_ := Aside0.mk (blk_below (g := gb567) (o := .cells #[.int .i32 t564,.int .i64 t565] 42 (0,0)) (by (with_reducible repeat (first | refine blk_drewN ?_ _ | refine blk_drew ?_ | refine blk_alloc ?_ _));refine blk_far ?_ NB567_571.out _;(with_reducible repeat (first | refine blk_drewN ?_ _ | refine blk_drew ?_ | refine blk_alloc ?_ _));refine blk_far ?_ NB567_571.out _;(with_reducible repeat (first | refine blk_drewN ?_ _ | refine blk_drew ?_ | refine blk_alloc ?_ _));exact BK567.out) hb);have n2_ := Aside0.mk (blk_below (g := gb571) (o := .cells #[.int .i32 t568,.int .i64 t569] 42 (0,0)) au28 hb);have n3_ := Aside0.mk (below_step au8 hb);clear HO_6;clear BK567;clear BK571;clear HB;have HO_6 := n0_;have BK567 := n1_;have BK571 := n2_;have HB := n3_;clear n0_ n1_ n2_ n3_;(try clear hb);(try clear hb2);(try clear hk);(try clear hi)) | ((with_reducible refine gate_dst (N := 12) rfl ?_);(try (refine gate_guard (by rfl) ?_;dsimp only));refine box_event ?hg (N := 12) ?hd (cs := #[.int .i32 0,.int .i64 0]) (t := 42) ?hr ?_;(case hd => rfl);(case hg => rfl);(case hr => first | (go_simp;done) | (go_simp;rfl));intro gb575 hg w113 hbox hb;have n0_ := Aside0.mk (Kd.R_below au15 hb);have n1_ := Aside0.mk (blk_below (g := gb567) (o := .cells #[.int .i32 t564,.int .i64 t565] 42 (0,0)) au11 hb);have n2_ := Aside0.mk (blk_below (g := gb571) (o := .cells #[.int .i32 t568,.int .i64 t569] 42 (0,0)) au20 hb);have n3_ := Aside0.mk (below_step au8 hb);have n4_ := Aside0.mk (hbox);have n5_ := Aside0.mk ((by rw [hg];exact (below_size au8) : w.heap.size ≤ gb575));have n6_ := Aside0.mk ((by rw [hg];exact (below_size au8) : w.heap.size ≤ gb575));have n7_ := Aside0.mk ((by rw [hg];exact Nat.ne_of_lt (blk_lt (g := gb567) (o := .cells #[.int .i32 t564,.int .i64 t565] 42 (0,0)) au11) : gb567 ≠ gb575));have n8_ := Aside0.mk ((by rw [hg];exact Nat.ne_of_gt (blk_lt (g := gb567) (o := .cells #[.int .i32 t564,.int .i64 t565] 42 (0,0)) au11) : gb575 ≠ gb567));have n9_ := Aside0.mk ((by rw [hg];exact Nat.ne_of_lt (blk_lt (g := gb571) (o := .cells #[.int .i32 t568,.int .i64 t569] 42 (0,0)) au20) : gb571 ≠ gb575));have n10_ := Aside0.mk ((by rw [hg];exact Nat.ne_of_gt (blk_lt (g := gb571) (o := .cells #[.int .i32 t568,.int .i64 t569] 42 (0,0)) au20) : gb575 ≠ gb571));clear HO_6;clear BK567;clear BK571;clear HB;have HO_6 := n0_;have BK567 := n1_;have BK571 := n2_;have HB := n3_;have BK575 := n4_;have GW575 := n5_;have GE575 := n6_;have NB567_575 := n7_;have NB575_567 := n8_;have NB571_575 := n9_;have NB575_571 := n10_;clear n0_ n1_ n2_ n3_ n4_ n5_ n6_ n7_ n8_ n9_ n10_;clear hb hbox hg;have hnb114 := NB575_567.out;have hnc114 := NB567_575.out;have hnb115 := NB575_571.out;have hnc115 := NB571_575.out;have hcz116_0 : w113.cell? ⟨gb575,0,none⟩ = some (.int .i32 0) := (blk_cell BK575.out 0).trans rfl;have hcz116_1 : w113.cell? ⟨gb575,1,none⟩ = some (.int .i64 0) := (blk_cell BK575.out 1).trans rfl;have hfz116_0 := blk_frozen BK575.out 0;have hfz116_1 := blk_frozen BK575.out 1))
                have n0_ : Aside0 (Kd.R k32 32 ((w113.setCell ⟨gb575,0,none⟩ (.int .i32 t572)).setCell ⟨gb575,1,none⟩ (.int .i64 t573)) w.heap.size (fun _ => True) v550 t549) := ⟨by (with_reducible repeat (first | apply Kd.R_alloc | apply Kd.R_drewN | apply Kd.R_drew));exact Kd.R_mono (Kd.R_far (p := ⟨gb575,1,none⟩) (Kd.R_far (p := ⟨gb575,0,none⟩) (Kd.R_types HO_6.out BK575.out (by decide)) (fun _ hk => hk.2) (.int .i32 t572)) (fun _ hk => hk.2) (.int .i64 t573)) (fun _ hk => trivial)⟩
                have n1_ : Aside0 (((w113.setCell ⟨gb575,0,none⟩ (.int .i32 t572)).setCell ⟨gb575,1,none⟩ (.int .i64 t573)).heap[gb567]? = some (.cells #[.int .i32 t564,.int .i64 t565] 42 (0,0))) := ⟨by (with_reducible repeat (first | refine blk_drewN ?_ _ | refine blk_drew ?_ | refine blk_alloc ?_ _));refine blk_far ?_ NB567_575.out _;(with_reducible repeat (first | refine blk_drewN ?_ _ | refine blk_drew ?_ | refine blk_alloc ?_ _));refine blk_far ?_ NB567_575.out _;(with_reducible repeat (first | refine blk_drewN ?_ _ | refine blk_drew ?_ | refine blk_alloc ?_ _));exact BK567.out⟩
                have n2_ : Aside0 (((w113.setCell ⟨gb575,0,none⟩ (.int .i32 t572)).setCell ⟨gb575,1,none⟩ (.int .i64 t573)).heap[gb571]? = some (.cells #[.int .i32 t568,.int .i64 t569] 42 (0,0))) := ⟨by (with_reducible repeat (first | refine blk_drewN ?_ _ | refine blk_drew ?_ | refine blk_alloc ?_ _));refine blk_far ?_ NB571_575.out _;(with_reducible repeat (first | refine blk_drewN ?_ _ | refine blk_drew ?_ | refine blk_alloc ?_ _));refine blk_far ?_ NB571_575.out _;(with_reducible repeat (first | refine blk_drewN ?_ _ | refine blk_drew ?_ | refine blk_alloc ?_ _));exact BK571.out⟩
                have n3_ : Aside0 (((w113.setCell ⟨gb575,0,none⟩ (.int .i32 t572)).setCell ⟨gb575,1,none⟩ (.int .i64 t573)).heap[gb575]? = some (.cells #[.int .i32 t572,.int .i64 t573] 42 (0,0))) := ⟨by (with_reducible repeat (first | refine blk_drewN ?_ _ | refine blk_drew ?_ | refine blk_alloc ?_ _));refine blk_put (cs := #[.int .i32 t572,.int .i64 0]) ?_ 1 _ rfl;(with_reducible repeat (first | refine blk_drewN ?_ _ | refine blk_drew ?_ | refine blk_alloc ?_ _));refine blk_put (cs := #[.int .i32 0,.int .i64 0]) ?_ 0 _ rfl;(with_reducible repeat (first | refine blk_drewN ?_ _ | refine blk_drew ?_ | refine blk_alloc ?_ _));exact BK575.out⟩
                have n4_ : Aside0 (Below w.heap.size w ((w113.setCell ⟨gb575,0,none⟩ (.int .i32 t572)).setCell ⟨gb575,1,none⟩ (.int .i64 t573))) := ⟨by repeat (first | (with_reducible first | exact HB.out | apply below_alloc | apply pw_below_drewN | apply below_drew1 | refine below_set ?_ GE567.out | refine below_set ?_ GE571.out | refine below_set ?_ GE575.out) | exact HB.out)⟩
                (try clear HO_6)
                (try clear BK567)
                (try clear BK571)
                (try clear BK575)
                (try clear HB)
                generalize ((w113.setCell ⟨gb575,0,none⟩ (.int .i32 t572)).setCell ⟨gb575,1,none⟩ (.int .i64 t573)) = w117 at n0_ n1_ n2_ n3_ n4_ ⊢
                have HO_6 := n0_
                have BK567 := n1_
                have BK571 := n2_
                have BK575 := n3_
                have HB := n4_
                clear n0_ n1_ n2_ n3_ n4_
                have n0_ := Aside0.mk (Kd.R_drew HO_6.out)
                have n1_ := Aside0.mk (blk_drew BK567.out)
                have n2_ := Aside0.mk (blk_drew BK571.out)
                have n3_ := Aside0.mk (blk_drew BK575.out)
                have n4_ := Aside0.mk (below_drew1 HB.out)
                clear HO_6
                clear BK567
                clear BK571
                clear BK575
                clear HB
                have HO_6 := n0_
                have BK567 := n1_
                have BK571 := n2_
                have BK575 := n3_
                have HB := n4_
                clear n0_ n1_ n2_ n3_ n4_
                refine start_ (n := 27) (S := fun w' => w'.cell? ⟨gb571,0,none⟩ = some (.int .i32 t568) ∧ w'.cell? ⟨gb571,1,none⟩ = some (.int .i64 t569) ∧ w'.cell? ⟨gb567,0,none⟩ = some (.int .i32 t564) ∧ w'.cell? ⟨gb567,1,none⟩ = some (.int .i64 t565) ∧ w'.cell? ⟨gb575,0,none⟩ = some (.int .i32 t572) ∧ w'.cell? ⟨gb575,1,none⟩ = some (.int .i64 t573)) (ds := []) #[false,false,false,false,false,false,false,false,false,false,false,false,false,false,false,false,false,false,false,false,false,false,false,false,false,false,false] (by kernel_rfl) rfl rfl ⟨(blk_cell BK571.out 0).trans rfl,(blk_cell BK571.out 1).trans rfl,(blk_cell BK567.out 0).trans rfl,(blk_cell BK567.out 1).trans rfl,(blk_cell BK575.out 0).trans rfl,(blk_cell BK575.out 1).trans rfl⟩ (fun hHeld => ?_);refine with_tabW bodkinlaw05_WordCased.tab17 bodkinlaw05_WordCased.bits17 (fun HT_ HW_ => ?_)
                generalize w117.drew = w118 at HO_6 BK567 BK571 BK575 HB hHeld ⊢
                refine pure_ (i := 0) (N := some 117) (v := ?_) (a' := ?_) #[true,false,false,false,false,false,false,false,false,false,false,false,false,false,false,false,false,false,false,false,false,false,false,false,false,false,false] rfl rfl (any_of HT_.out (by kernel_rfl)) (fun _ _ _ h => h) (Or.inl ⟨by rfl,?_⟩) ?_ ?_
                rotate_left
                ·intro w'
                 go_simp
                 with_reducible rfl
                rotate_left
                ·simp only [Act.put,List.setIfInBounds_toArray,List.set_cons_zero,List.set_cons_succ,i64_w,i32_w]
                 rfl
                refine pure_ (i := 1) (N := some 118) (v := ?_) (a' := ?_) #[true,true,false,false,false,false,false,false,false,false,false,false,false,false,false,false,false,false,false,false,false,false,false,false,false,false,false] rfl rfl (any_of HT_.out (by kernel_rfl)) (fun _ _ _ h => h) (Or.inl ⟨by rfl,?_⟩) ?_ ?_
                rotate_left
                ·intro w'
                 go_simp
                 with_reducible rfl
                rotate_left
                ·simp only [Act.put,List.setIfInBounds_toArray,List.set_cons_zero,List.set_cons_succ,i64_w,i32_w]
                 rfl
                refine pure_ (i := 2) (N := some 119) (v := ?_) (a' := ?_) #[true,true,true,false,false,false,false,false,false,false,false,false,false,false,false,false,false,false,false,false,false,false,false,false,false,false,false] rfl rfl (any_of HT_.out (by kernel_rfl)) (fun _ _ _ h => h) (Or.inl ⟨by rfl,?_⟩) ?_ ?_
                rotate_left
                ·intro w'
                 go_simp
                 with_reducible rfl
                rotate_left
                ·simp only [Act.put,List.setIfInBounds_toArray,List.set_cons_zero,List.set_cons_succ,i64_w,i32_w]
                 rfl
                refine pure_ (i := 3) (N := some 120) (v := ?_) (a' := ?_) #[true,true,true,true,false,false,false,false,false,false,false,false,false,false,false,false,false,false,false,false,false,false,false,false,false,false,false] rfl rfl (any_of HT_.out (by kernel_rfl)) (fun _ _ _ h => h) (Or.inl ⟨by rfl,?_⟩) ?_ ?_
                rotate_left
                ·intro w'
                 go_simp
                 with_reducible rfl
                rotate_left
                ·simp only [Act.put,List.setIfInBounds_toArray,List.set_cons_zero,List.set_cons_succ,i64_w,i32_w]
                 rfl
                refine pure_ (i := 4) (N := some 121) (v := ?_) (a' := ?_) #[true,true,true,true,true,false,false,false,false,false,false,false,false,false,false,false,false,false,false,false,false,false,false,false,false,false,false] rfl rfl (any_of HT_.out (by kernel_rfl)) (fun _ _ _ h => h) (Or.inl ⟨by rfl,?_⟩) ?_ ?_
                rotate_left
                ·intro w'
                 go_simp
                 with_reducible rfl
                rotate_left
                ·simp only [Act.put,List.setIfInBounds_toArray,List.set_cons_zero,List.set_cons_succ,i64_w,i32_w]
                 rfl
                refine pure_ (i := 5) (N := some 122) (v := ?_) (a' := ?_) #[true,true,true,true,true,true,false,false,false,false,false,false,false,false,false,false,false,false,false,false,false,false,false,false,false,false,false] rfl rfl (any_of HT_.out (by kernel_rfl)) (fun _ _ _ h => h) (Or.inl ⟨by rfl,?_⟩) ?_ ?_
                rotate_left
                ·intro w'
                 go_simp
                 with_reducible rfl
                rotate_left
                ·simp only [Act.put,List.setIfInBounds_toArray,List.set_cons_zero,List.set_cons_succ,i64_w,i32_w]
                 rfl
                refine pure_ (i := 6) (N := some 123) (v := ?_) (a' := ?_) #[true,true,true,true,true,true,true,false,false,false,false,false,false,false,false,false,false,false,false,false,false,false,false,false,false,false,false] rfl rfl (any_of HT_.out (by kernel_rfl)) (fun _ _ _ h => h) (Or.inl ⟨by rfl,?_⟩) ?_ ?_
                rotate_left
                ·intro w'
                 go_simp
                 with_reducible rfl
                rotate_left
                ·simp only [Act.put,List.setIfInBounds_toArray,List.set_cons_zero,List.set_cons_succ,i64_w,i32_w]
                 rfl
                refine pure_ (i := 7) (N := some 124) (v := ?_) (a' := ?_) #[true,true,true,true,true,true,true,true,false,false,false,false,false,false,false,false,false,false,false,false,false,false,false,false,false,false,false] rfl rfl (any_of HT_.out (by kernel_rfl)) (fun _ _ _ h => h) (Or.inl ⟨by rfl,?_⟩) ?_ ?_
                rotate_left
                ·intro w'
                 go_simp
                 with_reducible rfl
                rotate_left
                ·simp only [Act.put,List.setIfInBounds_toArray,List.set_cons_zero,List.set_cons_succ,i64_w,i32_w]
                 rfl
                refine pure_ (i := 8) (N := some 125) (v := ?_) (a' := ?_) #[true,true,true,true,true,true,true,true,true,false,false,false,false,false,false,false,false,false,false,false,false,false,false,false,false,false,false] rfl rfl (any_of HT_.out (by kernel_rfl)) (fun _ _ _ h => h) (Or.inl ⟨by rfl,?_⟩) ?_ ?_
                rotate_left
                ·intro w'
                 go_simp
                 with_reducible rfl
                rotate_left
                ·simp only [Act.put,List.setIfInBounds_toArray,List.set_cons_zero,List.set_cons_succ,i64_w,i32_w]
                 rfl
                refine pure_ (i := 9) (N := some 126) (v := ?_) (a' := ?_) #[true,true,true,true,true,true,true,true,true,true,false,false,false,false,false,false,false,false,false,false,false,false,false,false,false,false,false] rfl rfl (any_of HT_.out (by kernel_rfl)) (fun _ _ _ h => h) (Or.inl ⟨by rfl,?_⟩) ?_ ?_
                rotate_left
                ·intro w'
                 go_simp
                 with_reducible rfl
                rotate_left
                ·simp only [Act.put,List.setIfInBounds_toArray,List.set_cons_zero,List.set_cons_succ,i64_w,i32_w]
                 rfl
                refine pure_ (i := 10) (N := some 127) (v := ?_) (a' := ?_) #[true,true,true,true,true,true,true,true,true,true,true,false,false,false,false,false,false,false,false,false,false,false,false,false,false,false,false] rfl rfl (any_of HT_.out (by kernel_rfl)) (fun _ _ _ h => h) (Or.inl ⟨by rfl,?_⟩) ?_ ?_
                rotate_left
                ·intro w'
                 go_simp
                 with_reducible rfl
                rotate_left
                ·simp only [Act.put,List.setIfInBounds_toArray,List.set_cons_zero,List.set_cons_succ,i64_w,i32_w]
                 rfl
                refine pure_ (i := 11) (N := some 128) (v := ?_) (a' := ?_) #[true,true,true,true,true,true,true,true,true,true,true,true,false,false,false,false,false,false,false,false,false,false,false,false,false,false,false] rfl rfl (any_of HT_.out (by kernel_rfl)) (fun _ _ _ h => h) (Or.inl ⟨by rfl,?_⟩) ?_ ?_
                rotate_left
                ·intro w'
                 go_simp
                 with_reducible rfl
                rotate_left
                ·simp only [Act.put,List.setIfInBounds_toArray,List.set_cons_zero,List.set_cons_succ,i64_w,i32_w]
                 rfl
                refine pure_ (i := 13) (N := some 130) (v := ?_) (a' := ?_) #[true,true,true,true,true,true,true,true,true,true,true,true,false,true,false,false,false,false,false,false,false,false,false,false,false,false,false] rfl rfl (any_of HT_.out (by kernel_rfl)) (fun _ _ _ h => h) (Or.inl ⟨by rfl,?_⟩) ?_ ?_
                rotate_left
                ·intro w'
                 go_simp
                 with_reducible rfl
                rotate_left
                ·simp only [Act.put,List.setIfInBounds_toArray,List.set_cons_zero,List.set_cons_succ,i64_w,i32_w]
                 rfl
                refine take_ (i := 12) (N := some 129) (v := ?_) (a' := ?_) #[true,true,true,true,true,true,true,true,true,true,true,true,true,true,false,false,false,false,false,false,false,false,false,false,false,false,false] rfl rfl (take_ofW HT_.out HW_.out (by kernel_rfl)) (fun _ _ _ h => h) (Or.inl ⟨by rfl,?_⟩) hHeld ?_ ?_
                rotate_left
                ·rintro w' ⟨s0,s1,s2,s3,s4,s5⟩
                 go_simp
                 with_reducible rfl
                rotate_left
                ·simp only [Act.put,List.setIfInBounds_toArray,List.set_cons_zero,List.set_cons_succ,i64_w,i32_w]
                 rfl
                refine take_ (i := 14) (N := some 131) (v := ?_) (a' := ?_) #[true,true,true,true,true,true,true,true,true,true,true,true,true,true,true,false,false,false,false,false,false,false,false,false,false,false,false] rfl rfl (take_ofW HT_.out HW_.out (by kernel_rfl)) (fun _ _ _ h => h) (Or.inl ⟨by rfl,?_⟩) hHeld ?_ ?_
                rotate_left
                ·rintro w' ⟨s0,s1,s2,s3,s4,s5⟩
                 go_simp
                 with_reducible rfl
                rotate_left
                ·simp only [Act.put,List.setIfInBounds_toArray,List.set_cons_zero,List.set_cons_succ,i64_w,i32_w]
                 rfl
                refine one_ (i := 15) (N := some 132) #[true,true,true,true,true,true,true,true,true,true,true,true,true,true,true,true,false,false,false,false,false,false,false,false,false,false,false] rfl rfl (one_of HT_.out (by kernel_rfl)) (by decide) (fun K hK => ?_)
                refine goes_ Tryd.func15 (by kernel_rfl) rfl #[.int .i32 t564] (by rfl) rfl rfl au1 ?_
                with_reducible refine (word_UpperOf.calls k3 t564 t576 _ A101.out).mono ?_
                rintro e w' ⟨rfl,⟨nd,rfl⟩⟩
                refine ⟨_,rfl,?_⟩
                refine hK.out _ _ ⟨(blk_cell BK571.out 0).trans rfl,(blk_cell BK571.out 1).trans rfl,(blk_cell BK567.out 0).trans rfl,(blk_cell BK567.out 1).trans rfl,(blk_cell BK575.out 0).trans rfl,(blk_cell BK575.out 1).trans rfl⟩ (fun hHeld => ?_)
                clear hK K
                refine norm_ (a' := ?_) ?_ ?_
                rotate_left
                ·show Act.put _ (some 132) _ = _
                 simp only [Act.put,List.setIfInBounds_toArray,List.set_cons_zero,List.set_cons_succ,i64_w,i32_w]
                 rfl
                refine pure_ (i := 16) (N := some 133) (v := ?_) (a' := ?_) #[true,true,true,true,true,true,true,true,true,true,true,true,true,true,true,true,true,false,false,false,false,false,false,false,false,false,false] rfl rfl (any_of HT_.out (by kernel_rfl)) (fun _ _ _ h => h) (Or.inl ⟨by rfl,?_⟩) ?_ ?_
                rotate_left
                ·intro w'
                 go_simp
                 with_reducible rfl
                rotate_left
                ·simp only [Act.put,List.setIfInBounds_toArray,List.set_cons_zero,List.set_cons_succ,i64_w,i32_w]
                 rfl
                refine pure_ (i := 17) (N := some 134) (v := ?_) (a' := ?_) #[true,true,true,true,true,true,true,true,true,true,true,true,true,true,true,true,true,true,false,false,false,false,false,false,false,false,false] rfl rfl (any_of HT_.out (by kernel_rfl)) (fun _ _ _ h => h) (Or.inl ⟨by rfl,?_⟩) ?_ ?_
                rotate_left
                ·intro w'
                 go_simp
                 with_reducible rfl
                rotate_left
                ·simp only [Act.put,List.setIfInBounds_toArray,List.set_cons_zero,List.set_cons_succ,i64_w,i32_w]
                 rfl
                refine pure_ (i := 18) (N := some 135) (v := ?_) (a' := ?_) #[true,true,true,true,true,true,true,true,true,true,true,true,true,true,true,true,true,true,true,false,false,false,false,false,false,false,false] rfl rfl (any_of HT_.out (by kernel_rfl)) (fun _ _ _ h => h) (Or.inl ⟨by rfl,?_⟩) ?_ ?_
                rotate_left
                ·intro w'
                 go_simp
                 with_reducible rfl
                rotate_left
                ·simp only [Act.put,List.setIfInBounds_toArray,List.set_cons_zero,List.set_cons_succ,i64_w,i32_w]
                 rfl
                refine pure_ (i := 20) (N := some 137) (v := ?_) (a' := ?_) #[true,true,true,true,true,true,true,true,true,true,true,true,true,true,true,true,true,true,true,false,true,false,false,false,false,false,false] rfl rfl (any_of HT_.out (by kernel_rfl)) (fun _ _ _ h => h) (Or.inl ⟨by rfl,?_⟩) ?_ ?_
                rotate_left
                ·intro w'
                 go_simp
                 with_reducible rfl
                rotate_left
                ·simp only [Act.put,List.setIfInBounds_toArray,List.set_cons_zero,List.set_cons_succ,i64_w,i32_w]
                 rfl
                refine take_ (i := 19) (N := some 136) (v := ?_) (a' := ?_) #[true,true,true,true,true,true,true,true,true,true,true,true,true,true,true,true,true,true,true,true,true,false,false,false,false,false,false] rfl rfl (take_ofW HT_.out HW_.out (by kernel_rfl)) (fun _ _ _ h => h) (Or.inl ⟨by rfl,?_⟩) hHeld ?_ ?_
                rotate_left
                ·rintro w' ⟨s0,s1,s2,s3,s4,s5⟩
                 go_simp
                 with_reducible rfl
                rotate_left
                ·simp only [Act.put,List.setIfInBounds_toArray,List.set_cons_zero,List.set_cons_succ,i64_w,i32_w]
                 rfl
                refine take_ (i := 21) (N := some 138) (v := ?_) (a' := ?_) #[true,true,true,true,true,true,true,true,true,true,true,true,true,true,true,true,true,true,true,true,true,true,false,false,false,false,false] rfl rfl (take_ofW HT_.out HW_.out (by kernel_rfl)) (fun _ _ _ h => h) (Or.inl ⟨by rfl,?_⟩) hHeld ?_ ?_
                rotate_left
                ·rintro w' ⟨s0,s1,s2,s3,s4,s5⟩
                 go_simp
                 with_reducible rfl
                rotate_left
                ·simp only [Act.put,List.setIfInBounds_toArray,List.set_cons_zero,List.set_cons_succ,i64_w,i32_w]
                 rfl
                refine one_ (i := 22) (N := some 139) #[true,true,true,true,true,true,true,true,true,true,true,true,true,true,true,true,true,true,true,true,true,true,true,false,false,false,false] rfl rfl (one_of HT_.out (by kernel_rfl)) (by decide) (fun K hK => ?_)
                refine goes_ Tryd.func17 (by kernel_rfl) rfl #[.int .i32 t564] (by rfl) rfl rfl au1 ?_
                with_reducible refine (word_LowerOf.calls t564 t577 _ A103.out).mono ?_
                rintro e w119 ⟨rfl,hb⟩
                refine ⟨_,rfl,?_⟩
                have n0_ := Aside0.mk (Kd.R_below au15 hb)
                have n1_ := Aside0.mk (blk_below (g := gb567) (o := .cells #[.int .i32 t564,.int .i64 t565] 42 (0,0)) au11 hb)
                have n2_ := Aside0.mk (blk_below (g := gb571) (o := .cells #[.int .i32 t568,.int .i64 t569] 42 (0,0)) au20 hb)
                have n3_ := Aside0.mk (blk_below (g := gb575) (o := .cells #[.int .i32 t572,.int .i64 t573] 42 (0,0)) (by (with_reducible repeat (first | refine blk_drewN ?_ _ | refine blk_drew ?_ | refine blk_alloc ?_ _));exact BK575.out) hb)
                have n4_ := Aside0.mk (below_step (by repeat (first | (with_reducible first | exact HB.out | apply below_alloc | apply pw_below_drewN | apply below_drew1 | refine below_set ?_ GE567.out | refine below_set ?_ GE571.out | refine below_set ?_ GE575.out) | exact HB.out)) hb)
                clear HO_6
                clear BK567
                clear BK571
                clear BK575
                clear HB
                have HO_6 := n0_
                have BK567 := n1_
                have BK571 := n2_
                have BK575 := n3_
                have HB := n4_
                clear n0_ n1_ n2_ n3_ n4_
                (try clear hb)
                (try clear hb2)
                (try clear hk)
                (try clear hi)
                refine hK.out _ _ ⟨(blk_cell BK571.out 0).trans rfl,(blk_cell BK571.out 1).trans rfl,(blk_cell BK567.out 0).trans rfl,(blk_cell BK567.out 1).trans rfl,(blk_cell BK575.out 0).trans rfl,(blk_cell BK575.out 1).trans rfl⟩ (fun hHeld => ?_)
                clear hK K
                refine norm_ (a' := ?_) ?_ ?_
                rotate_left
                ·show Act.put _ (some 139) _ = _
                 simp only [Act.put,List.setIfInBounds_toArray,List.set_cons_zero,List.set_cons_succ,i64_w,i32_w]
                 rfl
                refine pure_ (i := 23) (N := some 140) (v := ?_) (a' := ?_) #[true,true,true,true,true,true,true,true,true,true,true,true,true,true,true,true,true,true,true,true,true,true,true,true,false,false,false] rfl rfl (any_of HT_.out (by kernel_rfl)) (fun _ _ _ h => h) (Or.inl ⟨by rfl,?_⟩) ?_ ?_
                rotate_left
                ·intro w'
                 go_simp
                 with_reducible rfl
                rotate_left
                ·simp only [Act.put,List.setIfInBounds_toArray,List.set_cons_zero,List.set_cons_succ,i64_w,i32_w]
                 rfl
                refine pure_ (i := 24) (N := some 141) (v := ?_) (a' := ?_) #[true,true,true,true,true,true,true,true,true,true,true,true,true,true,true,true,true,true,true,true,true,true,true,true,true,false,false] rfl rfl (any_of HT_.out (by kernel_rfl)) (fun _ _ _ h => h) (Or.inl ⟨by rfl,?_⟩) ?_ ?_
                rotate_left
                ·intro w'
                 go_simp
                 with_reducible rfl
                rotate_left
                ·simp only [Act.put,List.setIfInBounds_toArray,List.set_cons_zero,List.set_cons_succ,i64_w,i32_w]
                 rfl
                refine pure_ (i := 25) (N := some 142) (v := ?_) (a' := ?_) #[true,true,true,true,true,true,true,true,true,true,true,true,true,true,true,true,true,true,true,true,true,true,true,true,true,true,false] rfl rfl (any_of HT_.out (by kernel_rfl)) (fun _ _ _ h => h) (Or.inl ⟨by rfl,?_⟩) ?_ ?_
                rotate_left
                ·intro w'
                 go_simp
                 with_reducible rfl
                rotate_left
                ·simp only [Act.put,List.setIfInBounds_toArray,List.set_cons_zero,List.set_cons_succ,i64_w,i32_w]
                 rfl
                refine pure_ (i := 26) (N := some 143) (v := ?_) (a' := ?_) #[true,true,true,true,true,true,true,true,true,true,true,true,true,true,true,true,true,true,true,true,true,true,true,true,true,true,true] rfl rfl (any_of HT_.out (by kernel_rfl)) (fun _ _ _ h => h) (Or.inl ⟨by rfl,?_⟩) ?_ ?_
                rotate_left
                ·intro w'
                 go_simp
                 with_reducible rfl
                rotate_left
                ·simp only [Act.put,List.setIfInBounds_toArray,List.set_cons_zero,List.set_cons_succ,i64_w,i32_w]
                 rfl
                refine done_ (done_of HT_.out (by kernel_rfl)) ?_
                try go_wp2
                go_roundg k3
                case measure => have := HJ6.out;have := HJ39.out;have := HK3.out;omega
                case rel => exact ⟨(wrap64 (x7_3 + 1)),au3,H',⟨by have := HJ6.out;have := HJ39.out;have := HK3.out;omega⟩,⟨by (with_reducible repeat (first | apply Kd.R_alloc | apply Kd.R_drewN | apply Kd.R_drew));exact HO_6.out⟩,⟨by repeat (first | (with_reducible first | exact HB.out | apply below_alloc | apply pw_below_drewN | apply below_drew1 | refine below_set ?_ GE567.out | refine below_set ?_ GE571.out | refine below_set ?_ GE575.out) | exact HB.out)⟩⟩
               ·rw [if_neg c104] at H
                have c104b0 : (t572 == t577) = false := beq_eq_false_iff_ne.mpr c104
                have c104b1 : (t572 != t577) = true := bne_iff_ne.mpr c104
                obtain rfl := Option.some.inj H
                cases hr_
              ·rw [if_neg c102] at H
               have c102b0 : (t568 == t576) = false := beq_eq_false_iff_ne.mpr c102
               have c102b1 : (t568 != t576) = true := bne_iff_ne.mpr c102
               obtain rfl := Option.some.inj H
               cases hr_
             ·replace c100 := Bool.eq_false_iff.mpr c100
              subst c100
              have H1 : (bodkinlaw05_WordCased.l0 k3 a0 t540 t541 t542 t549 (wrap64 (x7_3 + 1))) = some r := by rw [if_neg (show ¬ (false = true) by decide)] at H;exact H
              clear H
              have H := H1
              clear H1
              have H' := Aside0.mk H
              clear H
              try go_wp2_with (first | ((with_reducible refine gate_callee (f := 36) rfl ?_);refine goesL_ (some 102) rfl rfl Tryd.func36 (by kernel_rfl) rfl #[.string a0,.int .i64 x7_3] rfl au1 ?_;(with_reducible refine (unit_At.calls k3 a0 x7_3 t564 t565 false _ ?side1 A67.out).mono ?_);(case side1 => exact tabs_below HT.out au0);rintro e w149 ⟨rfl,hb⟩;refine ⟨_,rfl,?_⟩;have n0_ := Aside0.mk (Kd.R_below au15 hb);have n1_ := Aside0.mk (below_step au0 hb);clear HO_6;clear HB;have HO_6 := n0_;have HB := n1_;clear n0_ n1_;(try clear hb);(try clear hb2);(try clear hk);(try clear hi)) | ((with_reducible refine gate_dst (N := 8) rfl ?_);(try (refine gate_guard (by rfl) ?_;dsimp only));refine box_event ?hg (N := 8) ?hd (cs := #[.int .i32 0,.int .i64 0]) (t := 42) ?hr ?_;(case hd => rfl);(case hg => rfl);(case hr => first | (go_simp;done) | (go_simp;rfl));intro gb567 hg w150 hbox hb;have n0_ := Aside0.mk (Kd.R_below au15 hb);have n1_ := Aside0.mk (below_step au0 hb);have n2_ := Aside0.mk (hbox);have n3_ := Aside0.mk ((by rw [hg];exact (below_size au0) : w.heap.size ≤ gb567));have n4_ := Aside0.mk ((by rw [hg];exact (below_size au0) : w.heap.size ≤ gb567));clear HO_6;clear HB;have HO_6 := n0_;have HB := n1_;have BK567 := n2_;have GW567 := n3_;have GE567 := n4_;clear n0_ n1_ n2_ n3_ n4_;clear hb hbox hg;have hcz151_0 : w150.cell? ⟨gb567,0,none⟩ = some (.int .i32 0) := (blk_cell BK567.out 0).trans rfl;have hcz151_1 : w150.cell? ⟨gb567,1,none⟩ = some (.int .i64 0) := (blk_cell BK567.out 1).trans rfl;have hfz151_0 := blk_frozen BK567.out 0;have hfz151_1 := blk_frozen BK567.out 1) | ((with_reducible refine gate_callee (f := 36) rfl ?_);refine goesL_ (some 108) rfl rfl Tryd.func36 (by kernel_rfl) rfl #[.string t540,.int .i64 x7_3] rfl au1 ?_;(with_reducible refine (unit_At.calls k3 t540 x7_3 t568 t569 t570 _ ?side1 A68.out).mono ?_);(case side1 => exact tabs_below HT.out au10);rintro e w152 ⟨rfl,hb⟩;refine ⟨_,rfl,?_⟩;have n0_ := Aside0.mk (Kd.R_below (by (with_reducible repeat (first | apply Kd.R_alloc | apply Kd.R_drewN | apply Kd.R_drew));exact (Kd.R_mono (Kd.R_far (p := ⟨gb567,1,none⟩) (Kd.R_far (p := ⟨gb567,0,none⟩) (Kd.R_types HO_6.out BK567.out (by decide)) (fun _ hk => hk.2) (.int .i32 t564)) (fun _ hk => hk.2) (.int .i64 t565)) (fun _ h_ => h_.1))) hb);have n1_ := Aside0.mk (blk_below (g := gb567) (o := .cells #[.int .i32 t564,.int .i64 t565] 42 (0,0)) au27 hb);have n2_ := Aside0.mk (below_step au10 hb);clear HO_6;clear BK567;clear HB;have HO_6 := n0_;have BK567 := n1_;have HB := n2_;clear n0_ n1_ n2_;(try clear hb);(try clear hb2);(try clear hk);(try clear hi)) | ((with_reducible refine gate_dst (N := 10) rfl ?_);(try (refine gate_guard (by rfl) ?_;dsimp only));refine box_event ?hg (N := 10) ?hd (cs := #[.int .i32 0,.int .i64 0]) (t := 42) ?hr ?_;(case hd => rfl);(case hg => rfl);(case hr => first | (go_simp;done) | (go_simp;rfl));intro gb571 hg w153 hbox hb;have n0_ := Aside0.mk (Kd.R_below au15 hb);have n1_ := Aside0.mk (blk_below (g := gb567) (o := .cells #[.int .i32 t564,.int .i64 t565] 42 (0,0)) au11 hb);have n2_ := Aside0.mk (below_step au10 hb);have n3_ := Aside0.mk (hbox);have n4_ := Aside0.mk ((by rw [hg];exact (below_size au10) : w.heap.size ≤ gb571));have n5_ := Aside0.mk ((by rw [hg];exact (below_size au10) : w.heap.size ≤ gb571));have n6_ := Aside0.mk ((by rw [hg];exact Nat.ne_of_lt (blk_lt (g := gb567) (o := .cells #[.int .i32 t564,.int .i64 t565] 42 (0,0)) au11) : gb567 ≠ gb571));have n7_ := Aside0.mk ((by rw [hg];exact Nat.ne_of_gt (blk_lt (g := gb567) (o := .cells #[.int .i32 t564,.int .i64 t565] 42 (0,0)) au11) : gb571 ≠ gb567));clear HO_6;clear BK567;clear HB;have HO_6 := n0_;have BK567 := n1_;have HB := n2_;have BK571 := n3_;have GW571 := n4_;have GE571 := n5_;have NB567_571 := n6_;have NB571_567 := n7_;clear n0_ n1_ n2_ n3_ n4_ n5_ n6_ n7_;clear hb hbox hg;have hnb154 := NB571_567.out;have hnc154 := NB567_571.out;have hcz155_0 : w153.cell? ⟨gb571,0,none⟩ = some (.int .i32 0) := (blk_cell BK571.out 0).trans rfl;have hcz155_1 : w153.cell? ⟨gb571,1,none⟩ = some (.int .i64 0) := (blk_cell BK571.out 1).trans rfl;have hfz155_0 := blk_frozen BK571.out 0;have hfz155_1 := blk_frozen BK571.out 1) | ((with_reducible refine gate_callee (f := 36) rfl ?_);refine goesL_ (some 114) rfl rfl Tryd.func36 (by kernel_rfl) rfl #[.string t541,.int .i64 x7_3] rfl au1 ?_;(with_reducible refine (unit_At.calls k3 t541 x7_3 t572 t573 t574 _ ?side1 A69.out).mono ?_);(case side1 => exact tabs_below HT.out au8);rintro e w156 ⟨rfl,hb⟩;refine ⟨_,rfl,?_⟩;have n0_ := Aside0.mk (Kd.R_below (by (with_reducible repeat (first | apply Kd.R_alloc | apply Kd.R_drewN | apply Kd.R_drew));exact (Kd.R_mono (Kd.R_far (p := ⟨gb571,1,none⟩) (Kd.R_far (p := ⟨gb571,0,none⟩) (Kd.R_types HO_6.out BK571.out (by decide)) (fun _ hk => hk.2) (.int .i32 t568)) (fun _ hk => hk.2) (.int .i64 t569)) (fun _ h_ => h_.1))) hb);have n1_ := Aside0.mk (blk_below (g := gb567) (o := .cells #[.int .i32 t564,.int .i64 t565] 42 (0,0)) (by (with_reducible repeat (first | refine blk_drewN ?_ _ | refine blk_drew ?_ | refine blk_alloc ?_ _));refine blk_far ?_ NB567_571.out _;(with_reducible repeat (first | refine blk_drewN ?_ _ | refine blk_drew ?_ | refine blk_alloc ?_ _));refine blk_far ?_ NB567_571.out _;(with_reducible repeat (first | refine blk_drewN ?_ _ | refine blk_drew ?_ | refine blk_alloc ?_ _));exact BK567.out) hb);have n2_ := Aside0.mk (blk_below (g := gb571) (o := .cells #[.int .i32 t568,.int .i64 t569] 42 (0,0)) au28 hb);have n3_ := Aside0.mk (below_step au8 hb);clear HO_6;clear BK567;clear BK571;clear HB;have HO_6 := n0_;have BK567 := n1_;have BK571 := n2_;have HB := n3_;clear n0_ n1_ n2_ n3_;(try clear hb);(try clear hb2);(try clear hk);(try clear hi)) | ((with_reducible refine gate_dst (N := 12) rfl ?_);(try (refine gate_guard (by rfl) ?_;dsimp only));refine box_event ?hg (N := 12) ?hd (cs := #[.int .i32 0,.int .i64 0]) (t := 42) ?hr ?_;(case hd => rfl);(case hg => rfl);(case hr => first | (go_simp;done) | (go_simp;rfl));intro gb575 hg w157 hbox hb;have n0_ := Aside0.mk (Kd.R_below au15 hb);have n1_ := Aside0.mk (blk_below (g := gb567) (o := .cells #[.int .i32 t564,.int .i64 t565] 42 (0,0)) au11 hb);have n2_ := Aside0.mk (blk_below (g := gb571) (o := .cells #[.int .i32 t568,.int .i64 t569] 42 (0,0)) au20 hb);have n3_ := Aside0.mk (below_step au8 hb);have n4_ := Aside0.mk (hbox);have n5_ := Aside0.mk ((by rw [hg];exact (below_size au8) : w.heap.size ≤ gb575));have n6_ := Aside0.mk ((by rw [hg];exact (below_size au8) : w.heap.size ≤ gb575));have n7_ := Aside0.mk ((by rw [hg];exact Nat.ne_of_lt (blk_lt (g := gb567) (o := .cells #[.int .i32 t564,.int .i64 t565] 42 (0,0)) au11) : gb567 ≠ gb575));have n8_ := Aside0.mk ((by rw [hg];exact Nat.ne_of_gt (blk_lt (g := gb567) (o := .cells #[.int .i32 t564,.int .i64 t565] 42 (0,0)) au11) : gb575 ≠ gb567));have n9_ := Aside0.mk ((by rw [hg];exact Nat.ne_of_lt (blk_lt (g := gb571) (o := .cells #[.int .i32 t568,.int .i64 t569] 42 (0,0)) au20) : gb571 ≠ gb575));have n10_ := Aside0.mk ((by rw [hg];exact Nat.ne_of_gt (blk_lt (g := gb571) (o := .cells #[.int .i32 t568,.int .i64 t569] 42 (0,0)) au20) : gb575 ≠ gb571));clear HO_6;clear BK567;clear BK571;clear HB;have HO_6 := n0_;have BK567 := n1_;have BK571 := n2_;have HB := n3_;have BK575 := n4_;have GW575 := n5_;have GE575 := n6_;have NB567_575 := n7_;have NB575_567 := n8_;have NB571_575 := n9_;have NB575_571 := n10_;clear n0_ n1_ n2_ n3_ n4_ n5_ n6_ n7_ n8_ n9_ n10_;clear hb hbox hg;have hnb158 := NB575_567.out;have hnc158 := NB567_575.out;have hnb159 := NB575_571.out;have hnc159 := NB571_575.out;have hcz160_0 : w157.cell? ⟨gb575,0,none⟩ = some (.int .i32 0) := (blk_cell BK575.out 0).trans rfl;have hcz160_1 : w157.cell? ⟨gb575,1,none⟩ = some (.int .i64 0) := (blk_cell BK575.out 1).trans rfl;have hfz160_0 := blk_frozen BK575.out 0;have hfz160_1 := blk_frozen BK575.out 1))
              have n0_ : Aside0 (Kd.R k32 32 ((w157.setCell ⟨gb575,0,none⟩ (.int .i32 t572)).setCell ⟨gb575,1,none⟩ (.int .i64 t573)) w.heap.size (fun _ => True) v550 t549) := ⟨by (with_reducible repeat (first | apply Kd.R_alloc | apply Kd.R_drewN | apply Kd.R_drew));exact Kd.R_mono (Kd.R_far (p := ⟨gb575,1,none⟩) (Kd.R_far (p := ⟨gb575,0,none⟩) (Kd.R_types HO_6.out BK575.out (by decide)) (fun _ hk => hk.2) (.int .i32 t572)) (fun _ hk => hk.2) (.int .i64 t573)) (fun _ hk => trivial)⟩
              have n1_ : Aside0 (((w157.setCell ⟨gb575,0,none⟩ (.int .i32 t572)).setCell ⟨gb575,1,none⟩ (.int .i64 t573)).heap[gb567]? = some (.cells #[.int .i32 t564,.int .i64 t565] 42 (0,0))) := ⟨by (with_reducible repeat (first | refine blk_drewN ?_ _ | refine blk_drew ?_ | refine blk_alloc ?_ _));refine blk_far ?_ NB567_575.out _;(with_reducible repeat (first | refine blk_drewN ?_ _ | refine blk_drew ?_ | refine blk_alloc ?_ _));refine blk_far ?_ NB567_575.out _;(with_reducible repeat (first | refine blk_drewN ?_ _ | refine blk_drew ?_ | refine blk_alloc ?_ _));exact BK567.out⟩
              have n2_ : Aside0 (((w157.setCell ⟨gb575,0,none⟩ (.int .i32 t572)).setCell ⟨gb575,1,none⟩ (.int .i64 t573)).heap[gb571]? = some (.cells #[.int .i32 t568,.int .i64 t569] 42 (0,0))) := ⟨by (with_reducible repeat (first | refine blk_drewN ?_ _ | refine blk_drew ?_ | refine blk_alloc ?_ _));refine blk_far ?_ NB571_575.out _;(with_reducible repeat (first | refine blk_drewN ?_ _ | refine blk_drew ?_ | refine blk_alloc ?_ _));refine blk_far ?_ NB571_575.out _;(with_reducible repeat (first | refine blk_drewN ?_ _ | refine blk_drew ?_ | refine blk_alloc ?_ _));exact BK571.out⟩
              have n3_ : Aside0 (((w157.setCell ⟨gb575,0,none⟩ (.int .i32 t572)).setCell ⟨gb575,1,none⟩ (.int .i64 t573)).heap[gb575]? = some (.cells #[.int .i32 t572,.int .i64 t573] 42 (0,0))) := ⟨by (with_reducible repeat (first | refine blk_drewN ?_ _ | refine blk_drew ?_ | refine blk_alloc ?_ _));refine blk_put (cs := #[.int .i32 t572,.int .i64 0]) ?_ 1 _ rfl;(with_reducible repeat (first | refine blk_drewN ?_ _ | refine blk_drew ?_ | refine blk_alloc ?_ _));refine blk_put (cs := #[.int .i32 0,.int .i64 0]) ?_ 0 _ rfl;(with_reducible repeat (first | refine blk_drewN ?_ _ | refine blk_drew ?_ | refine blk_alloc ?_ _));exact BK575.out⟩
              have n4_ : Aside0 (Below w.heap.size w ((w157.setCell ⟨gb575,0,none⟩ (.int .i32 t572)).setCell ⟨gb575,1,none⟩ (.int .i64 t573))) := ⟨by repeat (first | (with_reducible first | exact HB.out | apply below_alloc | apply pw_below_drewN | apply below_drew1 | refine below_set ?_ GE567.out | refine below_set ?_ GE571.out | refine below_set ?_ GE575.out) | exact HB.out)⟩
              (try clear HO_6)
              (try clear BK567)
              (try clear BK571)
              (try clear BK575)
              (try clear HB)
              generalize ((w157.setCell ⟨gb575,0,none⟩ (.int .i32 t572)).setCell ⟨gb575,1,none⟩ (.int .i64 t573)) = w161 at n0_ n1_ n2_ n3_ n4_ ⊢
              have HO_6 := n0_
              have BK567 := n1_
              have BK571 := n2_
              have BK575 := n3_
              have HB := n4_
              clear n0_ n1_ n2_ n3_ n4_
              have n0_ := Aside0.mk (Kd.R_drew HO_6.out)
              have n1_ := Aside0.mk (blk_drew BK567.out)
              have n2_ := Aside0.mk (blk_drew BK571.out)
              have n3_ := Aside0.mk (blk_drew BK575.out)
              have n4_ := Aside0.mk (below_drew1 HB.out)
              clear HO_6
              clear BK567
              clear BK571
              clear BK575
              clear HB
              have HO_6 := n0_
              have BK567 := n1_
              have BK571 := n2_
              have BK575 := n3_
              have HB := n4_
              clear n0_ n1_ n2_ n3_ n4_
              refine start_ (n := 27) (S := fun w' => True) (ds := []) #[false,false,false,false,false,false,false,false,false,false,false,false,false,false,false,false,false,false,false,false,false,false,false,false,false,false,false] (by kernel_rfl) rfl rfl trivial (fun hHeld => ?_);refine with_tabW bodkinlaw05_WordCased.tab17 bodkinlaw05_WordCased.bits17 (fun HT_ HW_ => ?_)
              generalize w161.drew = w162 at HO_6 BK567 BK571 BK575 HB hHeld ⊢
              refine pure_ (i := 0) (N := some 117) (v := ?_) (a' := ?_) #[true,false,false,false,false,false,false,false,false,false,false,false,false,false,false,false,false,false,false,false,false,false,false,false,false,false,false] rfl rfl (any_of HT_.out (by kernel_rfl)) (fun _ _ _ h => h) (Or.inl ⟨by rfl,?_⟩) ?_ ?_
              rotate_left
              ·intro w'
               go_simp
               with_reducible rfl
              rotate_left
              ·simp only [Act.put,List.setIfInBounds_toArray,List.set_cons_zero,List.set_cons_succ,i64_w,i32_w]
               rfl
              refine pure_ (i := 1) (N := some 118) (v := ?_) (a' := ?_) #[true,true,false,false,false,false,false,false,false,false,false,false,false,false,false,false,false,false,false,false,false,false,false,false,false,false,false] rfl rfl (any_of HT_.out (by kernel_rfl)) (fun _ _ _ h => h) (Or.inl ⟨by rfl,?_⟩) ?_ ?_
              rotate_left
              ·intro w'
               go_simp
               with_reducible rfl
              rotate_left
              ·simp only [Act.put,List.setIfInBounds_toArray,List.set_cons_zero,List.set_cons_succ,i64_w,i32_w]
               rfl
              refine pure_ (i := 2) (N := some 119) (v := ?_) (a' := ?_) #[true,true,true,false,false,false,false,false,false,false,false,false,false,false,false,false,false,false,false,false,false,false,false,false,false,false,false] rfl rfl (any_of HT_.out (by kernel_rfl)) (fun _ _ _ h => h) (Or.inl ⟨by rfl,?_⟩) ?_ ?_
              rotate_left
              ·intro w'
               go_simp
               with_reducible rfl
              rotate_left
              ·simp only [Act.put,List.setIfInBounds_toArray,List.set_cons_zero,List.set_cons_succ,i64_w,i32_w]
               rfl
              refine pure_ (i := 3) (N := some 120) (v := ?_) (a' := ?_) #[true,true,true,true,false,false,false,false,false,false,false,false,false,false,false,false,false,false,false,false,false,false,false,false,false,false,false] rfl rfl (any_of HT_.out (by kernel_rfl)) (fun _ _ _ h => h) (Or.inl ⟨by rfl,?_⟩) ?_ ?_
              rotate_left
              ·intro w'
               go_simp
               with_reducible rfl
              rotate_left
              ·simp only [Act.put,List.setIfInBounds_toArray,List.set_cons_zero,List.set_cons_succ,i64_w,i32_w]
               rfl
              refine pure_ (i := 4) (N := some 121) (v := ?_) (a' := ?_) #[true,true,true,true,true,false,false,false,false,false,false,false,false,false,false,false,false,false,false,false,false,false,false,false,false,false,false] rfl rfl (any_of HT_.out (by kernel_rfl)) (fun _ _ _ h => h) (Or.inl ⟨by rfl,?_⟩) ?_ ?_
              rotate_left
              ·intro w'
               go_simp
               with_reducible rfl
              rotate_left
              ·simp only [Act.put,List.setIfInBounds_toArray,List.set_cons_zero,List.set_cons_succ,i64_w,i32_w]
               rfl
              refine pure_ (i := 5) (N := some 122) (v := ?_) (a' := ?_) #[true,true,true,true,true,true,false,false,false,false,false,false,false,false,false,false,false,false,false,false,false,false,false,false,false,false,false] rfl rfl (any_of HT_.out (by kernel_rfl)) (fun _ _ _ h => h) (Or.inl ⟨by rfl,?_⟩) ?_ ?_
              rotate_left
              ·intro w'
               go_simp
               with_reducible rfl
              rotate_left
              ·simp only [Act.put,List.setIfInBounds_toArray,List.set_cons_zero,List.set_cons_succ,i64_w,i32_w]
               rfl
              refine pure_ (i := 6) (N := some 123) (v := ?_) (a' := ?_) #[true,true,true,true,true,true,true,false,false,false,false,false,false,false,false,false,false,false,false,false,false,false,false,false,false,false,false] rfl rfl (any_of HT_.out (by kernel_rfl)) (fun _ _ _ h => h) (Or.inl ⟨by rfl,?_⟩) ?_ ?_
              rotate_left
              ·intro w'
               go_simp
               with_reducible rfl
              rotate_left
              ·simp only [Act.put,List.setIfInBounds_toArray,List.set_cons_zero,List.set_cons_succ,i64_w,i32_w]
               rfl
              refine pure_ (i := 7) (N := some 124) (v := ?_) (a' := ?_) #[true,true,true,true,true,true,true,true,false,false,false,false,false,false,false,false,false,false,false,false,false,false,false,false,false,false,false] rfl rfl (any_of HT_.out (by kernel_rfl)) (fun _ _ _ h => h) (Or.inl ⟨by rfl,?_⟩) ?_ ?_
              rotate_left
              ·intro w'
               go_simp
               with_reducible rfl
              rotate_left
              ·simp only [Act.put,List.setIfInBounds_toArray,List.set_cons_zero,List.set_cons_succ,i64_w,i32_w]
               rfl
              refine pure_ (i := 8) (N := some 125) (v := ?_) (a' := ?_) #[true,true,true,true,true,true,true,true,true,false,false,false,false,false,false,false,false,false,false,false,false,false,false,false,false,false,false] rfl rfl (any_of HT_.out (by kernel_rfl)) (fun _ _ _ h => h) (Or.inl ⟨by rfl,?_⟩) ?_ ?_
              rotate_left
              ·intro w'
               go_simp
               with_reducible rfl
              rotate_left
              ·simp only [Act.put,List.setIfInBounds_toArray,List.set_cons_zero,List.set_cons_succ,i64_w,i32_w]
               rfl
              refine pure_ (i := 9) (N := some 126) (v := ?_) (a' := ?_) #[true,true,true,true,true,true,true,true,true,true,false,false,false,false,false,false,false,false,false,false,false,false,false,false,false,false,false] rfl rfl (any_of HT_.out (by kernel_rfl)) (fun _ _ _ h => h) (Or.inl ⟨by rfl,?_⟩) ?_ ?_
              rotate_left
              ·intro w'
               go_simp
               with_reducible rfl
              rotate_left
              ·simp only [Act.put,List.setIfInBounds_toArray,List.set_cons_zero,List.set_cons_succ,i64_w,i32_w]
               rfl
              refine pure_ (i := 10) (N := some 127) (v := ?_) (a' := ?_) #[true,true,true,true,true,true,true,true,true,true,true,false,false,false,false,false,false,false,false,false,false,false,false,false,false,false,false] rfl rfl (any_of HT_.out (by kernel_rfl)) (fun _ _ _ h => h) (Or.inl ⟨by rfl,?_⟩) ?_ ?_
              rotate_left
              ·intro w'
               go_simp
               with_reducible rfl
              rotate_left
              ·simp only [Act.put,List.setIfInBounds_toArray,List.set_cons_zero,List.set_cons_succ,i64_w,i32_w]
               rfl
              refine pure_ (i := 11) (N := some 128) (v := undef) (a' := ?_) #[true,true,true,true,true,true,true,true,true,true,true,true,false,false,false,false,false,false,false,false,false,false,false,false,false,false,false] rfl rfl (any_of HT_.out (by kernel_rfl)) (fun _ _ _ h => h) (Or.inr ⟨by rfl,rfl⟩) ?_ ?_
              rotate_left
              ·simp only [Act.put,List.setIfInBounds_toArray,List.set_cons_zero,List.set_cons_succ,i64_w,i32_w]
               rfl
              refine pure_ (i := 12) (N := some 129) (v := undef) (a' := ?_) #[true,true,true,true,true,true,true,true,true,true,true,true,true,false,false,false,false,false,false,false,false,false,false,false,false,false,false] rfl rfl (any_of HT_.out (by kernel_rfl)) (fun _ _ _ h => h) (Or.inr ⟨by rfl,rfl⟩) ?_ ?_
              rotate_left
              ·simp only [Act.put,List.setIfInBounds_toArray,List.set_cons_zero,List.set_cons_succ,i64_w,i32_w]
               rfl
              refine pure_ (i := 13) (N := some 130) (v := undef) (a' := ?_) #[true,true,true,true,true,true,true,true,true,true,true,true,true,true,false,false,false,false,false,false,false,false,false,false,false,false,false] rfl rfl (any_of HT_.out (by kernel_rfl)) (fun _ _ _ h => h) (Or.inr ⟨by rfl,rfl⟩) ?_ ?_
              rotate_left
              ·simp only [Act.put,List.setIfInBounds_toArray,List.set_cons_zero,List.set_cons_succ,i64_w,i32_w]
               rfl
              refine pure_ (i := 14) (N := some 131) (v := undef) (a' := ?_) #[true,true,true,true,true,true,true,true,true,true,true,true,true,true,true,false,false,false,false,false,false,false,false,false,false,false,false] rfl rfl (any_of HT_.out (by kernel_rfl)) (fun _ _ _ h => h) (Or.inr ⟨by rfl,rfl⟩) ?_ ?_
              rotate_left
              ·simp only [Act.put,List.setIfInBounds_toArray,List.set_cons_zero,List.set_cons_succ,i64_w,i32_w]
               rfl
              refine pure_ (i := 15) (N := some 132) (v := undef) (a' := ?_) #[true,true,true,true,true,true,true,true,true,true,true,true,true,true,true,true,false,false,false,false,false,false,false,false,false,false,false] rfl rfl (any_of HT_.out (by kernel_rfl)) (fun _ _ _ h => h) (Or.inr ⟨by rfl,rfl⟩) ?_ ?_
              rotate_left
              ·simp only [Act.put,List.setIfInBounds_toArray,List.set_cons_zero,List.set_cons_succ,i64_w,i32_w]
               rfl
              refine pure_ (i := 16) (N := some 133) (v := undef) (a' := ?_) #[true,true,true,true,true,true,true,true,true,true,true,true,true,true,true,true,true,false,false,false,false,false,false,false,false,false,false] rfl rfl (any_of HT_.out (by kernel_rfl)) (fun _ _ _ h => h) (Or.inr ⟨by rfl,rfl⟩) ?_ ?_
              rotate_left
              ·simp only [Act.put,List.setIfInBounds_toArray,List.set_cons_zero,List.set_cons_succ,i64_w,i32_w]
               rfl
              refine pure_ (i := 17) (N := some 134) (v := undef) (a' := ?_) #[true,true,true,true,true,true,true,true,true,true,true,true,true,true,true,true,true,true,false,false,false,false,false,false,false,false,false] rfl rfl (any_of HT_.out (by kernel_rfl)) (fun _ _ _ h => h) (Or.inr ⟨by rfl,rfl⟩) ?_ ?_
              rotate_left
              ·simp only [Act.put,List.setIfInBounds_toArray,List.set_cons_zero,List.set_cons_succ,i64_w,i32_w]
               rfl
              refine pure_ (i := 18) (N := some 135) (v := undef) (a' := ?_) #[true,true,true,true,true,true,true,true,true,true,true,true,true,true,true,true,true,true,true,false,false,false,false,false,false,false,false] rfl rfl (any_of HT_.out (by kernel_rfl)) (fun _ _ _ h => h) (Or.inr ⟨by rfl,rfl⟩) ?_ ?_
              rotate_left
              ·simp only [Act.put,List.setIfInBounds_toArray,List.set_cons_zero,List.set_cons_succ,i64_w,i32_w]
               rfl
              refine pure_ (i := 19) (N := some 136) (v := undef) (a' := ?_) #[true,true,true,true,true,true,true,true,true,true,true,true,true,true,true,true,true,true,true,true,false,false,false,false,false,false,false] rfl rfl (any_of HT_.out (by kernel_rfl)) (fun _ _ _ h => h) (Or.inr ⟨by rfl,rfl⟩) ?_ ?_
              rotate_left
              ·simp only [Act.put,List.setIfInBounds_toArray,List.set_cons_zero,List.set_cons_succ,i64_w,i32_w]
               rfl
              refine pure_ (i := 20) (N := some 137) (v := undef) (a' := ?_) #[true,true,true,true,true,true,true,true,true,true,true,true,true,true,true,true,true,true,true,true,true,false,false,false,false,false,false] rfl rfl (any_of HT_.out (by kernel_rfl)) (fun _ _ _ h => h) (Or.inr ⟨by rfl,rfl⟩) ?_ ?_
              rotate_left
              ·simp only [Act.put,List.setIfInBounds_toArray,List.set_cons_zero,List.set_cons_succ,i64_w,i32_w]
               rfl
              refine pure_ (i := 21) (N := some 138) (v := undef) (a' := ?_) #[true,true,true,true,true,true,true,true,true,true,true,true,true,true,true,true,true,true,true,true,true,true,false,false,false,false,false] rfl rfl (any_of HT_.out (by kernel_rfl)) (fun _ _ _ h => h) (Or.inr ⟨by rfl,rfl⟩) ?_ ?_
              rotate_left
              ·simp only [Act.put,List.setIfInBounds_toArray,List.set_cons_zero,List.set_cons_succ,i64_w,i32_w]
               rfl
              refine pure_ (i := 22) (N := some 139) (v := undef) (a' := ?_) #[true,true,true,true,true,true,true,true,true,true,true,true,true,true,true,true,true,true,true,true,true,true,true,false,false,false,false] rfl rfl (any_of HT_.out (by kernel_rfl)) (fun _ _ _ h => h) (Or.inr ⟨by rfl,rfl⟩) ?_ ?_
              rotate_left
              ·simp only [Act.put,List.setIfInBounds_toArray,List.set_cons_zero,List.set_cons_succ,i64_w,i32_w]
               rfl
              refine pure_ (i := 23) (N := some 140) (v := undef) (a' := ?_) #[true,true,true,true,true,true,true,true,true,true,true,true,true,true,true,true,true,true,true,true,true,true,true,true,false,false,false] rfl rfl (any_of HT_.out (by kernel_rfl)) (fun _ _ _ h => h) (Or.inr ⟨by rfl,rfl⟩) ?_ ?_
              rotate_left
              ·simp only [Act.put,List.setIfInBounds_toArray,List.set_cons_zero,List.set_cons_succ,i64_w,i32_w]
               rfl
              refine pure_ (i := 24) (N := some 141) (v := undef) (a' := ?_) #[true,true,true,true,true,true,true,true,true,true,true,true,true,true,true,true,true,true,true,true,true,true,true,true,true,false,false] rfl rfl (any_of HT_.out (by kernel_rfl)) (fun _ _ _ h => h) (Or.inr ⟨by rfl,rfl⟩) ?_ ?_
              rotate_left
              ·simp only [Act.put,List.setIfInBounds_toArray,List.set_cons_zero,List.set_cons_succ,i64_w,i32_w]
               rfl
              refine pure_ (i := 25) (N := some 142) (v := ?_) (a' := ?_) #[true,true,true,true,true,true,true,true,true,true,true,true,true,true,true,true,true,true,true,true,true,true,true,true,true,true,false] rfl rfl (any_of HT_.out (by kernel_rfl)) (fun _ _ _ h => h) (Or.inl ⟨by rfl,?_⟩) ?_ ?_
              rotate_left
              ·intro w'
               go_simp
               with_reducible rfl
              rotate_left
              ·simp only [Act.put,List.setIfInBounds_toArray,List.set_cons_zero,List.set_cons_succ,i64_w,i32_w]
               rfl
              refine pure_ (i := 26) (N := some 143) (v := ?_) (a' := ?_) #[true,true,true,true,true,true,true,true,true,true,true,true,true,true,true,true,true,true,true,true,true,true,true,true,true,true,true] rfl rfl (any_of HT_.out (by kernel_rfl)) (fun _ _ _ h => h) (Or.inl ⟨by rfl,?_⟩) ?_ ?_
              rotate_left
              ·intro w'
               go_simp
               with_reducible rfl
              rotate_left
              ·simp only [Act.put,List.setIfInBounds_toArray,List.set_cons_zero,List.set_cons_succ,i64_w,i32_w]
               rfl
              refine done_ (done_of HT_.out (by kernel_rfl)) ?_
              try go_wp2
              go_roundg k3
              case measure => have := HJ6.out;have := HJ39.out;have := HK3.out;omega
              case rel => exact ⟨(wrap64 (x7_3 + 1)),au3,H',⟨by have := HJ6.out;have := HJ39.out;have := HK3.out;omega⟩,⟨by (with_reducible repeat (first | apply Kd.R_alloc | apply Kd.R_drewN | apply Kd.R_drew));exact HO_6.out⟩,⟨by repeat (first | (with_reducible first | exact HB.out | apply below_alloc | apply pw_below_drewN | apply below_drew1 | refine below_set ?_ GE567.out | refine below_set ?_ GE571.out | refine below_set ?_ GE575.out) | exact HB.out)⟩⟩
          ·rw [if_neg c66] at H
           have c66b0 : decide (x7_3 ≤ (a0.size : Int)) = false := decide_eq_false c66
           clear c66
           have H' := Aside0.mk H
           clear H
           go_wp2
           go_loopg [14] k3 (fun kq v14 w' => ∃ (x14_4 : Int),v14 = .int .i64 x14_4 ∧ Aside0 (bodkinlaw05_WordCased.l1 kq t540 t541 t542 t549 x14_4 = some r) ∧ Aside0 (kq ≤ k3) ∧ Aside0 (Kd.R k32 32 w' w.heap.size (fun _ => True) v550 t549) ∧ Aside0 (Below w.heap.size w w'))
           case atStart => exact ⟨(0),au3,H',⟨Nat.le_refl _⟩,⟨by (with_reducible repeat (first | apply Kd.R_alloc | apply Kd.R_drewN | apply Kd.R_drew));exact HO_6.out⟩,⟨au0⟩⟩
           case round =>
            clear H'
            try clear c1
            try clear p2
            try clear c3
            try clear c6
            try clear p6
            try clear c10
            try clear c14
            try clear c15
            try clear c17
            try clear c36
            try clear p64
            try clear c66
            try clear c66b0
            try clear c100
            try clear c102
            try clear c102b0
            try clear c102b1
            try clear c140
            try clear c144
            try clear c145
            try clear c154
            try clear c158
            try clear c159
            try clear hcz137_0
            try clear hcz137_1
            try clear hcz141_0
            try clear hcz141_1
            try clear hcz146_0
            try clear hcz146_1
            try clear hcz151_0
            try clear hcz151_1
            try clear hcz155_0
            try clear hcz155_1
            try clear hcz160_0
            try clear hcz160_1
            try clear hfz137_0
            try clear hfz137_1
            try clear hfz141_0
            try clear hfz141_1
            try clear hfz146_0
            try clear hfz146_1
            try clear hfz151_0
            try clear hfz151_1
            try clear hfz155_0
            try clear hfz155_1
            try clear hfz160_0
            try clear hfz160_1
            obtain ⟨x14_4,rfl,HA,HK4,HO_6,HB⟩ := hrel
            cases gk with
            | zero => exact absurd HA.out (by simp [bodkinlaw05_WordCased.l1])
            | succ k4 =>
             have H := HA.out
             clear HA
             simp only [bodkinlaw05_WordCased.l1] at H
             by_cases c163 : x14_4 < (t549.length : Int)
             ·rw [if_pos c163] at H
              have c163b0 : decide (x14_4 < (t549.length : Int)) = true := decide_eq_true c163
              clear c163
              by_cases c164 : 0 ≤ x14_4
              ·rw [if_pos c164] at H
               have c164b0 : decide (0 ≤ x14_4) = true := decide_eq_true c164
               clear c164
               replace H := Option.bind_eq_some_iff.mp H
               obtain ⟨⟨t579,t580,t581⟩,A1650,H⟩ := H
               replace H : ((unit_At.f k4 t540 ((rd_T32 t549 x14_4).f0)).bind fun bt584 => (if t581 = true then (if bt584.2.2 = true then (bodkinlaw05_WordCased.j4 k4 t540 t541 t542 t549 x14_4 (!(t579 == bt584.1) || (!(t580 == bt584.2.1))) t579 t580) else (bodkinlaw05_WordCased.j4 k4 t540 t541 t542 t549 x14_4 true t579 t580)) else (bodkinlaw05_WordCased.j4 k4 t540 t541 t542 t549 x14_4 true t579 t580))) = some r := H
               have A165 := Aside0.mk A1650
               clear A1650
               replace H := Option.bind_eq_some_iff.mp H
               obtain ⟨⟨t584,t585,t586⟩,A1660,H⟩ := H
               replace H : (if t581 = true then (if t586 = true then (bodkinlaw05_WordCased.j4 k4 t540 t541 t542 t549 x14_4 (!(t579 == t584) || (!(t580 == t585))) t579 t580) else (bodkinlaw05_WordCased.j4 k4 t540 t541 t542 t549 x14_4 true t579 t580)) else (bodkinlaw05_WordCased.j4 k4 t540 t541 t542 t549 x14_4 true t579 t580)) = some r := H
               have A166 := Aside0.mk A1660
               clear A1660
               have HC167 := Aside0.mk H
               clear H
               obtain ⟨Ao168,co168,eo168⟩ := Kd.R_slice HO_6.out
               subst eo168
               have p578 : 0 ≤ (x14_4 : Int) := of_decide_eq_true au9
               have q578 : x14_4 < (t549.length : Int) := of_decide_eq_true au9
               obtain ⟨ad578,e578,hx578_0,hx578_1⟩ := at_T32 (Kd.R_reads' HO_6.out).2.2 x14_4 p578 q578
               cases e578
               replace p578 := eq_true p578
               replace q578 := eq_true q578
               go_upto_region 24 with (first | ((with_reducible refine gate_callee (f := 36) rfl ?_);refine goesL_ (some 157) rfl rfl Tryd.func36 (by kernel_rfl) rfl #[.string t542,.int .i64 ((rd_T32 t549 x14_4).f0)] rfl au1 ?_;(with_reducible refine (unit_At.calls k4 t542 ((rd_T32 t549 x14_4).f0) t579 t580 t581 _ ?side1 A165.out).mono ?_);(case side1 => exact tabs_below HT.out au0);rintro e w169 ⟨rfl,hb⟩;refine ⟨_,rfl,?_⟩;have n0_ := Aside0.mk (Kd.R_below au15 hb);have n1_ := Aside0.mk (below_step au0 hb);clear HO_6;clear HB;have HO_6 := n0_;have HB := n1_;clear n0_ n1_;(try clear hb);(try clear hb2);(try clear hk);(try clear hi)) | ((with_reducible refine gate_dst (N := 15) rfl ?_);(try (refine gate_guard (by rfl) ?_;dsimp only));refine box_event ?hg (N := 15) ?hd (cs := #[.int .i32 0,.int .i64 0]) (t := 42) ?hr ?_;(case hd => rfl);(case hg => rfl);(case hr => first | (go_simp;done) | (go_simp;rfl));intro gb582 hg w170 hbox hb;have n0_ := Aside0.mk (Kd.R_below au15 hb);have n1_ := Aside0.mk (below_step au0 hb);have n2_ := Aside0.mk (hbox);have n3_ := Aside0.mk ((by rw [hg];exact (below_size au0) : w.heap.size ≤ gb582));have n4_ := Aside0.mk ((by rw [hg];exact (below_size au0) : w.heap.size ≤ gb582));clear HO_6;clear HB;have HO_6 := n0_;have HB := n1_;have BK582 := n2_;have GW582 := n3_;have GE582 := n4_;clear n0_ n1_ n2_ n3_ n4_;clear hb hbox hg;have hcz171_0 : w170.cell? ⟨gb582,0,none⟩ = some (.int .i32 0) := (blk_cell BK582.out 0).trans rfl;have hcz171_1 : w170.cell? ⟨gb582,1,none⟩ = some (.int .i64 0) := (blk_cell BK582.out 1).trans rfl;have hfz171_0 := blk_frozen BK582.out 0;have hfz171_1 := blk_frozen BK582.out 1;have p583 : 0 ≤ (x14_4 : Int) := of_decide_eq_true au9;have q583 : x14_4 < (t549.length : Int) := of_decide_eq_true au9;obtain ⟨ad583,e583,hx583_0,hx583_1⟩ := at_T32 (Kd.R_reads' HO_6.out).2.2 x14_4 p583 q583;obtain rfl : ad578 = ad583 := (by injection e583);have hn583_0 : ad578.block ≠ gb582 := Kd.own_blk (Kd.R_ne HO_6.out BK582.out (by decide));have hn583_1 : ad578.block ≠ gb582 := Kd.own_blk (Kd.R_ne HO_6.out BK582.out (by decide));replace hx583_0 := (cell_far (p := ⟨gb582,0,none⟩) (by first | (rw [add_block];exact hn583_0) | (show (Addr.add _ _).block ≠ _;rw [add_block];exact hn583_0) | exact hn583_0) (.int .i32 t579)).trans hx583_0;replace hx583_1 := (cell_far (p := ⟨gb582,0,none⟩) (by first | (rw [add_block];exact hn583_0) | (show (Addr.add _ _).block ≠ _;rw [add_block];exact hn583_0) | exact hn583_0) (.int .i32 t579)).trans hx583_1;replace hx583_0 := (cell_far (p := ⟨gb582,1,none⟩) (by first | (rw [add_block];exact hn583_1) | (show (Addr.add _ _).block ≠ _;rw [add_block];exact hn583_1) | exact hn583_1) (.int .i64 t580)).trans hx583_0;replace hx583_1 := (cell_far (p := ⟨gb582,1,none⟩) (by first | (rw [add_block];exact hn583_1) | (show (Addr.add _ _).block ≠ _;rw [add_block];exact hn583_1) | exact hn583_1) (.int .i64 t580)).trans hx583_1;clear hn583_0;clear hn583_1;replace p583 := eq_true p583;replace q583 := eq_true q583) | ((with_reducible refine gate_callee (f := 36) rfl ?_);refine goesL_ (some 167) rfl rfl Tryd.func36 (by kernel_rfl) rfl #[.string t540,.int .i64 ((rd_T32 t549 x14_4).f0)] rfl au1 ?_;(with_reducible refine (unit_At.calls k4 t540 ((rd_T32 t549 x14_4).f0) t584 t585 t586 _ ?side1 A166.out).mono ?_);(case side1 => exact tabs_below HT.out au23);rintro e w172 ⟨rfl,hb⟩;refine ⟨_,rfl,?_⟩;have n0_ := Aside0.mk (Kd.R_below (by (with_reducible repeat (first | apply Kd.R_alloc | apply Kd.R_drewN | apply Kd.R_drew));exact (Kd.R_mono (Kd.R_far (p := ⟨gb582,1,none⟩) (Kd.R_far (p := ⟨gb582,0,none⟩) (Kd.R_types HO_6.out BK582.out (by decide)) (fun _ hk => hk.2) (.int .i32 t579)) (fun _ hk => hk.2) (.int .i64 t580)) (fun _ h_ => h_.1))) hb);have n1_ := Aside0.mk (blk_below (g := gb582) (o := .cells #[.int .i32 t579,.int .i64 t580] 42 (0,0)) (by (with_reducible repeat (first | refine blk_drewN ?_ _ | refine blk_drew ?_ | refine blk_alloc ?_ _));refine blk_put (cs := #[.int .i32 t579,.int .i64 0]) ?_ 1 _ rfl;(with_reducible repeat (first | refine blk_drewN ?_ _ | refine blk_drew ?_ | refine blk_alloc ?_ _));refine blk_put (cs := #[.int .i32 0,.int .i64 0]) ?_ 0 _ rfl;(with_reducible repeat (first | refine blk_drewN ?_ _ | refine blk_drew ?_ | refine blk_alloc ?_ _));exact BK582.out) hb);have n2_ := Aside0.mk (below_step au23 hb);clear HO_6;clear BK582;clear HB;have HO_6 := n0_;have BK582 := n1_;have HB := n2_;clear n0_ n1_ n2_;(try clear hb);(try clear hb2);(try clear hk);(try clear hi)) | ((with_reducible refine gate_dst (N := 17) rfl ?_);(try (refine gate_guard (by rfl) ?_;dsimp only));refine box_event ?hg (N := 17) ?hd (cs := #[.int .i32 0,.int .i64 0]) (t := 42) ?hr ?_;(case hd => rfl);(case hg => rfl);(case hr => first | (go_simp;done) | (go_simp;rfl));intro gb587 hg w173 hbox hb;have n0_ := Aside0.mk (Kd.R_below au15 hb);have n1_ := Aside0.mk (blk_below (g := gb582) (o := .cells #[.int .i32 t579,.int .i64 t580] 42 (0,0)) (by (with_reducible repeat (first | refine blk_drewN ?_ _ | refine blk_drew ?_ | refine blk_alloc ?_ _));exact BK582.out) hb);have n2_ := Aside0.mk (below_step au23 hb);have n3_ := Aside0.mk (hbox);have n4_ := Aside0.mk ((by rw [hg];exact (below_size au23) : w.heap.size ≤ gb587));have n5_ := Aside0.mk ((by rw [hg];exact (below_size au23) : w.heap.size ≤ gb587));have n6_ := Aside0.mk ((by rw [hg];exact Nat.ne_of_lt (blk_lt (g := gb582) (o := .cells #[.int .i32 t579,.int .i64 t580] 42 (0,0)) (by (with_reducible repeat (first | refine blk_drewN ?_ _ | refine blk_drew ?_ | refine blk_alloc ?_ _));exact BK582.out)) : gb582 ≠ gb587));have n7_ := Aside0.mk ((by rw [hg];exact Nat.ne_of_gt (blk_lt (g := gb582) (o := .cells #[.int .i32 t579,.int .i64 t580] 42 (0,0)) (by (with_reducible repeat (first | refine blk_drewN ?_ _ | refine blk_drew ?_ | refine blk_alloc ?_ _));exact BK582.out)) : gb587 ≠ gb582));clear HO_6;clear BK582;clear HB;have HO_6 := n0_;have BK582 := n1_;have HB := n2_;have BK587 := n3_;have GW587 := n4_;have GE587 := n5_;have NB582_587 := n6_;have NB587_582 := n7_;clear n0_ n1_ n2_ n3_ n4_ n5_ n6_ n7_;clear hb hbox hg;have hnb174 := NB587_582.out;have hnc174 := NB582_587.out;have hcz175_0 : w173.cell? ⟨gb587,0,none⟩ = some (.int .i32 0) := (blk_cell BK587.out 0).trans rfl;have hcz175_1 : w173.cell? ⟨gb587,1,none⟩ = some (.int .i64 0) := (blk_cell BK587.out 1).trans rfl;have hfz175_0 := blk_frozen BK587.out 0;have hfz175_1 := blk_frozen BK587.out 1))
               (try simp only [Act.put,List.setIfInBounds_toArray,List.set_cons_zero,List.set_cons_succ])
               go_cut [180] (fun v180 wc => ∃ (kq : Nat) (x180_166 : Bool),v180 = .bool x180_166 ∧ Aside0 (bodkinlaw05_WordCased.j4 kq t540 t541 t542 t549 x14_4 x180_166 t579 t580 = some r) ∧ Aside0 (kq ≤ k4) ∧ Aside0 (Kd.R k32 32 wc w.heap.size (fun _ => True) (.slice (some ad578) t549.length co168) t549) ∧ Aside0 (wc.heap[gb582]? = some (.cells #[.int .i32 t579,.int .i64 t580] 42 (0,0))) ∧ Aside0 (wc.heap[gb587]? = some (.cells #[.int .i32 t584,.int .i64 t585] 42 (0,0))) ∧ Aside0 (Below w.heap.size w wc))
               case first =>
                have H := HC167.out
                clear HC167
                by_cases c176 : t581 = true
                ·subst c176
                 have H1 : (if t586 = true then (bodkinlaw05_WordCased.j4 k4 t540 t541 t542 t549 x14_4 (!(t579 == t584) || (!(t580 == t585))) t579 t580) else (bodkinlaw05_WordCased.j4 k4 t540 t541 t542 t549 x14_4 true t579 t580)) = some r := by rw [if_pos rfl] at H;exact H
                 clear H
                 have H := H1
                 clear H1
                 by_cases c177 : t586 = true
                 ·subst c177
                  have H1 : (bodkinlaw05_WordCased.j4 k4 t540 t541 t542 t549 x14_4 (!(t579 == t584) || (!(t580 == t585))) t579 t580) = some r := by rw [if_pos rfl] at H;exact H
                  clear H
                  have H := H1
                  clear H1
                  have H' := Aside0.mk H
                  clear H
                  have hnb178 := NB582_587.out
                  have hnc178 := NB587_582.out
                  have hcz179_0 : w173.cell? ⟨gb582,0,none⟩ = some (.int .i32 t579) := (blk_cell BK582.out 0).trans rfl
                  have hcz179_1 : w173.cell? ⟨gb582,1,none⟩ = some (.int .i64 t580) := (blk_cell BK582.out 1).trans rfl
                  have hfz179_0 := blk_frozen BK582.out 0
                  have hfz179_1 := blk_frozen BK582.out 1
                  have hcz180_0 : w173.cell? ⟨gb587,0,none⟩ = some (.int .i32 0) := (blk_cell BK587.out 0).trans rfl
                  have hcz180_1 : w173.cell? ⟨gb587,1,none⟩ = some (.int .i64 0) := (blk_cell BK587.out 1).trans rfl
                  have hfz180_0 := blk_frozen BK587.out 0
                  have hfz180_1 := blk_frozen BK587.out 1
                  go_wp2
                  go_meet
                  case rel => exact ⟨_,((!(t579 == t584) || (!(t580 == t585)))),au3,H',⟨by have := HJ6.out;have := HJ39.out;have := HK3.out;have := HK4.out;first | omega | exact Nat.le_refl _⟩,⟨by (with_reducible repeat (first | apply Kd.R_alloc | apply Kd.R_drewN | apply Kd.R_drew));exact Kd.R_mono (Kd.R_far (p := ⟨gb587,1,none⟩) (Kd.R_far (p := ⟨gb587,0,none⟩) (Kd.R_types HO_6.out BK587.out (by decide)) (fun _ hk => hk.2) (.int .i32 t584)) (fun _ hk => hk.2) (.int .i64 t585)) (fun _ hk => trivial)⟩,⟨by (with_reducible repeat (first | refine blk_drewN ?_ _ | refine blk_drew ?_ | refine blk_alloc ?_ _));refine blk_far ?_ NB582_587.out _;(with_reducible repeat (first | refine blk_drewN ?_ _ | refine blk_drew ?_ | refine blk_alloc ?_ _));refine blk_far ?_ NB582_587.out _;(with_reducible repeat (first | refine blk_drewN ?_ _ | refine blk_drew ?_ | refine blk_alloc ?_ _));exact BK582.out⟩,⟨by (with_reducible repeat (first | refine blk_drewN ?_ _ | refine blk_drew ?_ | refine blk_alloc ?_ _));refine blk_put (cs := #[.int .i32 t584,.int .i64 0]) ?_ 1 _ rfl;(with_reducible repeat (first | refine blk_drewN ?_ _ | refine blk_drew ?_ | refine blk_alloc ?_ _));refine blk_put (cs := #[.int .i32 0,.int .i64 0]) ?_ 0 _ rfl;(with_reducible repeat (first | refine blk_drewN ?_ _ | refine blk_drew ?_ | refine blk_alloc ?_ _));exact BK587.out⟩,⟨by repeat (first | (with_reducible first | exact HB.out | apply below_alloc | apply pw_below_drewN | apply below_drew1 | refine below_set ?_ GE582.out | refine below_set ?_ GE587.out) | exact HB.out)⟩⟩
                 ·replace c177 := Bool.eq_false_iff.mpr c177
                  subst c177
                  have H1 : (bodkinlaw05_WordCased.j4 k4 t540 t541 t542 t549 x14_4 true t579 t580) = some r := by rw [if_neg (show ¬ (false = true) by decide)] at H;exact H
                  clear H
                  have H := H1
                  clear H1
                  exfalso
                  subst hr_
                  cases k4 <;> simp [bodkinlaw05_WordCased.j4] at H
                ·replace c176 := Bool.eq_false_iff.mpr c176
                 subst c176
                 have H1 : (bodkinlaw05_WordCased.j4 k4 t540 t541 t542 t549 x14_4 true t579 t580) = some r := by rw [if_neg (show ¬ (false = true) by decide)] at H;exact H
                 clear H
                 have H := H1
                 clear H1
                 exfalso
                 subst hr_
                 cases k4 <;> simp [bodkinlaw05_WordCased.j4] at H
               case rest =>
                clear HC167
                try clear c1
                try clear p2
                try clear c3
                try clear p5
                try clear q5
                try clear hx5
                try clear c6
                try clear p6
                try clear c10
                try clear c14
                try clear c15
                try clear c16
                try clear c17
                try clear c36
                try clear p57
                try clear q57
                try clear hx57
                try clear p58
                try clear q58
                try clear hx58
                try clear p64
                try clear c66
                try clear c66b0
                try clear c100
                try clear c102
                try clear c102b0
                try clear c102b1
                try clear c140
                try clear c144
                try clear c145
                try clear c154
                try clear c158
                try clear c159
                try clear c163
                try clear c163b0
                try clear c164
                try clear c164b0
                try clear c174
                try clear c176
                try clear c177
                try clear c178
                try clear hcz137_0
                try clear hcz137_1
                try clear hcz141_0
                try clear hcz141_1
                try clear hcz146_0
                try clear hcz146_1
                try clear hcz151_0
                try clear hcz151_1
                try clear hcz155_0
                try clear hcz155_1
                try clear hcz160_0
                try clear hcz160_1
                try clear hcz171_0
                try clear hcz171_1
                try clear hcz175_0
                try clear hcz175_1
                try clear hcz179_0
                try clear hcz179_1
                try clear hcz180_0
                try clear hcz180_1
                try clear hfz137_0
                try clear hfz137_1
                try clear hfz141_0
                try clear hfz141_1
                try clear hfz146_0
                try clear hfz146_1
                try clear hfz151_0
                try clear hfz151_1
                try clear hfz155_0
                try clear hfz155_1
                try clear hfz160_0
                try clear hfz160_1
                try clear hfz171_0
                try clear hfz171_1
                try clear hfz175_0
                try clear hfz175_1
                try clear hfz179_0
                try clear hfz179_1
                try clear hfz180_0
                try clear hfz180_1
                try clear hx578_0
                try clear hx578_1
                try clear hx583_0
                try clear hx583_1
                try clear p2
                try clear p578
                try clear p583
                try clear p6
                try clear p64
                try clear q578
                try clear q583
                obtain ⟨kq,x180_166,rfl,HA,HJ166,HO_6,BK582,BK587,HB⟩ := hcut
                cases kq with
                | zero => exact absurd HA.out (by simp [bodkinlaw05_WordCased.j4])
                | succ kj166 =>
                 have H := HA.out
                 clear HA
                 simp only [bodkinlaw05_WordCased.j4] at H
                 by_cases c181 : x180_166 = true
                 ·subst c181
                  have H1 : (some false) = some r := by rw [if_pos rfl] at H;exact H
                  clear H
                  have H := H1
                  clear H1
                  obtain rfl := Option.some.inj H
                  cases hr_
                 ·replace c181 := Bool.eq_false_iff.mpr c181
                  subst c181
                  have H1 : (if 0 ≤ x14_4 then (if x14_4 < (t549.length : Int) then (if 0 ≤ (wrap64 (((rd_T32 t549 x14_4).f0) + t580)) then (if (wrap64 (((rd_T32 t549 x14_4).f0) + t580)) ≤ ((rd_T32 t549 x14_4).f1) then (if ((rd_T32 t549 x14_4).f1) ≤ (t542.size : Int) then (if ((rd_T32 t549 x14_4).f1) ≤ (t541.size : Int) then (if (t542.extract ((wrap64 (((rd_T32 t549 x14_4).f0) + t580)) : Int).toNat (((rd_T32 t549 x14_4).f1) : Int).toNat).toList = (t541.extract ((wrap64 (((rd_T32 t549 x14_4).f0) + t580)) : Int).toNat (((rd_T32 t549 x14_4).f1) : Int).toNat).toList then (bodkinlaw05_WordCased.l1 kj166 t540 t541 t542 t549 (wrap64 (x14_4 + 1))) else (some false)) else (none)) else (none)) else (none)) else (none)) else (none)) else (none)) = some r := by rw [if_neg (show ¬ (false = true) by decide)] at H;exact H
                  clear H
                  have H := H1
                  clear H1
                  by_cases c182 : 0 ≤ x14_4
                  ·rw [if_pos c182] at H
                   have c182b0 : decide (0 ≤ x14_4) = true := decide_eq_true c182
                   clear c182
                   by_cases c183 : x14_4 < (t549.length : Int)
                   ·rw [if_pos c183] at H
                    have c183b0 : decide (x14_4 < (t549.length : Int)) = true := decide_eq_true c183
                    clear c183
                    obtain ⟨ji184,hji184⟩ : ∃ j_ : Int,(wrap64 (((rd_T32 t549 x14_4).f0) + t580)) = j_ := ⟨_,rfl⟩
                    replace H : (if 0 ≤ (ji184) then (if (ji184) ≤ ((rd_T32 t549 x14_4).f1) then (if ((rd_T32 t549 x14_4).f1) ≤ (t542.size : Int) then (if ((rd_T32 t549 x14_4).f1) ≤ (t541.size : Int) then (if (t542.extract ((ji184) : Int).toNat (((rd_T32 t549 x14_4).f1) : Int).toNat).toList = (t541.extract ((ji184) : Int).toNat (((rd_T32 t549 x14_4).f1) : Int).toNat).toList then (bodkinlaw05_WordCased.l1 kj166 t540 t541 t542 t549 (wrap64 (x14_4 + 1))) else (some false)) else (none)) else (none)) else (none)) else (none)) = some r := by first | (rw [hji184] at H;exact H) | (simp only [hji184] at H ⊢;exact H)
                    have hji184w : (IntKind.i64.wrap (((rd_T32 t549 x14_4).f0) + t580)) = ji184 := (i64_w _).trans hji184
                    by_cases c185 : 0 ≤ (ji184)
                    ·rw [if_pos c185] at H
                     have c185b0 := eq_true c185
                     have c185b1 : decide (0 ≤ (ji184)) = true := decide_eq_true c185
                     clear c185
                     by_cases c186 : (ji184) ≤ ((rd_T32 t549 x14_4).f1)
                     ·rw [if_pos c186] at H
                      have c186b0 := eq_true c186
                      have c186b1 : decide ((ji184) ≤ ((rd_T32 t549 x14_4).f1)) = true := decide_eq_true c186
                      clear c186
                      by_cases c187 : ((rd_T32 t549 x14_4).f1) ≤ (t542.size : Int)
                      ·rw [if_pos c187] at H
                       have c187b0 := eq_true c187
                       have c187b1 : decide (((rd_T32 t549 x14_4).f1) ≤ (t542.size : Int)) = true := decide_eq_true c187
                       clear c187
                       have c188b0 := eq_true (of_decide_eq_true au9 : 0 ≤ (ji184))
                       have c189b0 := eq_true (of_decide_eq_true au9 : (ji184) ≤ ((rd_T32 t549 x14_4).f1))
                       by_cases c190 : ((rd_T32 t549 x14_4).f1) ≤ (t541.size : Int)
                       ·rw [if_pos c190] at H
                        have c190b0 := eq_true c190
                        have c190b1 : decide (((rd_T32 t549 x14_4).f1) ≤ (t541.size : Int)) = true := decide_eq_true c190
                        clear c190
                        by_cases c191 : (t542.extract ((ji184) : Int).toNat (((rd_T32 t549 x14_4).f1) : Int).toNat).toList = (t541.extract ((ji184) : Int).toNat (((rd_T32 t549 x14_4).f1) : Int).toNat).toList
                        ·rw [if_pos c191] at H
                         have c191b0 : ((t542.extract ((ji184) : Int).toNat (((rd_T32 t549 x14_4).f1) : Int).toNat).toList == (t541.extract ((ji184) : Int).toNat (((rd_T32 t549 x14_4).f1) : Int).toNat).toList) = true := beq_iff_eq.mpr c191
                         have c191b1 : ((t542.extract ((ji184) : Int).toNat (((rd_T32 t549 x14_4).f1) : Int).toNat).toList != (t541.extract ((ji184) : Int).toNat (((rd_T32 t549 x14_4).f1) : Int).toNat).toList) = false := bne_eq_false_iff_eq.mpr c191
                         clear c191
                         have H' := Aside0.mk H
                         clear H
                         try go_wp2
                         have n0_ := Aside0.mk (Kd.R_drew HO_6.out)
                         have n1_ := Aside0.mk (blk_drew BK582.out)
                         have n2_ := Aside0.mk (blk_drew BK587.out)
                         have n3_ := Aside0.mk (below_drew1 HB.out)
                         clear HO_6
                         clear BK582
                         clear BK587
                         clear HB
                         have HO_6 := n0_
                         have BK582 := n1_
                         have BK587 := n2_
                         have HB := n3_
                         clear n0_ n1_ n2_ n3_
                         have p588 : 0 ≤ (x14_4 : Int) := of_decide_eq_true au9
                         have q588 : x14_4 < (t549.length : Int) := of_decide_eq_true au9
                         obtain ⟨ad588,e588,hx588_0,hx588_1⟩ := at_T32 (Kd.R_reads' HO_6.out).2.2 x14_4 p588 q588
                         obtain rfl : ad578 = ad588 := (by injection e588)
                         replace p588 := eq_true p588
                         replace q588 := eq_true q588
                         have p589 : 0 ≤ (x14_4 : Int) := of_decide_eq_true au9
                         have q589 : x14_4 < (t549.length : Int) := of_decide_eq_true au9
                         obtain ⟨ad589,e589,hx589_0,hx589_1⟩ := at_T32 (Kd.R_reads' HO_6.out).2.2 x14_4 p589 q589
                         obtain rfl : ad578 = ad589 := (by injection e589)
                         replace p589 := eq_true p589
                         replace q589 := eq_true q589
                         have p590 : 0 ≤ (x14_4 : Int) := of_decide_eq_true au9
                         have q590 : x14_4 < (t549.length : Int) := of_decide_eq_true au9
                         obtain ⟨ad590,e590,hx590_0,hx590_1⟩ := at_T32 (Kd.R_reads' HO_6.out).2.2 x14_4 p590 q590
                         obtain rfl : ad578 = ad590 := (by injection e590)
                         replace p590 := eq_true p590
                         replace q590 := eq_true q590
                         have p591 : 0 ≤ (x14_4 : Int) := of_decide_eq_true au9
                         have q591 : x14_4 < (t549.length : Int) := of_decide_eq_true au9
                         obtain ⟨ad591,e591,hx591_0,hx591_1⟩ := at_T32 (Kd.R_reads' HO_6.out).2.2 x14_4 p591 q591
                         obtain rfl : ad578 = ad591 := (by injection e591)
                         replace p591 := eq_true p591
                         replace q591 := eq_true q591
                         refine start_ (n := 31) (S := fun w' => w'.cell? ⟨gb582,0,none⟩ = some (.int .i32 t579) ∧ w'.cell? ⟨gb582,1,none⟩ = some (.int .i64 t580) ∧ w'.cell? (ad578.add ((x14_4).toNat * 2)) = some (.int .i64 ((rd_T32 t549 x14_4).f0)) ∧ w'.cell? ⟨(ad578.add ((x14_4).toNat * 2)).block,(ad578.add ((x14_4).toNat * 2)).off + 1,none⟩ = some (.int .i64 ((rd_T32 t549 x14_4).f1)) ∧ w'.cell? (ad578.add ((x14_4).toNat * 2)) = some (.int .i64 ((rd_T32 t549 x14_4).f0)) ∧ w'.cell? ⟨(ad578.add ((x14_4).toNat * 2)).block,(ad578.add ((x14_4).toNat * 2)).off + 1,none⟩ = some (.int .i64 ((rd_T32 t549 x14_4).f1)) ∧ w'.cell? (ad578.add ((x14_4).toNat * 2)) = some (.int .i64 ((rd_T32 t549 x14_4).f0)) ∧ w'.cell? ⟨(ad578.add ((x14_4).toNat * 2)).block,(ad578.add ((x14_4).toNat * 2)).off + 1,none⟩ = some (.int .i64 ((rd_T32 t549 x14_4).f1)) ∧ w'.cell? (ad578.add ((x14_4).toNat * 2)) = some (.int .i64 ((rd_T32 t549 x14_4).f0)) ∧ w'.cell? ⟨(ad578.add ((x14_4).toNat * 2)).block,(ad578.add ((x14_4).toNat * 2)).off + 1,none⟩ = some (.int .i64 ((rd_T32 t549 x14_4).f1))) (ds := []) #[false,false,false,false,false,false,false,false,false,false,false,false,false,false,false,false,false,false,false,false,false,false,false,false,false,false,false,false,false,false,false] (by kernel_rfl) rfl rfl ⟨(blk_cell BK582.out 0).trans rfl,(blk_cell BK582.out 1).trans rfl,hx588_0,hx588_1,hx589_0,hx589_1,hx590_0,hx590_1,hx591_0,hx591_1⟩ (fun hHeld => ?_);refine with_tabW bodkinlaw05_WordCased.tab26 bodkinlaw05_WordCased.bits26 (fun HT_ HW_ => ?_)
                         generalize wc.drew = w192 at HO_6 BK582 BK587 HB hx588_0 hx588_1 hx589_0 hx589_1 hx590_0 hx590_1 hx591_0 hx591_1 hHeld ⊢
                         refine pure_ (i := 0) (N := some 181) (v := ?_) (a' := ?_) #[true,false,false,false,false,false,false,false,false,false,false,false,false,false,false,false,false,false,false,false,false,false,false,false,false,false,false,false,false,false,false] rfl rfl (any_of HT_.out (by kernel_rfl)) (fun _ _ _ h => h) (Or.inl ⟨by rfl,?_⟩) ?_ ?_
                         rotate_left
                         ·intro w'
                          go_simp
                          with_reducible rfl
                         rotate_left
                         ·simp only [Act.put,List.setIfInBounds_toArray,List.set_cons_zero,List.set_cons_succ,i64_w,i32_w]
                          rfl
                         refine pure_ (i := 1) (N := some 182) (v := ?_) (a' := ?_) #[true,true,false,false,false,false,false,false,false,false,false,false,false,false,false,false,false,false,false,false,false,false,false,false,false,false,false,false,false,false,false] rfl rfl (any_of HT_.out (by kernel_rfl)) (fun _ _ _ h => h) (Or.inl ⟨by rfl,?_⟩) ?_ ?_
                         rotate_left
                         ·intro w'
                          go_simp
                          with_reducible rfl
                         rotate_left
                         ·simp only [Act.put,List.setIfInBounds_toArray,List.set_cons_zero,List.set_cons_succ,i64_w,i32_w]
                          rfl
                         refine pure_ (i := 2) (N := some 183) (v := ?_) (a' := ?_) #[true,true,true,false,false,false,false,false,false,false,false,false,false,false,false,false,false,false,false,false,false,false,false,false,false,false,false,false,false,false,false] rfl rfl (any_of HT_.out (by kernel_rfl)) (fun _ _ _ h => h) (Or.inl ⟨by rfl,?_⟩) ?_ ?_
                         rotate_left
                         ·intro w'
                          go_simp
                          with_reducible rfl
                         rotate_left
                         ·simp only [Act.put,List.setIfInBounds_toArray,List.set_cons_zero,List.set_cons_succ,i64_w,i32_w]
                          rfl
                         refine pure_ (i := 3) (N := some 184) (v := ?_) (a' := ?_) #[true,true,true,true,false,false,false,false,false,false,false,false,false,false,false,false,false,false,false,false,false,false,false,false,false,false,false,false,false,false,false] rfl rfl (any_of HT_.out (by kernel_rfl)) (fun _ _ _ h => h) (Or.inl ⟨by rfl,?_⟩) ?_ ?_
                         rotate_left
                         ·intro w'
                          go_simp
                          with_reducible rfl
                         rotate_left
                         ·simp only [Act.put,List.setIfInBounds_toArray,List.set_cons_zero,List.set_cons_succ,i64_w,i32_w]
                          rfl
                         refine pure_ (i := 4) (N := some 185) (v := ?_) (a' := ?_) #[true,true,true,true,true,false,false,false,false,false,false,false,false,false,false,false,false,false,false,false,false,false,false,false,false,false,false,false,false,false,false] rfl rfl (any_of HT_.out (by kernel_rfl)) (fun _ _ _ h => h) (Or.inl ⟨by rfl,?_⟩) ?_ ?_
                         rotate_left
                         ·intro w'
                          go_simp
                          with_reducible rfl
                         rotate_left
                         ·simp only [Act.put,List.setIfInBounds_toArray,List.set_cons_zero,List.set_cons_succ,i64_w,i32_w]
                          rfl
                         refine pure_ (i := 6) (N := some 187) (v := ?_) (a' := ?_) #[true,true,true,true,true,false,true,false,false,false,false,false,false,false,false,false,false,false,false,false,false,false,false,false,false,false,false,false,false,false,false] rfl rfl (any_of HT_.out (by kernel_rfl)) (fun _ _ _ h => h) (Or.inl ⟨by rfl,?_⟩) ?_ ?_
                         rotate_left
                         ·intro w'
                          go_simp
                          with_reducible rfl
                         rotate_left
                         ·simp only [Act.put,List.setIfInBounds_toArray,List.set_cons_zero,List.set_cons_succ,i64_w,i32_w]
                          rfl
                         refine pure_ (i := 9) (N := some 190) (v := ?_) (a' := ?_) #[true,true,true,true,true,false,true,false,false,true,false,false,false,false,false,false,false,false,false,false,false,false,false,false,false,false,false,false,false,false,false] rfl rfl (any_of HT_.out (by kernel_rfl)) (fun _ _ _ h => h) (Or.inl ⟨by rfl,?_⟩) ?_ ?_
                         rotate_left
                         ·intro w'
                          go_simp
                          with_reducible rfl
                         rotate_left
                         ·simp only [Act.put,List.setIfInBounds_toArray,List.set_cons_zero,List.set_cons_succ,i64_w,i32_w]
                          rfl
                         refine pure_ (i := 10) (N := some 191) (v := ?_) (a' := ?_) #[true,true,true,true,true,false,true,false,false,true,true,false,false,false,false,false,false,false,false,false,false,false,false,false,false,false,false,false,false,false,false] rfl rfl (any_of HT_.out (by kernel_rfl)) (fun _ _ _ h => h) (Or.inl ⟨by rfl,?_⟩) ?_ ?_
                         rotate_left
                         ·intro w'
                          go_simp
                          with_reducible rfl
                         rotate_left
                         ·simp only [Act.put,List.setIfInBounds_toArray,List.set_cons_zero,List.set_cons_succ,i64_w,i32_w]
                          rfl
                         refine pure_ (i := 11) (N := some 192) (v := ?_) (a' := ?_) #[true,true,true,true,true,false,true,false,false,true,true,true,false,false,false,false,false,false,false,false,false,false,false,false,false,false,false,false,false,false,false] rfl rfl (any_of HT_.out (by kernel_rfl)) (fun _ _ _ h => h) (Or.inl ⟨by rfl,?_⟩) ?_ ?_
                         rotate_left
                         ·intro w'
                          go_simp
                          with_reducible rfl
                         rotate_left
                         ·simp only [Act.put,List.setIfInBounds_toArray,List.set_cons_zero,List.set_cons_succ,i64_w,i32_w]
                          rfl
                         refine pure_ (i := 12) (N := some 193) (v := ?_) (a' := ?_) #[true,true,true,true,true,false,true,false,false,true,true,true,true,false,false,false,false,false,false,false,false,false,false,false,false,false,false,false,false,false,false] rfl rfl (any_of HT_.out (by kernel_rfl)) (fun _ _ _ h => h) (Or.inl ⟨by rfl,?_⟩) ?_ ?_
                         rotate_left
                         ·intro w'
                          go_simp
                          with_reducible rfl
                         rotate_left
                         ·simp only [Act.put,List.setIfInBounds_toArray,List.set_cons_zero,List.set_cons_succ,i64_w,i32_w]
                          rfl
                         refine pure_ (i := 15) (N := some 196) (v := ?_) (a' := ?_) #[true,true,true,true,true,false,true,false,false,true,true,true,true,false,false,true,false,false,false,false,false,false,false,false,false,false,false,false,false,false,false] rfl rfl (any_of HT_.out (by kernel_rfl)) (fun _ _ _ h => h) (Or.inl ⟨by rfl,?_⟩) ?_ ?_
                         rotate_left
                         ·intro w'
                          go_simp
                          with_reducible rfl
                         rotate_left
                         ·simp only [Act.put,List.setIfInBounds_toArray,List.set_cons_zero,List.set_cons_succ,i64_w,i32_w]
                          rfl
                         refine pure_ (i := 16) (N := some 197) (v := ?_) (a' := ?_) #[true,true,true,true,true,false,true,false,false,true,true,true,true,false,false,true,true,false,false,false,false,false,false,false,false,false,false,false,false,false,false] rfl rfl (any_of HT_.out (by kernel_rfl)) (fun _ _ _ h => h) (Or.inl ⟨by rfl,?_⟩) ?_ ?_
                         rotate_left
                         ·intro w'
                          go_simp
                          with_reducible rfl
                         rotate_left
                         ·simp only [Act.put,List.setIfInBounds_toArray,List.set_cons_zero,List.set_cons_succ,i64_w,i32_w]
                          rfl
                         refine pure_ (i := 17) (N := some 198) (v := ?_) (a' := ?_) #[true,true,true,true,true,false,true,false,false,true,true,true,true,false,false,true,true,true,false,false,false,false,false,false,false,false,false,false,false,false,false] rfl rfl (any_of HT_.out (by kernel_rfl)) (fun _ _ _ h => h) (Or.inl ⟨by rfl,?_⟩) ?_ ?_
                         rotate_left
                         ·intro w'
                          go_simp
                          with_reducible rfl
                         rotate_left
                         ·simp only [Act.put,List.setIfInBounds_toArray,List.set_cons_zero,List.set_cons_succ,i64_w,i32_w]
                          rfl
                         refine pure_ (i := 18) (N := some 199) (v := ?_) (a' := ?_) #[true,true,true,true,true,false,true,false,false,true,true,true,true,false,false,true,true,true,true,false,false,false,false,false,false,false,false,false,false,false,false] rfl rfl (any_of HT_.out (by kernel_rfl)) (fun _ _ _ h => h) (Or.inl ⟨by rfl,?_⟩) ?_ ?_
                         rotate_left
                         ·intro w'
                          go_simp
                          with_reducible rfl
                         rotate_left
                         ·simp only [Act.put,List.setIfInBounds_toArray,List.set_cons_zero,List.set_cons_succ,i64_w,i32_w]
                          rfl
                         refine pure_ (i := 19) (N := some 200) (v := ?_) (a' := ?_) #[true,true,true,true,true,false,true,false,false,true,true,true,true,false,false,true,true,true,true,true,false,false,false,false,false,false,false,false,false,false,false] rfl rfl (any_of HT_.out (by kernel_rfl)) (fun _ _ _ h => h) (Or.inl ⟨by rfl,?_⟩) ?_ ?_
                         rotate_left
                         ·intro w'
                          go_simp
                          with_reducible rfl
                         rotate_left
                         ·simp only [Act.put,List.setIfInBounds_toArray,List.set_cons_zero,List.set_cons_succ,i64_w,i32_w]
                          rfl
                         refine pure_ (i := 21) (N := some 202) (v := ?_) (a' := ?_) #[true,true,true,true,true,false,true,false,false,true,true,true,true,false,false,true,true,true,true,true,false,true,false,false,false,false,false,false,false,false,false] rfl rfl (any_of HT_.out (by kernel_rfl)) (fun _ _ _ h => h) (Or.inl ⟨by rfl,?_⟩) ?_ ?_
                         rotate_left
                         ·intro w'
                          go_simp
                          with_reducible rfl
                         rotate_left
                         ·simp only [Act.put,List.setIfInBounds_toArray,List.set_cons_zero,List.set_cons_succ,i64_w,i32_w]
                          rfl
                         refine pure_ (i := 24) (N := some 205) (v := ?_) (a' := ?_) #[true,true,true,true,true,false,true,false,false,true,true,true,true,false,false,true,true,true,true,true,false,true,false,false,true,false,false,false,false,false,false] rfl rfl (any_of HT_.out (by kernel_rfl)) (fun _ _ _ h => h) (Or.inl ⟨by rfl,?_⟩) ?_ ?_
                         rotate_left
                         ·intro w'
                          go_simp
                          with_reducible rfl
                         rotate_left
                         ·simp only [Act.put,List.setIfInBounds_toArray,List.set_cons_zero,List.set_cons_succ,i64_w,i32_w]
                          rfl
                         refine pure_ (i := 25) (N := some 206) (v := ?_) (a' := ?_) #[true,true,true,true,true,false,true,false,false,true,true,true,true,false,false,true,true,true,true,true,false,true,false,false,true,true,false,false,false,false,false] rfl rfl (any_of HT_.out (by kernel_rfl)) (fun _ _ _ h => h) (Or.inl ⟨by rfl,?_⟩) ?_ ?_
                         rotate_left
                         ·intro w'
                          go_simp
                          with_reducible rfl
                         rotate_left
                         ·simp only [Act.put,List.setIfInBounds_toArray,List.set_cons_zero,List.set_cons_succ,i64_w,i32_w]
                          rfl
                         refine pure_ (i := 26) (N := some 207) (v := ?_) (a' := ?_) #[true,true,true,true,true,false,true,false,false,true,true,true,true,false,false,true,true,true,true,true,false,true,false,false,true,true,true,false,false,false,false] rfl rfl (any_of HT_.out (by kernel_rfl)) (fun _ _ _ h => h) (Or.inl ⟨by rfl,?_⟩) ?_ ?_
                         rotate_left
                         ·intro w'
                          go_simp
                          with_reducible rfl
                         rotate_left
                         ·simp only [Act.put,List.setIfInBounds_toArray,List.set_cons_zero,List.set_cons_succ,i64_w,i32_w]
                          rfl
                         refine pure_ (i := 27) (N := some 208) (v := ?_) (a' := ?_) #[true,true,true,true,true,false,true,false,false,true,true,true,true,false,false,true,true,true,true,true,false,true,false,false,true,true,true,true,false,false,false] rfl rfl (any_of HT_.out (by kernel_rfl)) (fun _ _ _ h => h) (Or.inl ⟨by rfl,?_⟩) ?_ ?_
                         rotate_left
                         ·intro w'
                          go_simp
                          with_reducible rfl
                         rotate_left
                         ·simp only [Act.put,List.setIfInBounds_toArray,List.set_cons_zero,List.set_cons_succ,i64_w,i32_w]
                          rfl
                         refine take_ (i := 5) (N := some 186) (v := ?_) (a' := ?_) #[true,true,true,true,true,true,true,false,false,true,true,true,true,false,false,true,true,true,true,true,false,true,false,false,true,true,true,true,false,false,false] rfl rfl (take_ofW HT_.out HW_.out (by kernel_rfl)) (fun _ _ _ h => h) (Or.inl ⟨by rfl,?_⟩) hHeld ?_ ?_
                         rotate_left
                         ·rintro w' ⟨s0,s1,s2,s3,s4,s5,s6,s7,s8,s9⟩
                          go_simp
                          with_reducible rfl
                         rotate_left
                         ·simp only [Act.put,List.setIfInBounds_toArray,List.set_cons_zero,List.set_cons_succ,i64_w,i32_w]
                          rfl
                         refine take_ (i := 7) (N := some 188) (v := ?_) (a' := ?_) #[true,true,true,true,true,true,true,true,false,true,true,true,true,false,false,true,true,true,true,true,false,true,false,false,true,true,true,true,false,false,false] rfl rfl (take_ofW HT_.out HW_.out (by kernel_rfl)) (fun _ _ _ h => h) (Or.inl ⟨by rfl,?_⟩) hHeld ?_ ?_
                         rotate_left
                         ·rintro w' ⟨s0,s1,s2,s3,s4,s5,s6,s7,s8,s9⟩
                          go_simp
                          with_reducible rfl
                         rotate_left
                         ·simp only [Act.put,List.setIfInBounds_toArray,List.set_cons_zero,List.set_cons_succ,i64_w,i32_w]
                          rfl
                         refine pure_ (i := 8) (N := some 189) (v := ?_) (a' := ?_) #[true,true,true,true,true,true,true,true,true,true,true,true,true,false,false,true,true,true,true,true,false,true,false,false,true,true,true,true,false,false,false] rfl rfl (any_of HT_.out (by kernel_rfl)) (fun _ _ _ h => h) (Or.inl ⟨by rfl,?_⟩) ?_ ?_
                         rotate_left
                         ·intro w'
                          go_simp
                          with_reducible rfl
                         rotate_left
                         ·simp only [Act.put,List.setIfInBounds_toArray,List.set_cons_zero,List.set_cons_succ,i64_w,i32_w]
                          rfl
                         refine take_ (i := 13) (N := some 194) (v := ?_) (a' := ?_) #[true,true,true,true,true,true,true,true,true,true,true,true,true,true,false,true,true,true,true,true,false,true,false,false,true,true,true,true,false,false,false] rfl rfl (take_ofW HT_.out HW_.out (by kernel_rfl)) (fun _ _ _ h => h) (Or.inl ⟨by rfl,?_⟩) hHeld ?_ ?_
                         rotate_left
                         ·rintro w' ⟨s0,s1,s2,s3,s4,s5,s6,s7,s8,s9⟩
                          go_simp
                          with_reducible rfl
                         rotate_left
                         ·simp only [Act.put,List.setIfInBounds_toArray,List.set_cons_zero,List.set_cons_succ,i64_w,i32_w]
                          rfl
                         refine pure_ (i := 14) (N := some 195) (v := ?_) (a' := ?_) #[true,true,true,true,true,true,true,true,true,true,true,true,true,true,true,true,true,true,true,true,false,true,false,false,true,true,true,true,false,false,false] rfl rfl (any_of HT_.out (by kernel_rfl)) (fun _ _ _ h => h) (Or.inl ⟨by rfl,?_⟩) ?_ ?_
                         rotate_left
                         ·intro w'
                          go_simp
                          with_reducible rfl
                         rotate_left
                         ·simp only [Act.put,List.setIfInBounds_toArray,List.set_cons_zero,List.set_cons_succ,i64_w,i32_w]
                          rfl
                         refine take_ (i := 20) (N := some 201) (v := ?_) (a' := ?_) #[true,true,true,true,true,true,true,true,true,true,true,true,true,true,true,true,true,true,true,true,true,true,false,false,true,true,true,true,false,false,false] rfl rfl (take_ofW HT_.out HW_.out (by kernel_rfl)) (fun _ _ _ h => h) (Or.inl ⟨by rfl,?_⟩) hHeld ?_ ?_
                         rotate_left
                         ·rintro w' ⟨s0,s1,s2,s3,s4,s5,s6,s7,s8,s9⟩
                          go_simp
                          with_reducible rfl
                         rotate_left
                         ·simp only [Act.put,List.setIfInBounds_toArray,List.set_cons_zero,List.set_cons_succ,i64_w,i32_w]
                          rfl
                         refine take_ (i := 22) (N := some 203) (v := ?_) (a' := ?_) #[true,true,true,true,true,true,true,true,true,true,true,true,true,true,true,true,true,true,true,true,true,true,true,false,true,true,true,true,false,false,false] rfl rfl (take_ofW HT_.out HW_.out (by kernel_rfl)) (fun _ _ _ h => h) (Or.inl ⟨by rfl,?_⟩) hHeld ?_ ?_
                         rotate_left
                         ·rintro w' ⟨s0,s1,s2,s3,s4,s5,s6,s7,s8,s9⟩
                          go_simp
                          with_reducible rfl
                         rotate_left
                         ·simp only [Act.put,List.setIfInBounds_toArray,List.set_cons_zero,List.set_cons_succ,i64_w,i32_w]
                          rfl
                         refine pure_ (i := 23) (N := some 204) (v := ?_) (a' := ?_) #[true,true,true,true,true,true,true,true,true,true,true,true,true,true,true,true,true,true,true,true,true,true,true,true,true,true,true,true,false,false,false] rfl rfl (any_of HT_.out (by kernel_rfl)) (fun _ _ _ h => h) (Or.inl ⟨by rfl,?_⟩) ?_ ?_
                         rotate_left
                         ·intro w'
                          go_simp
                          with_reducible rfl
                         rotate_left
                         ·simp only [Act.put,List.setIfInBounds_toArray,List.set_cons_zero,List.set_cons_succ,i64_w,i32_w]
                          rfl
                         refine take_ (i := 28) (N := some 209) (v := ?_) (a' := ?_) #[true,true,true,true,true,true,true,true,true,true,true,true,true,true,true,true,true,true,true,true,true,true,true,true,true,true,true,true,true,false,false] rfl rfl (take_ofW HT_.out HW_.out (by kernel_rfl)) (fun _ _ _ h => h) (Or.inl ⟨by rfl,?_⟩) hHeld ?_ ?_
                         rotate_left
                         ·rintro w' ⟨s0,s1,s2,s3,s4,s5,s6,s7,s8,s9⟩
                          go_simp
                          with_reducible rfl
                         rotate_left
                         ·simp only [Act.put,List.setIfInBounds_toArray,List.set_cons_zero,List.set_cons_succ,i64_w,i32_w]
                          rfl
                         refine pure_ (i := 29) (N := some 210) (v := ?_) (a' := ?_) #[true,true,true,true,true,true,true,true,true,true,true,true,true,true,true,true,true,true,true,true,true,true,true,true,true,true,true,true,true,true,false] rfl rfl (any_of HT_.out (by kernel_rfl)) (fun _ _ _ h => h) (Or.inl ⟨by rfl,?_⟩) ?_ ?_
                         rotate_left
                         ·intro w'
                          go_simp
                          with_reducible rfl
                         rotate_left
                         ·simp only [Act.put,List.setIfInBounds_toArray,List.set_cons_zero,List.set_cons_succ,i64_w,i32_w]
                          rfl
                         refine pure_ (i := 30) (N := some 211) (v := ?_) (a' := ?_) #[true,true,true,true,true,true,true,true,true,true,true,true,true,true,true,true,true,true,true,true,true,true,true,true,true,true,true,true,true,true,true] rfl rfl (any_of HT_.out (by kernel_rfl)) (fun _ _ _ h => h) (Or.inl ⟨by rfl,?_⟩) ?_ ?_
                         rotate_left
                         ·intro w'
                          go_simp
                          with_reducible rfl
                         rotate_left
                         ·simp only [Act.put,List.setIfInBounds_toArray,List.set_cons_zero,List.set_cons_succ,i64_w,i32_w]
                          rfl
                         refine done_ (done_of HT_.out (by kernel_rfl)) ?_
                         try go_wp2
                         go_roundg kj166
                         case measure => have := HJ6.out;have := HJ39.out;have := HK3.out;have := HK4.out;have := HJ166.out;omega
                         case rel => exact ⟨(wrap64 (x14_4 + 1)),au3,H',⟨by have := HJ6.out;have := HJ39.out;have := HK3.out;have := HK4.out;have := HJ166.out;omega⟩,⟨by (with_reducible repeat (first | apply Kd.R_alloc | apply Kd.R_drewN | apply Kd.R_drew));exact HO_6.out⟩,⟨by repeat (first | (with_reducible first | exact HB.out | apply below_alloc | apply pw_below_drewN | apply below_drew1 | refine below_set ?_ GE582.out | refine below_set ?_ GE587.out) | exact HB.out)⟩⟩
                        ·rw [if_neg c191] at H
                         have c191b0 : ((t542.extract ((ji184) : Int).toNat (((rd_T32 t549 x14_4).f1) : Int).toNat).toList == (t541.extract ((ji184) : Int).toNat (((rd_T32 t549 x14_4).f1) : Int).toNat).toList) = false := beq_eq_false_iff_ne.mpr c191
                         have c191b1 : ((t542.extract ((ji184) : Int).toNat (((rd_T32 t549 x14_4).f1) : Int).toNat).toList != (t541.extract ((ji184) : Int).toNat (((rd_T32 t549 x14_4).f1) : Int).toNat).toList) = true := bne_iff_ne.mpr c191
                         obtain rfl := Option.some.inj H
                         cases hr_
                       ·rw [if_neg c190] at H
                        exact absurd H (by simp)
                      ·rw [if_neg c187] at H
                       exact absurd H (by simp)
                     ·rw [if_neg c186] at H
                      exact absurd H (by simp)
                    ·rw [if_neg c185] at H
                     exact absurd H (by simp)
                   ·rw [if_neg c183] at H
                    exact absurd H (by simp)
                  ·rw [if_neg c182] at H
                   exact absurd H (by simp)
              ·rw [if_neg c164] at H
               exact absurd H (by simp)
             ·rw [if_neg c163] at H
              have c163b0 : decide (x14_4 < (t549.length : Int)) = false := decide_eq_false c163
              clear c163
              obtain rfl := Option.some.inj H
              obtain ⟨Ao194,co194,eo194⟩ := Kd.R_slice HO_6.out
              subst eo194
              go_wp2
              go_ret
              exact ⟨au2,au0⟩
 ·replace c3 := Bool.eq_false_iff.mpr c3
  subst c3
  have H1 : (some false) = some r := by rw [if_neg (show ¬ (false = true) by decide)] at H;exact H
  clear H
  have H := H1
  clear H1
  obtain rfl := Option.some.inj H
  cases hr_
end Go.Proofs.YtkficbgnjpekaaaDoor.U
end
