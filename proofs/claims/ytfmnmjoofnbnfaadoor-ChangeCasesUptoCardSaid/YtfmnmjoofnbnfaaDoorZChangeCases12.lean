/- What the law ChangeCases reaches of this seat's own texts, merged; what nothing uses is left out. -/
import Derived.Test.YtfmnmjoofnbnfaaDoorZChangeCases0
import Derived.Test.YtfmnmjoofnbnfaaDoorZChangeCases1
import Derived.Test.YtfmnmjoofnbnfaaDoorZChangeCases9
import Derived.Test.YtfmnmjoofnbnfaaDoorZChangeCases11
section
namespace Go.Proofs.YtfmnmjoofnbnfaaDoor.U
open Go.RowKit Go.Proofs.YtfmnmjoofnbnfaaDoorW.PrintWords Go.Proofs.YtfmnmjoofnbnfaaDoorW.PrintLast Go.Proofs.YtfmnmjoofnbnfaaDoorW.PrintMore
attribute [local go_sem] max2_int min2_int max_two min_two max_three min_three max_four min_four   -- for this text's walks alone
set_option linter.unusedVariables false
set_option linter.unusedSimpArgs false
attribute [local go_sem high] eqA28
noncomputable def bodkinlaw17_ChangeCases.j0 : Nat → Int → Bool → Int → Int → ByteArray → Int → ByteArray → Bool → Int → Int → ByteArray → Int → ByteArray → Bool → Int → Int → ByteArray → Int → ByteArray → Bool → Int → Int → ByteArray → Int → ByteArray → Bool → Option (Bool)
 | 0,_,_,_,_,_,_,_,_,_,_,_,_,_,_,_,_,_,_,_,_,_,_,_,_,_,_ => none
 | k + 1,x6,x76,x223000,x223001,x223002,x223003,x223004,x223005,x231000,x231001,x231002,x231003,x231004,x231005,x239000,x239001,x239002,x239003,x239004,x239005,x247000,x247001,x247002,x247003,x247004,x247005 => if x76 = true then (some false) else (if x6 = 0 then ((word_Upper.f x223004).bind fun t247 => (if (!(x231000 == x223000) || (!(x231001 == x223001) || (!(x231002.toList == t247.toList)))) = true then (some false) else ((word_Lower.f x223004).bind fun t248 => (if (!(x239000 == x223000) || (!(x239001 == x223001) || (!(x239002.toList == t248.toList)))) = true then (some false) else ((word_Capital.f x223004).bind fun t249 => (if (x247000 == x223000 && (x247001 == x223001 && (x247002.toList == t249.toList))) = true then (if x231003 = (wrap64 (x223000 + x223001)) then (if x239003 = (wrap64 (x223000 + x223001)) then (if x247003 = (wrap64 (x223000 + x223001)) then (if x231004.toList = ([] : List UInt8) then (if x239004.toList = ([] : List UInt8) then (some (x247004.toList == ([] : List UInt8))) else (some false)) else (some false)) else (some false)) else (some false)) else (some false)) else (some false))))))) else (some (x6 == 8)))
noncomputable def bodkinlaw17_ChangeCases.f (k : Nat) (a0 : ByteArray) (a1_0 : Int) (a1_1 : Int) (a1_2 : Int) (a1_3 : Int) : Option (Bool) := (bodkinlaw17_awake.f k).bind fun t214 => (if t214 = true then ((change_Of.f 16 a1_1 (⟨#[]⟩ : ByteArray) 0 a0 a1_2 a1_3).bind fun bt215 => ((change_Of.f 26 a1_1 (⟨#[]⟩ : ByteArray) 0 a0 a1_2 a1_3).bind fun bt223 => ((change_Of.f 27 a1_1 (⟨#[]⟩ : ByteArray) 0 a0 a1_2 a1_3).bind fun bt231 => ((change_Of.f 28 a1_1 (⟨#[]⟩ : ByteArray) 0 a0 a1_2 a1_3).bind fun bt239 => (if bt215.2.2.2.2.2.2 = bt223.2.2.2.2.2.2 then (if bt215.2.2.2.2.2.2 = bt231.2.2.2.2.2.2 then (bodkinlaw17_ChangeCases.j0 k bt215.2.2.2.2.2.2 (bt215.2.2.2.2.2.2 != bt239.2.2.2.2.2.2) bt215.1 bt215.2.1 bt215.2.2.1 bt215.2.2.2.1 bt215.2.2.2.2.1 bt215.2.2.2.2.2.1 bt223.1 bt223.2.1 bt223.2.2.1 bt223.2.2.2.1 bt223.2.2.2.2.1 bt223.2.2.2.2.2.1 bt231.1 bt231.2.1 bt231.2.2.1 bt231.2.2.2.1 bt231.2.2.2.2.1 bt231.2.2.2.2.2.1 bt239.1 bt239.2.1 bt239.2.2.1 bt239.2.2.2.1 bt239.2.2.2.2.1 bt239.2.2.2.2.2.1) else (bodkinlaw17_ChangeCases.j0 k bt215.2.2.2.2.2.2 true bt215.1 bt215.2.1 bt215.2.2.1 bt215.2.2.2.1 bt215.2.2.2.2.1 bt215.2.2.2.2.2.1 bt223.1 bt223.2.1 bt223.2.2.1 bt223.2.2.2.1 bt223.2.2.2.2.1 bt223.2.2.2.2.2.1 bt231.1 bt231.2.1 bt231.2.2.1 bt231.2.2.2.1 bt231.2.2.2.2.1 bt231.2.2.2.2.2.1 bt239.1 bt239.2.1 bt239.2.2.1 bt239.2.2.2.1 bt239.2.2.2.2.1 bt239.2.2.2.2.2.1)) else (bodkinlaw17_ChangeCases.j0 k bt215.2.2.2.2.2.2 true bt215.1 bt215.2.1 bt215.2.2.1 bt215.2.2.2.1 bt215.2.2.2.2.1 bt215.2.2.2.2.2.1 bt223.1 bt223.2.1 bt223.2.2.1 bt223.2.2.2.1 bt223.2.2.2.2.1 bt223.2.2.2.2.2.1 bt231.1 bt231.2.1 bt231.2.2.1 bt231.2.2.2.1 bt231.2.2.2.2.1 bt231.2.2.2.2.2.1 bt239.1 bt239.2.1 bt239.2.2.1 bt239.2.2.2.1 bt239.2.2.2.2.1 bt239.2.2.2.2.2.1)))))) else (some false))
def bodkinlaw17_ChangeCases.T12 : Bool × List (List Nat × List Nat) := (true,[([],[]),([0],[0]),([],[]),([2],[2]),([3],[3]),([],[]),([5],[5]),([6],[6]),([],[]),([8],[8]),([9],[9]),([4,7,10],[4,7,10]),([1,11],[1,11]),([12,10],[12]),([13],[13]),([14,13],[13,14]),([13],[13]),([16,13],[13,16]),([17,13],[13,17]),([13],[13]),([19,13],[13,19]),([20,13],[13,20]),([13],[13]),([22,13],[13,22]),([23,13,13],[13,23]),([18,21,24,13],[13,18,21,24]),([15,25,13],[13,15,25]),([13,26],[13,26])])
def bodkinlaw17_ChangeCases.B12 : List Nat := [0,1,0,4,12,0,32,96,0,256,768,2044,4095,8191,16383,32767,16383,81919,212991,16383,540671,1589247,16383,4210687,12599295,33505279,67108863,134217727]
theorem bodkinlaw17_ChangeCases.tab12 : rtab .any (opsOf Tryd.f4 12) = bodkinlaw17_ChangeCases.T12 := by kernel_rfl
theorem bodkinlaw17_ChangeCases.bits12 : waitsOk bodkinlaw17_ChangeCases.T12.2 bodkinlaw17_ChangeCases.B12 = true := by kernel_rfl
def bodkinlaw17_ChangeCases.T14 : Bool × List (List Nat × List Nat) := (true,[([],[]),([0],[0]),([],[]),([2],[2]),([3],[3]),([],[]),([5],[5]),([6],[6]),([],[]),([8],[8]),([9],[9]),([4,7,10],[4,7,10]),([1,11],[1,11]),([12,10],[12]),([13],[13]),([14,13],[13,14]),([13],[13]),([15,16,13],[13,15,16]),([13,17],[13,17]),([18,13],[18]),([19],[19]),([20,19],[19,20]),([19],[19]),([21,22,19],[19,21,22]),([19,23],[19,23]),([24,19],[24]),([25],[25]),([26,25],[25,26]),([25],[25]),([27,28,25],[25,27,28]),([25,29],[25,29]),([30,25],[30]),([31],[31]),([32,31],[31,32]),([33,31],[31,33]),([31,34],[31,34]),([35,31],[35]),([36],[36]),([37,36],[36,37]),([38,36],[36,38]),([36,39],[36,39]),([40,36],[40]),([41],[41]),([42,41],[41,42]),([43,41],[41,43]),([41,44],[41,44]),([45,41,0,1,2,3,4,5,6,7,8,9,10,11,12,13,14,15,16,17,18,19,20,21,22,23,24,25,26,27,28,29,30,31,32,33,34,35,36,37,38,39,40,41,42,43,44,45],[45])])
def bodkinlaw17_ChangeCases.B14 : List Nat := [0,1,0,4,12,0,32,96,0,256,768,2044,4095,8191,16383,32767,16383,131071,262143,524287,1048575,2097151,1048575,8388607,16777215,33554431,67108863,134217727,67108863,536870911,1073741823,2147483647,4294967295,8589934591,17179869183,34359738367,68719476735,137438953471,274877906943,549755813887,1099511627775,2199023255551,4398046511103,8796093022207,17592186044415,35184372088831,70368744177663]
theorem bodkinlaw17_ChangeCases.tab14 : rtab .any (opsOf Tryd.f4 14) = bodkinlaw17_ChangeCases.T14 := by kernel_rfl
theorem bodkinlaw17_ChangeCases.bits14 : waitsOk bodkinlaw17_ChangeCases.T14.2 bodkinlaw17_ChangeCases.B14 = true := by kernel_rfl
set_option maxHeartbeats 8000000 in
set_option maxRecDepth 100000 in
theorem bodkinlaw17_ChangeCases.calls (k : Nat) (a0 : ByteArray) (a1_0 : Int) (a1_1 : Int) (a1_2 : Int) (a1_3 : Int) (r : Bool) (hr_ : r = true) (w : World) (hT : Lib.Utf8Tabs 1 2 w) (h : bodkinlaw17_ChangeCases.f k a0 a1_0 a1_1 a1_2 a1_3 = some r) :
  Calls Tryd.prog 4 #[.string a0,.agg #[.int .i64 a1_0,.int .i64 a1_1,.int .i64 a1_2,.int .i64 a1_3]] w fun e w' => e = .returned (.bool r) ∧ Below w.heap.size w w' := by
 have hu23 := Tryd.underlying23
 have hu35 := Tryd.underlying35
 have hu30 := Tryd.underlying30
 have hu28 := Tryd.underlying28
 have HT := Aside0.mk hT
 clear hT
 have HB := Aside0.mk (Below.refl w.heap.size w)
 have H : ((bodkinlaw17_awake.f k).bind fun t214 => (if t214 = true then ((change_Of.f 16 a1_1 (⟨#[]⟩ : ByteArray) 0 a0 a1_2 a1_3).bind fun bt215 => ((change_Of.f 26 a1_1 (⟨#[]⟩ : ByteArray) 0 a0 a1_2 a1_3).bind fun bt223 => ((change_Of.f 27 a1_1 (⟨#[]⟩ : ByteArray) 0 a0 a1_2 a1_3).bind fun bt231 => ((change_Of.f 28 a1_1 (⟨#[]⟩ : ByteArray) 0 a0 a1_2 a1_3).bind fun bt239 => (if bt215.2.2.2.2.2.2 = bt223.2.2.2.2.2.2 then (if bt215.2.2.2.2.2.2 = bt231.2.2.2.2.2.2 then (bodkinlaw17_ChangeCases.j0 k bt215.2.2.2.2.2.2 (bt215.2.2.2.2.2.2 != bt239.2.2.2.2.2.2) bt215.1 bt215.2.1 bt215.2.2.1 bt215.2.2.2.1 bt215.2.2.2.2.1 bt215.2.2.2.2.2.1 bt223.1 bt223.2.1 bt223.2.2.1 bt223.2.2.2.1 bt223.2.2.2.2.1 bt223.2.2.2.2.2.1 bt231.1 bt231.2.1 bt231.2.2.1 bt231.2.2.2.1 bt231.2.2.2.2.1 bt231.2.2.2.2.2.1 bt239.1 bt239.2.1 bt239.2.2.1 bt239.2.2.2.1 bt239.2.2.2.2.1 bt239.2.2.2.2.2.1) else (bodkinlaw17_ChangeCases.j0 k bt215.2.2.2.2.2.2 true bt215.1 bt215.2.1 bt215.2.2.1 bt215.2.2.2.1 bt215.2.2.2.2.1 bt215.2.2.2.2.2.1 bt223.1 bt223.2.1 bt223.2.2.1 bt223.2.2.2.1 bt223.2.2.2.2.1 bt223.2.2.2.2.2.1 bt231.1 bt231.2.1 bt231.2.2.1 bt231.2.2.2.1 bt231.2.2.2.2.1 bt231.2.2.2.2.2.1 bt239.1 bt239.2.1 bt239.2.2.1 bt239.2.2.2.1 bt239.2.2.2.2.1 bt239.2.2.2.2.2.1)) else (bodkinlaw17_ChangeCases.j0 k bt215.2.2.2.2.2.2 true bt215.1 bt215.2.1 bt215.2.2.1 bt215.2.2.2.1 bt215.2.2.2.2.1 bt215.2.2.2.2.2.1 bt223.1 bt223.2.1 bt223.2.2.1 bt223.2.2.2.1 bt223.2.2.2.2.1 bt223.2.2.2.2.2.1 bt231.1 bt231.2.1 bt231.2.2.1 bt231.2.2.2.1 bt231.2.2.2.2.1 bt231.2.2.2.2.2.1 bt239.1 bt239.2.1 bt239.2.2.1 bt239.2.2.2.1 bt239.2.2.2.2.1 bt239.2.2.2.2.2.1)))))) else (some false))) = some r := h
 clear h
 replace H := Option.bind_eq_some_iff.mp H
 obtain ⟨t214,A30,H⟩ := H
 replace H : (if t214 = true then ((change_Of.f 16 a1_1 (⟨#[]⟩ : ByteArray) 0 a0 a1_2 a1_3).bind fun bt215 => ((change_Of.f 26 a1_1 (⟨#[]⟩ : ByteArray) 0 a0 a1_2 a1_3).bind fun bt223 => ((change_Of.f 27 a1_1 (⟨#[]⟩ : ByteArray) 0 a0 a1_2 a1_3).bind fun bt231 => ((change_Of.f 28 a1_1 (⟨#[]⟩ : ByteArray) 0 a0 a1_2 a1_3).bind fun bt239 => (if bt215.2.2.2.2.2.2 = bt223.2.2.2.2.2.2 then (if bt215.2.2.2.2.2.2 = bt231.2.2.2.2.2.2 then (bodkinlaw17_ChangeCases.j0 k bt215.2.2.2.2.2.2 (bt215.2.2.2.2.2.2 != bt239.2.2.2.2.2.2) bt215.1 bt215.2.1 bt215.2.2.1 bt215.2.2.2.1 bt215.2.2.2.2.1 bt215.2.2.2.2.2.1 bt223.1 bt223.2.1 bt223.2.2.1 bt223.2.2.2.1 bt223.2.2.2.2.1 bt223.2.2.2.2.2.1 bt231.1 bt231.2.1 bt231.2.2.1 bt231.2.2.2.1 bt231.2.2.2.2.1 bt231.2.2.2.2.2.1 bt239.1 bt239.2.1 bt239.2.2.1 bt239.2.2.2.1 bt239.2.2.2.2.1 bt239.2.2.2.2.2.1) else (bodkinlaw17_ChangeCases.j0 k bt215.2.2.2.2.2.2 true bt215.1 bt215.2.1 bt215.2.2.1 bt215.2.2.2.1 bt215.2.2.2.2.1 bt215.2.2.2.2.2.1 bt223.1 bt223.2.1 bt223.2.2.1 bt223.2.2.2.1 bt223.2.2.2.2.1 bt223.2.2.2.2.2.1 bt231.1 bt231.2.1 bt231.2.2.1 bt231.2.2.2.1 bt231.2.2.2.2.1 bt231.2.2.2.2.2.1 bt239.1 bt239.2.1 bt239.2.2.1 bt239.2.2.2.1 bt239.2.2.2.2.1 bt239.2.2.2.2.2.1)) else (bodkinlaw17_ChangeCases.j0 k bt215.2.2.2.2.2.2 true bt215.1 bt215.2.1 bt215.2.2.1 bt215.2.2.2.1 bt215.2.2.2.2.1 bt215.2.2.2.2.2.1 bt223.1 bt223.2.1 bt223.2.2.1 bt223.2.2.2.1 bt223.2.2.2.2.1 bt223.2.2.2.2.2.1 bt231.1 bt231.2.1 bt231.2.2.1 bt231.2.2.2.1 bt231.2.2.2.2.1 bt231.2.2.2.2.2.1 bt239.1 bt239.2.1 bt239.2.2.1 bt239.2.2.2.1 bt239.2.2.2.2.1 bt239.2.2.2.2.2.1)))))) else (some false)) = some r := H
 have A3 := Aside0.mk A30
 clear A30
 by_cases c4 : t214 = true
 ·subst c4
  have H1 : ((change_Of.f 16 a1_1 (⟨#[]⟩ : ByteArray) 0 a0 a1_2 a1_3).bind fun bt215 => ((change_Of.f 26 a1_1 (⟨#[]⟩ : ByteArray) 0 a0 a1_2 a1_3).bind fun bt223 => ((change_Of.f 27 a1_1 (⟨#[]⟩ : ByteArray) 0 a0 a1_2 a1_3).bind fun bt231 => ((change_Of.f 28 a1_1 (⟨#[]⟩ : ByteArray) 0 a0 a1_2 a1_3).bind fun bt239 => (if bt215.2.2.2.2.2.2 = bt223.2.2.2.2.2.2 then (if bt215.2.2.2.2.2.2 = bt231.2.2.2.2.2.2 then (bodkinlaw17_ChangeCases.j0 k bt215.2.2.2.2.2.2 (bt215.2.2.2.2.2.2 != bt239.2.2.2.2.2.2) bt215.1 bt215.2.1 bt215.2.2.1 bt215.2.2.2.1 bt215.2.2.2.2.1 bt215.2.2.2.2.2.1 bt223.1 bt223.2.1 bt223.2.2.1 bt223.2.2.2.1 bt223.2.2.2.2.1 bt223.2.2.2.2.2.1 bt231.1 bt231.2.1 bt231.2.2.1 bt231.2.2.2.1 bt231.2.2.2.2.1 bt231.2.2.2.2.2.1 bt239.1 bt239.2.1 bt239.2.2.1 bt239.2.2.2.1 bt239.2.2.2.2.1 bt239.2.2.2.2.2.1) else (bodkinlaw17_ChangeCases.j0 k bt215.2.2.2.2.2.2 true bt215.1 bt215.2.1 bt215.2.2.1 bt215.2.2.2.1 bt215.2.2.2.2.1 bt215.2.2.2.2.2.1 bt223.1 bt223.2.1 bt223.2.2.1 bt223.2.2.2.1 bt223.2.2.2.2.1 bt223.2.2.2.2.2.1 bt231.1 bt231.2.1 bt231.2.2.1 bt231.2.2.2.1 bt231.2.2.2.2.1 bt231.2.2.2.2.2.1 bt239.1 bt239.2.1 bt239.2.2.1 bt239.2.2.2.1 bt239.2.2.2.2.1 bt239.2.2.2.2.2.1)) else (bodkinlaw17_ChangeCases.j0 k bt215.2.2.2.2.2.2 true bt215.1 bt215.2.1 bt215.2.2.1 bt215.2.2.2.1 bt215.2.2.2.2.1 bt215.2.2.2.2.2.1 bt223.1 bt223.2.1 bt223.2.2.1 bt223.2.2.2.1 bt223.2.2.2.2.1 bt223.2.2.2.2.2.1 bt231.1 bt231.2.1 bt231.2.2.1 bt231.2.2.2.1 bt231.2.2.2.2.1 bt231.2.2.2.2.2.1 bt239.1 bt239.2.1 bt239.2.2.1 bt239.2.2.2.1 bt239.2.2.2.2.1 bt239.2.2.2.2.2.1)))))) = some r := by rw [if_pos rfl] at H;exact H
  clear H
  have H := H1
  clear H1
  replace H := Option.bind_eq_some_iff.mp H
  obtain ⟨⟨t215,t216,t217,t218,t219,t220,t221⟩,A50,H⟩ := H
  replace H : ((change_Of.f 26 a1_1 (⟨#[]⟩ : ByteArray) 0 a0 a1_2 a1_3).bind fun bt223 => ((change_Of.f 27 a1_1 (⟨#[]⟩ : ByteArray) 0 a0 a1_2 a1_3).bind fun bt231 => ((change_Of.f 28 a1_1 (⟨#[]⟩ : ByteArray) 0 a0 a1_2 a1_3).bind fun bt239 => (if t221 = bt223.2.2.2.2.2.2 then (if t221 = bt231.2.2.2.2.2.2 then (bodkinlaw17_ChangeCases.j0 k t221 (t221 != bt239.2.2.2.2.2.2) t215 t216 t217 t218 t219 t220 bt223.1 bt223.2.1 bt223.2.2.1 bt223.2.2.2.1 bt223.2.2.2.2.1 bt223.2.2.2.2.2.1 bt231.1 bt231.2.1 bt231.2.2.1 bt231.2.2.2.1 bt231.2.2.2.2.1 bt231.2.2.2.2.2.1 bt239.1 bt239.2.1 bt239.2.2.1 bt239.2.2.2.1 bt239.2.2.2.2.1 bt239.2.2.2.2.2.1) else (bodkinlaw17_ChangeCases.j0 k t221 true t215 t216 t217 t218 t219 t220 bt223.1 bt223.2.1 bt223.2.2.1 bt223.2.2.2.1 bt223.2.2.2.2.1 bt223.2.2.2.2.2.1 bt231.1 bt231.2.1 bt231.2.2.1 bt231.2.2.2.1 bt231.2.2.2.2.1 bt231.2.2.2.2.2.1 bt239.1 bt239.2.1 bt239.2.2.1 bt239.2.2.2.1 bt239.2.2.2.2.1 bt239.2.2.2.2.2.1)) else (bodkinlaw17_ChangeCases.j0 k t221 true t215 t216 t217 t218 t219 t220 bt223.1 bt223.2.1 bt223.2.2.1 bt223.2.2.2.1 bt223.2.2.2.2.1 bt223.2.2.2.2.2.1 bt231.1 bt231.2.1 bt231.2.2.1 bt231.2.2.2.1 bt231.2.2.2.2.1 bt231.2.2.2.2.2.1 bt239.1 bt239.2.1 bt239.2.2.1 bt239.2.2.2.1 bt239.2.2.2.2.1 bt239.2.2.2.2.2.1))))) = some r := H
  have A5 := Aside0.mk A50
  clear A50
  replace H := Option.bind_eq_some_iff.mp H
  obtain ⟨⟨t223,t224,t225,t226,t227,t228,t229⟩,A60,H⟩ := H
  replace H : ((change_Of.f 27 a1_1 (⟨#[]⟩ : ByteArray) 0 a0 a1_2 a1_3).bind fun bt231 => ((change_Of.f 28 a1_1 (⟨#[]⟩ : ByteArray) 0 a0 a1_2 a1_3).bind fun bt239 => (if t221 = t229 then (if t221 = bt231.2.2.2.2.2.2 then (bodkinlaw17_ChangeCases.j0 k t221 (t221 != bt239.2.2.2.2.2.2) t215 t216 t217 t218 t219 t220 t223 t224 t225 t226 t227 t228 bt231.1 bt231.2.1 bt231.2.2.1 bt231.2.2.2.1 bt231.2.2.2.2.1 bt231.2.2.2.2.2.1 bt239.1 bt239.2.1 bt239.2.2.1 bt239.2.2.2.1 bt239.2.2.2.2.1 bt239.2.2.2.2.2.1) else (bodkinlaw17_ChangeCases.j0 k t221 true t215 t216 t217 t218 t219 t220 t223 t224 t225 t226 t227 t228 bt231.1 bt231.2.1 bt231.2.2.1 bt231.2.2.2.1 bt231.2.2.2.2.1 bt231.2.2.2.2.2.1 bt239.1 bt239.2.1 bt239.2.2.1 bt239.2.2.2.1 bt239.2.2.2.2.1 bt239.2.2.2.2.2.1)) else (bodkinlaw17_ChangeCases.j0 k t221 true t215 t216 t217 t218 t219 t220 t223 t224 t225 t226 t227 t228 bt231.1 bt231.2.1 bt231.2.2.1 bt231.2.2.2.1 bt231.2.2.2.2.1 bt231.2.2.2.2.2.1 bt239.1 bt239.2.1 bt239.2.2.1 bt239.2.2.2.1 bt239.2.2.2.2.1 bt239.2.2.2.2.2.1)))) = some r := H
  have A6 := Aside0.mk A60
  clear A60
  replace H := Option.bind_eq_some_iff.mp H
  obtain ⟨⟨t231,t232,t233,t234,t235,t236,t237⟩,A70,H⟩ := H
  replace H : ((change_Of.f 28 a1_1 (⟨#[]⟩ : ByteArray) 0 a0 a1_2 a1_3).bind fun bt239 => (if t221 = t229 then (if t221 = t237 then (bodkinlaw17_ChangeCases.j0 k t221 (t221 != bt239.2.2.2.2.2.2) t215 t216 t217 t218 t219 t220 t223 t224 t225 t226 t227 t228 t231 t232 t233 t234 t235 t236 bt239.1 bt239.2.1 bt239.2.2.1 bt239.2.2.2.1 bt239.2.2.2.2.1 bt239.2.2.2.2.2.1) else (bodkinlaw17_ChangeCases.j0 k t221 true t215 t216 t217 t218 t219 t220 t223 t224 t225 t226 t227 t228 t231 t232 t233 t234 t235 t236 bt239.1 bt239.2.1 bt239.2.2.1 bt239.2.2.2.1 bt239.2.2.2.2.1 bt239.2.2.2.2.2.1)) else (bodkinlaw17_ChangeCases.j0 k t221 true t215 t216 t217 t218 t219 t220 t223 t224 t225 t226 t227 t228 t231 t232 t233 t234 t235 t236 bt239.1 bt239.2.1 bt239.2.2.1 bt239.2.2.2.1 bt239.2.2.2.2.1 bt239.2.2.2.2.2.1))) = some r := H
  have A7 := Aside0.mk A70
  clear A70
  replace H := Option.bind_eq_some_iff.mp H
  obtain ⟨⟨t239,t240,t241,t242,t243,t244,t245⟩,A80,H⟩ := H
  replace H : (if t221 = t229 then (if t221 = t237 then (bodkinlaw17_ChangeCases.j0 k t221 (t221 != t245) t215 t216 t217 t218 t219 t220 t223 t224 t225 t226 t227 t228 t231 t232 t233 t234 t235 t236 t239 t240 t241 t242 t243 t244) else (bodkinlaw17_ChangeCases.j0 k t221 true t215 t216 t217 t218 t219 t220 t223 t224 t225 t226 t227 t228 t231 t232 t233 t234 t235 t236 t239 t240 t241 t242 t243 t244)) else (bodkinlaw17_ChangeCases.j0 k t221 true t215 t216 t217 t218 t219 t220 t223 t224 t225 t226 t227 t228 t231 t232 t233 t234 t235 t236 t239 t240 t241 t242 t243 t244)) = some r := H
  have A8 := Aside0.mk A80
  clear A80
  have HC9 := Aside0.mk H
  clear H
  go_enter Tryd.func4,Tryd.ntmps4
  go_upto_region 7 with (first | ((with_reducible refine gate_dst (N := 3) rfl ?_);refine box_event ?hg (N := 3) ?hd (cs := #[.int .i64 a1_0,.int .i64 a1_1,.int .i64 a1_2,.int .i64 a1_3]) (t := 23) ?hr ?_;(case hd => rfl);(case hg => rfl);(case hr => first | (go_simp;done) | (go_simp;rfl));intro gb213 hg w10 hbox hb;have n0_ := Aside0.mk (below_step au0 hb);have n1_ := Aside0.mk (hbox);have n2_ := Aside0.mk ((by rw [hg];exact (below_size au0) : w.heap.size ≤ gb213));have n3_ := Aside0.mk ((by rw [hg];exact (below_size au0) : w.heap.size ≤ gb213));clear HB;have HB := n0_;have BK213 := n1_;have GW213 := n2_;have GE213 := n3_;clear n0_ n1_ n2_ n3_;clear hb hbox hg) | ((with_reducible refine gate_callee (f := 8) rfl ?_);refine goesL_ (some 14) rfl rfl Tryd.func8 (by kernel_rfl) rfl #[] rfl au1 ?_;(with_reducible refine (bodkinlaw17_awake.calls k true rfl _ ?side1 A3.out).mono ?_);(case side1 => exact tabs_below HT.out au23);rintro e w11 ⟨rfl,hb⟩;refine ⟨_,rfl,?_⟩;have n0_ := Aside0.mk (blk_below (g := gb213) (o := .cells #[.int .i64 a1_0,.int .i64 a1_1,.int .i64 a1_2,.int .i64 a1_3] 23 (0,0)) au13 hb);have n1_ := Aside0.mk (below_step au23 hb);clear BK213;clear HB;have BK213 := n0_;have HB := n1_;clear n0_ n1_;(try clear hb);(try clear hb2);(try clear hk);(try clear hi);have hcz12_0 : w11.cell? ⟨gb213,0,none⟩ = some (.int .i64 a1_0) := (blk_cell BK213.out 0).trans rfl;have hcz12_1 : w11.cell? ⟨gb213,1,none⟩ = some (.int .i64 a1_1) := (blk_cell BK213.out 1).trans rfl;have hcz12_2 : w11.cell? ⟨gb213,2,none⟩ = some (.int .i64 a1_2) := (blk_cell BK213.out 2).trans rfl;have hcz12_3 : w11.cell? ⟨gb213,3,none⟩ = some (.int .i64 a1_3) := (blk_cell BK213.out 3).trans rfl;have hfz12_0 := blk_frozen BK213.out 0;have hfz12_1 := blk_frozen BK213.out 1;have hfz12_2 := blk_frozen BK213.out 2;have hfz12_3 := blk_frozen BK213.out 3) | ((with_reducible refine gate_callee (f := 9) rfl ?_);refine goesL_ (some 25) rfl rfl Tryd.func9 (by kernel_rfl) rfl #[.agg #[.int .i64 16,.int .i64 a1_1,.string (⟨#[]⟩ : ByteArray),.int .u8 0],.string a0,.int .i64 a1_2,.int .i64 a1_3] rfl au1 ?_;(with_reducible refine (change_Of.calls 16 a1_1 (⟨#[]⟩ : ByteArray) 0 a0 a1_2 a1_3 t215 t216 t217 t218 t219 t220 t221 _ ?side1 A5.out).mono ?_);(case side1 => exact tabs_below HT.out au23);rintro e w13 ⟨rfl,hb⟩;refine ⟨_,rfl,?_⟩;have n0_ := Aside0.mk (blk_below (g := gb213) (o := .cells #[.int .i64 a1_0,.int .i64 a1_1,.int .i64 a1_2,.int .i64 a1_3] 23 (0,0)) au13 hb);have n1_ := Aside0.mk (below_step au23 hb);clear BK213;clear HB;have BK213 := n0_;have HB := n1_;clear n0_ n1_;(try clear hb);(try clear hb2);(try clear hk);(try clear hi)) | ((with_reducible refine gate_dst (N := 5) rfl ?_);refine box_event ?hg (N := 5) ?hd (cs := #[.int .i64 0,.int .i64 0,.string (⟨#[]⟩ : ByteArray),.int .i64 0,.string (⟨#[]⟩ : ByteArray),.bool false]) (t := 30) ?hr ?_;(case hd => rfl);(case hg => rfl);(case hr => first | (go_simp;done) | (go_simp;rfl));intro gb222 hg w14 hbox hb;have n0_ := Aside0.mk (blk_below (g := gb213) (o := .cells #[.int .i64 a1_0,.int .i64 a1_1,.int .i64 a1_2,.int .i64 a1_3] 23 (0,0)) au13 hb);have n1_ := Aside0.mk (below_step au23 hb);have n2_ := Aside0.mk (hbox);have n3_ := Aside0.mk ((by rw [hg];exact (below_size au23) : w.heap.size ≤ gb222));have n4_ := Aside0.mk ((by rw [hg];exact (below_size au23) : w.heap.size ≤ gb222));have n5_ := Aside0.mk ((by rw [hg];exact Nat.ne_of_lt (blk_lt (g := gb213) (o := .cells #[.int .i64 a1_0,.int .i64 a1_1,.int .i64 a1_2,.int .i64 a1_3] 23 (0,0)) au13) : gb213 ≠ gb222));have n6_ := Aside0.mk ((by rw [hg];exact Nat.ne_of_gt (blk_lt (g := gb213) (o := .cells #[.int .i64 a1_0,.int .i64 a1_1,.int .i64 a1_2,.int .i64 a1_3] 23 (0,0)) au13) : gb222 ≠ gb213));clear BK213;clear HB;have BK213 := n0_;have HB := n1_;have BK222 := n2_;have GW222 := n3_;have GE222 := n4_;have NB213_222 := n5_;have NB222_213 := n6_;clear n0_ n1_ n2_ n3_ n4_ n5_ n6_;clear hb hbox hg;have hnb15 := NB222_213.out;have hnc15 := NB213_222.out;have hcz16_0 : w14.cell? ⟨gb222,0,none⟩ = some (.int .i64 0) := (blk_cell BK222.out 0).trans rfl;have hcz16_1 : w14.cell? ⟨gb222,1,none⟩ = some (.int .i64 0) := (blk_cell BK222.out 1).trans rfl;have hcz16_2 : w14.cell? ⟨gb222,2,none⟩ = some (.string (⟨#[]⟩ : ByteArray)) := (blk_cell BK222.out 2).trans rfl;have hcz16_3 : w14.cell? ⟨gb222,3,none⟩ = some (.int .i64 0) := (blk_cell BK222.out 3).trans rfl;have hcz16_4 : w14.cell? ⟨gb222,4,none⟩ = some (.string (⟨#[]⟩ : ByteArray)) := (blk_cell BK222.out 4).trans rfl;have hcz16_5 : w14.cell? ⟨gb222,5,none⟩ = some (.bool false) := (blk_cell BK222.out 5).trans rfl;have hfz16_0 := blk_frozen BK222.out 0;have hfz16_1 := blk_frozen BK222.out 1;have hfz16_2 := blk_frozen BK222.out 2;have hfz16_3 := blk_frozen BK222.out 3;have hfz16_4 := blk_frozen BK222.out 4;have hfz16_5 := blk_frozen BK222.out 5;have hcz17_0 : w14.cell? ⟨gb213,0,none⟩ = some (.int .i64 a1_0) := (blk_cell BK213.out 0).trans rfl;have hcz17_1 : w14.cell? ⟨gb213,1,none⟩ = some (.int .i64 a1_1) := (blk_cell BK213.out 1).trans rfl;have hcz17_2 : w14.cell? ⟨gb213,2,none⟩ = some (.int .i64 a1_2) := (blk_cell BK213.out 2).trans rfl;have hcz17_3 : w14.cell? ⟨gb213,3,none⟩ = some (.int .i64 a1_3) := (blk_cell BK213.out 3).trans rfl;have hfz17_0 := blk_frozen BK213.out 0;have hfz17_1 := blk_frozen BK213.out 1;have hfz17_2 := blk_frozen BK213.out 2;have hfz17_3 := blk_frozen BK213.out 3) | ((with_reducible refine gate_callee (f := 9) rfl ?_);refine goesL_ (some 37) rfl rfl Tryd.func9 (by kernel_rfl) rfl #[.agg #[.int .i64 26,.int .i64 a1_1,.string (⟨#[]⟩ : ByteArray),.int .u8 0],.string a0,.int .i64 a1_2,.int .i64 a1_3] rfl au1 ?_;(with_reducible refine (change_Of.calls 26 a1_1 (⟨#[]⟩ : ByteArray) 0 a0 a1_2 a1_3 t223 t224 t225 t226 t227 t228 t229 _ ?side1 A6.out).mono ?_);(case side1 => exact tabs_below HT.out au38);rintro e w18 ⟨rfl,hb⟩;refine ⟨_,rfl,?_⟩;have n0_ := Aside0.mk (blk_below (g := gb213) (o := .cells #[.int .i64 a1_0,.int .i64 a1_1,.int .i64 a1_2,.int .i64 a1_3] 23 (0,0)) (by (with_reducible repeat (first | refine blk_drewN ?_ _ | refine blk_drew ?_ | refine blk_alloc ?_ _));refine blk_far ?_ NB213_222.out _;(with_reducible repeat (first | refine blk_drewN ?_ _ | refine blk_drew ?_ | refine blk_alloc ?_ _));refine blk_far ?_ NB213_222.out _;(with_reducible repeat (first | refine blk_drewN ?_ _ | refine blk_drew ?_ | refine blk_alloc ?_ _));refine blk_far ?_ NB213_222.out _;(with_reducible repeat (first | refine blk_drewN ?_ _ | refine blk_drew ?_ | refine blk_alloc ?_ _));refine blk_far ?_ NB213_222.out _;(with_reducible repeat (first | refine blk_drewN ?_ _ | refine blk_drew ?_ | refine blk_alloc ?_ _));refine blk_far ?_ NB213_222.out _;(with_reducible repeat (first | refine blk_drewN ?_ _ | refine blk_drew ?_ | refine blk_alloc ?_ _));refine blk_far ?_ NB213_222.out _;(with_reducible repeat (first | refine blk_drewN ?_ _ | refine blk_drew ?_ | refine blk_alloc ?_ _));exact BK213.out) hb);have n1_ := Aside0.mk (blk_below (g := gb222) (o := .cells #[.int .i64 t215,.int .i64 t216,.string t217,.int .i64 t218,.string t219,.bool t220] 30 (0,0)) (by (with_reducible repeat (first | refine blk_drewN ?_ _ | refine blk_drew ?_ | refine blk_alloc ?_ _));refine blk_put (cs := #[.int .i64 t215,.int .i64 t216,.string t217,.int .i64 t218,.string t219,.bool false]) ?_ 5 _ rfl;(with_reducible repeat (first | refine blk_drewN ?_ _ | refine blk_drew ?_ | refine blk_alloc ?_ _));refine blk_put (cs := #[.int .i64 t215,.int .i64 t216,.string t217,.int .i64 t218,.string (⟨#[]⟩ : ByteArray),.bool false]) ?_ 4 _ rfl;(with_reducible repeat (first | refine blk_drewN ?_ _ | refine blk_drew ?_ | refine blk_alloc ?_ _));refine blk_put (cs := #[.int .i64 t215,.int .i64 t216,.string t217,.int .i64 0,.string (⟨#[]⟩ : ByteArray),.bool false]) ?_ 3 _ rfl;(with_reducible repeat (first | refine blk_drewN ?_ _ | refine blk_drew ?_ | refine blk_alloc ?_ _));refine blk_put (cs := #[.int .i64 t215,.int .i64 t216,.string (⟨#[]⟩ : ByteArray),.int .i64 0,.string (⟨#[]⟩ : ByteArray),.bool false]) ?_ 2 _ rfl;(with_reducible repeat (first | refine blk_drewN ?_ _ | refine blk_drew ?_ | refine blk_alloc ?_ _));refine blk_put (cs := #[.int .i64 t215,.int .i64 0,.string (⟨#[]⟩ : ByteArray),.int .i64 0,.string (⟨#[]⟩ : ByteArray),.bool false]) ?_ 1 _ rfl;(with_reducible repeat (first | refine blk_drewN ?_ _ | refine blk_drew ?_ | refine blk_alloc ?_ _));refine blk_put (cs := #[.int .i64 0,.int .i64 0,.string (⟨#[]⟩ : ByteArray),.int .i64 0,.string (⟨#[]⟩ : ByteArray),.bool false]) ?_ 0 _ rfl;(with_reducible repeat (first | refine blk_drewN ?_ _ | refine blk_drew ?_ | refine blk_alloc ?_ _));exact BK222.out) hb);have n2_ := Aside0.mk (below_step au38 hb);clear BK213;clear BK222;clear HB;have BK213 := n0_;have BK222 := n1_;have HB := n2_;clear n0_ n1_ n2_;(try clear hb);(try clear hb2);(try clear hk);(try clear hi)) | ((with_reducible refine gate_dst (N := 7) rfl ?_);refine box_event ?hg (N := 7) ?hd (cs := #[.int .i64 0,.int .i64 0,.string (⟨#[]⟩ : ByteArray),.int .i64 0,.string (⟨#[]⟩ : ByteArray),.bool false]) (t := 30) ?hr ?_;(case hd => rfl);(case hg => rfl);(case hr => first | (go_simp;done) | (go_simp;rfl));intro gb230 hg w19 hbox hb;have n0_ := Aside0.mk (blk_below (g := gb213) (o := .cells #[.int .i64 a1_0,.int .i64 a1_1,.int .i64 a1_2,.int .i64 a1_3] 23 (0,0)) au13 hb);have n1_ := Aside0.mk (blk_below (g := gb222) (o := .cells #[.int .i64 t215,.int .i64 t216,.string t217,.int .i64 t218,.string t219,.bool t220] 30 (0,0)) au19 hb);have n2_ := Aside0.mk (below_step au38 hb);have n3_ := Aside0.mk (hbox);have n4_ := Aside0.mk ((by rw [hg];exact (below_size au38) : w.heap.size ≤ gb230));have n5_ := Aside0.mk ((by rw [hg];exact (below_size au38) : w.heap.size ≤ gb230));have n6_ := Aside0.mk ((by rw [hg];exact Nat.ne_of_lt (blk_lt (g := gb213) (o := .cells #[.int .i64 a1_0,.int .i64 a1_1,.int .i64 a1_2,.int .i64 a1_3] 23 (0,0)) au13) : gb213 ≠ gb230));have n7_ := Aside0.mk ((by rw [hg];exact Nat.ne_of_gt (blk_lt (g := gb213) (o := .cells #[.int .i64 a1_0,.int .i64 a1_1,.int .i64 a1_2,.int .i64 a1_3] 23 (0,0)) au13) : gb230 ≠ gb213));have n8_ := Aside0.mk ((by rw [hg];exact Nat.ne_of_lt (blk_lt (g := gb222) (o := .cells #[.int .i64 t215,.int .i64 t216,.string t217,.int .i64 t218,.string t219,.bool t220] 30 (0,0)) au19) : gb222 ≠ gb230));have n9_ := Aside0.mk ((by rw [hg];exact Nat.ne_of_gt (blk_lt (g := gb222) (o := .cells #[.int .i64 t215,.int .i64 t216,.string t217,.int .i64 t218,.string t219,.bool t220] 30 (0,0)) au19) : gb230 ≠ gb222));clear BK213;clear BK222;clear HB;have BK213 := n0_;have BK222 := n1_;have HB := n2_;have BK230 := n3_;have GW230 := n4_;have GE230 := n5_;have NB213_230 := n6_;have NB230_213 := n7_;have NB222_230 := n8_;have NB230_222 := n9_;clear n0_ n1_ n2_ n3_ n4_ n5_ n6_ n7_ n8_ n9_;clear hb hbox hg;have hnb20 := NB230_213.out;have hnc20 := NB213_230.out;have hnb21 := NB230_222.out;have hnc21 := NB222_230.out;have hcz22_0 : w19.cell? ⟨gb230,0,none⟩ = some (.int .i64 0) := (blk_cell BK230.out 0).trans rfl;have hcz22_1 : w19.cell? ⟨gb230,1,none⟩ = some (.int .i64 0) := (blk_cell BK230.out 1).trans rfl;have hcz22_2 : w19.cell? ⟨gb230,2,none⟩ = some (.string (⟨#[]⟩ : ByteArray)) := (blk_cell BK230.out 2).trans rfl;have hcz22_3 : w19.cell? ⟨gb230,3,none⟩ = some (.int .i64 0) := (blk_cell BK230.out 3).trans rfl;have hcz22_4 : w19.cell? ⟨gb230,4,none⟩ = some (.string (⟨#[]⟩ : ByteArray)) := (blk_cell BK230.out 4).trans rfl;have hcz22_5 : w19.cell? ⟨gb230,5,none⟩ = some (.bool false) := (blk_cell BK230.out 5).trans rfl;have hfz22_0 := blk_frozen BK230.out 0;have hfz22_1 := blk_frozen BK230.out 1;have hfz22_2 := blk_frozen BK230.out 2;have hfz22_3 := blk_frozen BK230.out 3;have hfz22_4 := blk_frozen BK230.out 4;have hfz22_5 := blk_frozen BK230.out 5;have hcz23_0 : w19.cell? ⟨gb213,0,none⟩ = some (.int .i64 a1_0) := (blk_cell BK213.out 0).trans rfl;have hcz23_1 : w19.cell? ⟨gb213,1,none⟩ = some (.int .i64 a1_1) := (blk_cell BK213.out 1).trans rfl;have hcz23_2 : w19.cell? ⟨gb213,2,none⟩ = some (.int .i64 a1_2) := (blk_cell BK213.out 2).trans rfl;have hcz23_3 : w19.cell? ⟨gb213,3,none⟩ = some (.int .i64 a1_3) := (blk_cell BK213.out 3).trans rfl;have hfz23_0 := blk_frozen BK213.out 0;have hfz23_1 := blk_frozen BK213.out 1;have hfz23_2 := blk_frozen BK213.out 2;have hfz23_3 := blk_frozen BK213.out 3) | ((with_reducible refine gate_callee (f := 9) rfl ?_);refine goesL_ (some 49) rfl rfl Tryd.func9 (by kernel_rfl) rfl #[.agg #[.int .i64 27,.int .i64 a1_1,.string (⟨#[]⟩ : ByteArray),.int .u8 0],.string a0,.int .i64 a1_2,.int .i64 a1_3] rfl au1 ?_;(with_reducible refine (change_Of.calls 27 a1_1 (⟨#[]⟩ : ByteArray) 0 a0 a1_2 a1_3 t231 t232 t233 t234 t235 t236 t237 _ ?side1 A7.out).mono ?_);(case side1 => exact tabs_below HT.out au27);rintro e w24 ⟨rfl,hb⟩;refine ⟨_,rfl,?_⟩;have n0_ := Aside0.mk (blk_below (g := gb213) (o := .cells #[.int .i64 a1_0,.int .i64 a1_1,.int .i64 a1_2,.int .i64 a1_3] 23 (0,0)) (by (with_reducible repeat (first | refine blk_drewN ?_ _ | refine blk_drew ?_ | refine blk_alloc ?_ _));refine blk_far ?_ NB213_230.out _;(with_reducible repeat (first | refine blk_drewN ?_ _ | refine blk_drew ?_ | refine blk_alloc ?_ _));refine blk_far ?_ NB213_230.out _;(with_reducible repeat (first | refine blk_drewN ?_ _ | refine blk_drew ?_ | refine blk_alloc ?_ _));refine blk_far ?_ NB213_230.out _;(with_reducible repeat (first | refine blk_drewN ?_ _ | refine blk_drew ?_ | refine blk_alloc ?_ _));refine blk_far ?_ NB213_230.out _;(with_reducible repeat (first | refine blk_drewN ?_ _ | refine blk_drew ?_ | refine blk_alloc ?_ _));refine blk_far ?_ NB213_230.out _;(with_reducible repeat (first | refine blk_drewN ?_ _ | refine blk_drew ?_ | refine blk_alloc ?_ _));refine blk_far ?_ NB213_230.out _;(with_reducible repeat (first | refine blk_drewN ?_ _ | refine blk_drew ?_ | refine blk_alloc ?_ _));exact BK213.out) hb);have n1_ := Aside0.mk (blk_below (g := gb222) (o := .cells #[.int .i64 t215,.int .i64 t216,.string t217,.int .i64 t218,.string t219,.bool t220] 30 (0,0)) (by (with_reducible repeat (first | refine blk_drewN ?_ _ | refine blk_drew ?_ | refine blk_alloc ?_ _));refine blk_far ?_ NB222_230.out _;(with_reducible repeat (first | refine blk_drewN ?_ _ | refine blk_drew ?_ | refine blk_alloc ?_ _));refine blk_far ?_ NB222_230.out _;(with_reducible repeat (first | refine blk_drewN ?_ _ | refine blk_drew ?_ | refine blk_alloc ?_ _));refine blk_far ?_ NB222_230.out _;(with_reducible repeat (first | refine blk_drewN ?_ _ | refine blk_drew ?_ | refine blk_alloc ?_ _));refine blk_far ?_ NB222_230.out _;(with_reducible repeat (first | refine blk_drewN ?_ _ | refine blk_drew ?_ | refine blk_alloc ?_ _));refine blk_far ?_ NB222_230.out _;(with_reducible repeat (first | refine blk_drewN ?_ _ | refine blk_drew ?_ | refine blk_alloc ?_ _));refine blk_far ?_ NB222_230.out _;(with_reducible repeat (first | refine blk_drewN ?_ _ | refine blk_drew ?_ | refine blk_alloc ?_ _));exact BK222.out) hb);have n2_ := Aside0.mk (blk_below (g := gb230) (o := .cells #[.int .i64 t223,.int .i64 t224,.string t225,.int .i64 t226,.string t227,.bool t228] 30 (0,0)) (by (with_reducible repeat (first | refine blk_drewN ?_ _ | refine blk_drew ?_ | refine blk_alloc ?_ _));refine blk_put (cs := #[.int .i64 t223,.int .i64 t224,.string t225,.int .i64 t226,.string t227,.bool false]) ?_ 5 _ rfl;(with_reducible repeat (first | refine blk_drewN ?_ _ | refine blk_drew ?_ | refine blk_alloc ?_ _));refine blk_put (cs := #[.int .i64 t223,.int .i64 t224,.string t225,.int .i64 t226,.string (⟨#[]⟩ : ByteArray),.bool false]) ?_ 4 _ rfl;(with_reducible repeat (first | refine blk_drewN ?_ _ | refine blk_drew ?_ | refine blk_alloc ?_ _));refine blk_put (cs := #[.int .i64 t223,.int .i64 t224,.string t225,.int .i64 0,.string (⟨#[]⟩ : ByteArray),.bool false]) ?_ 3 _ rfl;(with_reducible repeat (first | refine blk_drewN ?_ _ | refine blk_drew ?_ | refine blk_alloc ?_ _));refine blk_put (cs := #[.int .i64 t223,.int .i64 t224,.string (⟨#[]⟩ : ByteArray),.int .i64 0,.string (⟨#[]⟩ : ByteArray),.bool false]) ?_ 2 _ rfl;(with_reducible repeat (first | refine blk_drewN ?_ _ | refine blk_drew ?_ | refine blk_alloc ?_ _));refine blk_put (cs := #[.int .i64 t223,.int .i64 0,.string (⟨#[]⟩ : ByteArray),.int .i64 0,.string (⟨#[]⟩ : ByteArray),.bool false]) ?_ 1 _ rfl;(with_reducible repeat (first | refine blk_drewN ?_ _ | refine blk_drew ?_ | refine blk_alloc ?_ _));refine blk_put (cs := #[.int .i64 0,.int .i64 0,.string (⟨#[]⟩ : ByteArray),.int .i64 0,.string (⟨#[]⟩ : ByteArray),.bool false]) ?_ 0 _ rfl;(with_reducible repeat (first | refine blk_drewN ?_ _ | refine blk_drew ?_ | refine blk_alloc ?_ _));exact BK230.out) hb);have n3_ := Aside0.mk (below_step au27 hb);clear BK213;clear BK222;clear BK230;clear HB;have BK213 := n0_;have BK222 := n1_;have BK230 := n2_;have HB := n3_;clear n0_ n1_ n2_ n3_;(try clear hb);(try clear hb2);(try clear hk);(try clear hi)) | ((with_reducible refine gate_dst (N := 9) rfl ?_);refine box_event ?hg (N := 9) ?hd (cs := #[.int .i64 0,.int .i64 0,.string (⟨#[]⟩ : ByteArray),.int .i64 0,.string (⟨#[]⟩ : ByteArray),.bool false]) (t := 30) ?hr ?_;(case hd => rfl);(case hg => rfl);(case hr => first | (go_simp;done) | (go_simp;rfl));intro gb238 hg w25 hbox hb;have n0_ := Aside0.mk (blk_below (g := gb213) (o := .cells #[.int .i64 a1_0,.int .i64 a1_1,.int .i64 a1_2,.int .i64 a1_3] 23 (0,0)) au13 hb);have n1_ := Aside0.mk (blk_below (g := gb222) (o := .cells #[.int .i64 t215,.int .i64 t216,.string t217,.int .i64 t218,.string t219,.bool t220] 30 (0,0)) au19 hb);have n2_ := Aside0.mk (blk_below (g := gb230) (o := .cells #[.int .i64 t223,.int .i64 t224,.string t225,.int .i64 t226,.string t227,.bool t228] 30 (0,0)) au26 hb);have n3_ := Aside0.mk (below_step au27 hb);have n4_ := Aside0.mk (hbox);have n5_ := Aside0.mk ((by rw [hg];exact (below_size au27) : w.heap.size ≤ gb238));have n6_ := Aside0.mk ((by rw [hg];exact (below_size au27) : w.heap.size ≤ gb238));have n7_ := Aside0.mk ((by rw [hg];exact Nat.ne_of_lt (blk_lt (g := gb213) (o := .cells #[.int .i64 a1_0,.int .i64 a1_1,.int .i64 a1_2,.int .i64 a1_3] 23 (0,0)) au13) : gb213 ≠ gb238));have n8_ := Aside0.mk ((by rw [hg];exact Nat.ne_of_gt (blk_lt (g := gb213) (o := .cells #[.int .i64 a1_0,.int .i64 a1_1,.int .i64 a1_2,.int .i64 a1_3] 23 (0,0)) au13) : gb238 ≠ gb213));have n9_ := Aside0.mk ((by rw [hg];exact Nat.ne_of_lt (blk_lt (g := gb222) (o := .cells #[.int .i64 t215,.int .i64 t216,.string t217,.int .i64 t218,.string t219,.bool t220] 30 (0,0)) au19) : gb222 ≠ gb238));have n10_ := Aside0.mk ((by rw [hg];exact Nat.ne_of_gt (blk_lt (g := gb222) (o := .cells #[.int .i64 t215,.int .i64 t216,.string t217,.int .i64 t218,.string t219,.bool t220] 30 (0,0)) au19) : gb238 ≠ gb222));have n11_ := Aside0.mk ((by rw [hg];exact Nat.ne_of_lt (blk_lt (g := gb230) (o := .cells #[.int .i64 t223,.int .i64 t224,.string t225,.int .i64 t226,.string t227,.bool t228] 30 (0,0)) au26) : gb230 ≠ gb238));have n12_ := Aside0.mk ((by rw [hg];exact Nat.ne_of_gt (blk_lt (g := gb230) (o := .cells #[.int .i64 t223,.int .i64 t224,.string t225,.int .i64 t226,.string t227,.bool t228] 30 (0,0)) au26) : gb238 ≠ gb230));clear BK213;clear BK222;clear BK230;clear HB;have BK213 := n0_;have BK222 := n1_;have BK230 := n2_;have HB := n3_;have BK238 := n4_;have GW238 := n5_;have GE238 := n6_;have NB213_238 := n7_;have NB238_213 := n8_;have NB222_238 := n9_;have NB238_222 := n10_;have NB230_238 := n11_;have NB238_230 := n12_;clear n0_ n1_ n2_ n3_ n4_ n5_ n6_ n7_ n8_ n9_ n10_ n11_ n12_;clear hb hbox hg;have hnb26 := NB238_213.out;have hnc26 := NB213_238.out;have hnb27 := NB238_222.out;have hnc27 := NB222_238.out;have hnb28 := NB238_230.out;have hnc28 := NB230_238.out;have hcz29_0 : w25.cell? ⟨gb238,0,none⟩ = some (.int .i64 0) := (blk_cell BK238.out 0).trans rfl;have hcz29_1 : w25.cell? ⟨gb238,1,none⟩ = some (.int .i64 0) := (blk_cell BK238.out 1).trans rfl;have hcz29_2 : w25.cell? ⟨gb238,2,none⟩ = some (.string (⟨#[]⟩ : ByteArray)) := (blk_cell BK238.out 2).trans rfl;have hcz29_3 : w25.cell? ⟨gb238,3,none⟩ = some (.int .i64 0) := (blk_cell BK238.out 3).trans rfl;have hcz29_4 : w25.cell? ⟨gb238,4,none⟩ = some (.string (⟨#[]⟩ : ByteArray)) := (blk_cell BK238.out 4).trans rfl;have hcz29_5 : w25.cell? ⟨gb238,5,none⟩ = some (.bool false) := (blk_cell BK238.out 5).trans rfl;have hfz29_0 := blk_frozen BK238.out 0;have hfz29_1 := blk_frozen BK238.out 1;have hfz29_2 := blk_frozen BK238.out 2;have hfz29_3 := blk_frozen BK238.out 3;have hfz29_4 := blk_frozen BK238.out 4;have hfz29_5 := blk_frozen BK238.out 5;have hcz30_0 : w25.cell? ⟨gb213,0,none⟩ = some (.int .i64 a1_0) := (blk_cell BK213.out 0).trans rfl;have hcz30_1 : w25.cell? ⟨gb213,1,none⟩ = some (.int .i64 a1_1) := (blk_cell BK213.out 1).trans rfl;have hcz30_2 : w25.cell? ⟨gb213,2,none⟩ = some (.int .i64 a1_2) := (blk_cell BK213.out 2).trans rfl;have hcz30_3 : w25.cell? ⟨gb213,3,none⟩ = some (.int .i64 a1_3) := (blk_cell BK213.out 3).trans rfl;have hfz30_0 := blk_frozen BK213.out 0;have hfz30_1 := blk_frozen BK213.out 1;have hfz30_2 := blk_frozen BK213.out 2;have hfz30_3 := blk_frozen BK213.out 3) | ((with_reducible refine gate_callee (f := 9) rfl ?_);refine goesL_ (some 61) rfl rfl Tryd.func9 (by kernel_rfl) rfl #[.agg #[.int .i64 28,.int .i64 a1_1,.string (⟨#[]⟩ : ByteArray),.int .u8 0],.string a0,.int .i64 a1_2,.int .i64 a1_3] rfl au1 ?_;(with_reducible refine (change_Of.calls 28 a1_1 (⟨#[]⟩ : ByteArray) 0 a0 a1_2 a1_3 t239 t240 t241 t242 t243 t244 t245 _ ?side1 A8.out).mono ?_);(case side1 => exact tabs_below HT.out au22);rintro e w31 ⟨rfl,hb⟩;refine ⟨_,rfl,?_⟩;have n0_ := Aside0.mk (blk_below (g := gb213) (o := .cells #[.int .i64 a1_0,.int .i64 a1_1,.int .i64 a1_2,.int .i64 a1_3] 23 (0,0)) (by (with_reducible repeat (first | refine blk_drewN ?_ _ | refine blk_drew ?_ | refine blk_alloc ?_ _));refine blk_far ?_ NB213_238.out _;(with_reducible repeat (first | refine blk_drewN ?_ _ | refine blk_drew ?_ | refine blk_alloc ?_ _));refine blk_far ?_ NB213_238.out _;(with_reducible repeat (first | refine blk_drewN ?_ _ | refine blk_drew ?_ | refine blk_alloc ?_ _));refine blk_far ?_ NB213_238.out _;(with_reducible repeat (first | refine blk_drewN ?_ _ | refine blk_drew ?_ | refine blk_alloc ?_ _));refine blk_far ?_ NB213_238.out _;(with_reducible repeat (first | refine blk_drewN ?_ _ | refine blk_drew ?_ | refine blk_alloc ?_ _));refine blk_far ?_ NB213_238.out _;(with_reducible repeat (first | refine blk_drewN ?_ _ | refine blk_drew ?_ | refine blk_alloc ?_ _));refine blk_far ?_ NB213_238.out _;(with_reducible repeat (first | refine blk_drewN ?_ _ | refine blk_drew ?_ | refine blk_alloc ?_ _));exact BK213.out) hb);have n1_ := Aside0.mk (blk_below (g := gb222) (o := .cells #[.int .i64 t215,.int .i64 t216,.string t217,.int .i64 t218,.string t219,.bool t220] 30 (0,0)) (by (with_reducible repeat (first | refine blk_drewN ?_ _ | refine blk_drew ?_ | refine blk_alloc ?_ _));refine blk_far ?_ NB222_238.out _;(with_reducible repeat (first | refine blk_drewN ?_ _ | refine blk_drew ?_ | refine blk_alloc ?_ _));refine blk_far ?_ NB222_238.out _;(with_reducible repeat (first | refine blk_drewN ?_ _ | refine blk_drew ?_ | refine blk_alloc ?_ _));refine blk_far ?_ NB222_238.out _;(with_reducible repeat (first | refine blk_drewN ?_ _ | refine blk_drew ?_ | refine blk_alloc ?_ _));refine blk_far ?_ NB222_238.out _;(with_reducible repeat (first | refine blk_drewN ?_ _ | refine blk_drew ?_ | refine blk_alloc ?_ _));refine blk_far ?_ NB222_238.out _;(with_reducible repeat (first | refine blk_drewN ?_ _ | refine blk_drew ?_ | refine blk_alloc ?_ _));refine blk_far ?_ NB222_238.out _;(with_reducible repeat (first | refine blk_drewN ?_ _ | refine blk_drew ?_ | refine blk_alloc ?_ _));exact BK222.out) hb);have n2_ := Aside0.mk (blk_below (g := gb230) (o := .cells #[.int .i64 t223,.int .i64 t224,.string t225,.int .i64 t226,.string t227,.bool t228] 30 (0,0)) (by (with_reducible repeat (first | refine blk_drewN ?_ _ | refine blk_drew ?_ | refine blk_alloc ?_ _));refine blk_far ?_ NB230_238.out _;(with_reducible repeat (first | refine blk_drewN ?_ _ | refine blk_drew ?_ | refine blk_alloc ?_ _));refine blk_far ?_ NB230_238.out _;(with_reducible repeat (first | refine blk_drewN ?_ _ | refine blk_drew ?_ | refine blk_alloc ?_ _));refine blk_far ?_ NB230_238.out _;(with_reducible repeat (first | refine blk_drewN ?_ _ | refine blk_drew ?_ | refine blk_alloc ?_ _));refine blk_far ?_ NB230_238.out _;(with_reducible repeat (first | refine blk_drewN ?_ _ | refine blk_drew ?_ | refine blk_alloc ?_ _));refine blk_far ?_ NB230_238.out _;(with_reducible repeat (first | refine blk_drewN ?_ _ | refine blk_drew ?_ | refine blk_alloc ?_ _));refine blk_far ?_ NB230_238.out _;(with_reducible repeat (first | refine blk_drewN ?_ _ | refine blk_drew ?_ | refine blk_alloc ?_ _));exact BK230.out) hb);have n3_ := Aside0.mk (blk_below (g := gb238) (o := .cells #[.int .i64 t231,.int .i64 t232,.string t233,.int .i64 t234,.string t235,.bool t236] 30 (0,0)) (by (with_reducible repeat (first | refine blk_drewN ?_ _ | refine blk_drew ?_ | refine blk_alloc ?_ _));refine blk_put (cs := #[.int .i64 t231,.int .i64 t232,.string t233,.int .i64 t234,.string t235,.bool false]) ?_ 5 _ rfl;(with_reducible repeat (first | refine blk_drewN ?_ _ | refine blk_drew ?_ | refine blk_alloc ?_ _));refine blk_put (cs := #[.int .i64 t231,.int .i64 t232,.string t233,.int .i64 t234,.string (⟨#[]⟩ : ByteArray),.bool false]) ?_ 4 _ rfl;(with_reducible repeat (first | refine blk_drewN ?_ _ | refine blk_drew ?_ | refine blk_alloc ?_ _));refine blk_put (cs := #[.int .i64 t231,.int .i64 t232,.string t233,.int .i64 0,.string (⟨#[]⟩ : ByteArray),.bool false]) ?_ 3 _ rfl;(with_reducible repeat (first | refine blk_drewN ?_ _ | refine blk_drew ?_ | refine blk_alloc ?_ _));refine blk_put (cs := #[.int .i64 t231,.int .i64 t232,.string (⟨#[]⟩ : ByteArray),.int .i64 0,.string (⟨#[]⟩ : ByteArray),.bool false]) ?_ 2 _ rfl;(with_reducible repeat (first | refine blk_drewN ?_ _ | refine blk_drew ?_ | refine blk_alloc ?_ _));refine blk_put (cs := #[.int .i64 t231,.int .i64 0,.string (⟨#[]⟩ : ByteArray),.int .i64 0,.string (⟨#[]⟩ : ByteArray),.bool false]) ?_ 1 _ rfl;(with_reducible repeat (first | refine blk_drewN ?_ _ | refine blk_drew ?_ | refine blk_alloc ?_ _));refine blk_put (cs := #[.int .i64 0,.int .i64 0,.string (⟨#[]⟩ : ByteArray),.int .i64 0,.string (⟨#[]⟩ : ByteArray),.bool false]) ?_ 0 _ rfl;(with_reducible repeat (first | refine blk_drewN ?_ _ | refine blk_drew ?_ | refine blk_alloc ?_ _));exact BK238.out) hb);have n4_ := Aside0.mk (below_step au22 hb);clear BK213;clear BK222;clear BK230;clear BK238;clear HB;have BK213 := n0_;have BK222 := n1_;have BK230 := n2_;have BK238 := n3_;have HB := n4_;clear n0_ n1_ n2_ n3_ n4_;(try clear hb);(try clear hb2);(try clear hk);(try clear hi)) | ((with_reducible refine gate_dst (N := 11) rfl ?_);refine box_event ?hg (N := 11) ?hd (cs := #[.int .i64 0,.int .i64 0,.string (⟨#[]⟩ : ByteArray),.int .i64 0,.string (⟨#[]⟩ : ByteArray),.bool false]) (t := 30) ?hr ?_;(case hd => rfl);(case hg => rfl);(case hr => first | (go_simp;done) | (go_simp;rfl));intro gb246 hg w32 hbox hb;have n0_ := Aside0.mk (blk_below (g := gb213) (o := .cells #[.int .i64 a1_0,.int .i64 a1_1,.int .i64 a1_2,.int .i64 a1_3] 23 (0,0)) au13 hb);have n1_ := Aside0.mk (blk_below (g := gb222) (o := .cells #[.int .i64 t215,.int .i64 t216,.string t217,.int .i64 t218,.string t219,.bool t220] 30 (0,0)) au19 hb);have n2_ := Aside0.mk (blk_below (g := gb230) (o := .cells #[.int .i64 t223,.int .i64 t224,.string t225,.int .i64 t226,.string t227,.bool t228] 30 (0,0)) au26 hb);have n3_ := Aside0.mk (blk_below (g := gb238) (o := .cells #[.int .i64 t231,.int .i64 t232,.string t233,.int .i64 t234,.string t235,.bool t236] 30 (0,0)) (by (with_reducible repeat (first | refine blk_drewN ?_ _ | refine blk_drew ?_ | refine blk_alloc ?_ _));exact BK238.out) hb);have n4_ := Aside0.mk (below_step au22 hb);have n5_ := Aside0.mk (hbox);have n6_ := Aside0.mk ((by rw [hg];exact (below_size au22) : w.heap.size ≤ gb246));have n7_ := Aside0.mk ((by rw [hg];exact (below_size au22) : w.heap.size ≤ gb246));have n8_ := Aside0.mk ((by rw [hg];exact Nat.ne_of_lt (blk_lt (g := gb213) (o := .cells #[.int .i64 a1_0,.int .i64 a1_1,.int .i64 a1_2,.int .i64 a1_3] 23 (0,0)) au13) : gb213 ≠ gb246));have n9_ := Aside0.mk ((by rw [hg];exact Nat.ne_of_gt (blk_lt (g := gb213) (o := .cells #[.int .i64 a1_0,.int .i64 a1_1,.int .i64 a1_2,.int .i64 a1_3] 23 (0,0)) au13) : gb246 ≠ gb213));have n10_ := Aside0.mk ((by rw [hg];exact Nat.ne_of_lt (blk_lt (g := gb222) (o := .cells #[.int .i64 t215,.int .i64 t216,.string t217,.int .i64 t218,.string t219,.bool t220] 30 (0,0)) au19) : gb222 ≠ gb246));have n11_ := Aside0.mk ((by rw [hg];exact Nat.ne_of_gt (blk_lt (g := gb222) (o := .cells #[.int .i64 t215,.int .i64 t216,.string t217,.int .i64 t218,.string t219,.bool t220] 30 (0,0)) au19) : gb246 ≠ gb222));have n12_ := Aside0.mk ((by rw [hg];exact Nat.ne_of_lt (blk_lt (g := gb230) (o := .cells #[.int .i64 t223,.int .i64 t224,.string t225,.int .i64 t226,.string t227,.bool t228] 30 (0,0)) au26) : gb230 ≠ gb246));have n13_ := Aside0.mk ((by rw [hg];exact Nat.ne_of_gt (blk_lt (g := gb230) (o := .cells #[.int .i64 t223,.int .i64 t224,.string t225,.int .i64 t226,.string t227,.bool t228] 30 (0,0)) au26) : gb246 ≠ gb230));have n14_ := Aside0.mk ((by rw [hg];exact Nat.ne_of_lt (blk_lt (g := gb238) (o := .cells #[.int .i64 t231,.int .i64 t232,.string t233,.int .i64 t234,.string t235,.bool t236] 30 (0,0)) (by (with_reducible repeat (first | refine blk_drewN ?_ _ | refine blk_drew ?_ | refine blk_alloc ?_ _));exact BK238.out)) : gb238 ≠ gb246));have n15_ := Aside0.mk ((by rw [hg];exact Nat.ne_of_gt (blk_lt (g := gb238) (o := .cells #[.int .i64 t231,.int .i64 t232,.string t233,.int .i64 t234,.string t235,.bool t236] 30 (0,0)) (by (with_reducible repeat (first | refine blk_drewN ?_ _ | refine blk_drew ?_ | refine blk_alloc ?_ _));exact BK238.out)) : gb246 ≠ gb238));clear BK213;clear BK222;clear BK230;clear BK238;clear HB;have BK213 := n0_;have BK222 := n1_;have BK230 := n2_;have BK238 := n3_;have HB := n4_;have BK246 := n5_;have GW246 := n6_;have GE246 := n7_;have NB213_246 := n8_;have NB246_213 := n9_;have NB222_246 := n10_;have NB246_222 := n11_;have NB230_246 := n12_;have NB246_230 := n13_;have NB238_246 := n14_;have NB246_238 := n15_;clear n0_ n1_ n2_ n3_ n4_ n5_ n6_ n7_ n8_ n9_ n10_ n11_ n12_ n13_ n14_ n15_;clear hb hbox hg;have hnb33 := NB246_213.out;have hnc33 := NB213_246.out;have hnb34 := NB246_222.out;have hnc34 := NB222_246.out;have hnb35 := NB246_230.out;have hnc35 := NB230_246.out;have hnb36 := NB246_238.out;have hnc36 := NB238_246.out;have hcz37_0 : w32.cell? ⟨gb246,0,none⟩ = some (.int .i64 0) := (blk_cell BK246.out 0).trans rfl;have hcz37_1 : w32.cell? ⟨gb246,1,none⟩ = some (.int .i64 0) := (blk_cell BK246.out 1).trans rfl;have hcz37_2 : w32.cell? ⟨gb246,2,none⟩ = some (.string (⟨#[]⟩ : ByteArray)) := (blk_cell BK246.out 2).trans rfl;have hcz37_3 : w32.cell? ⟨gb246,3,none⟩ = some (.int .i64 0) := (blk_cell BK246.out 3).trans rfl;have hcz37_4 : w32.cell? ⟨gb246,4,none⟩ = some (.string (⟨#[]⟩ : ByteArray)) := (blk_cell BK246.out 4).trans rfl;have hcz37_5 : w32.cell? ⟨gb246,5,none⟩ = some (.bool false) := (blk_cell BK246.out 5).trans rfl;have hfz37_0 := blk_frozen BK246.out 0;have hfz37_1 := blk_frozen BK246.out 1;have hfz37_2 := blk_frozen BK246.out 2;have hfz37_3 := blk_frozen BK246.out 3;have hfz37_4 := blk_frozen BK246.out 4;have hfz37_5 := blk_frozen BK246.out 5))
  (try simp only [Act.put,List.setIfInBounds_toArray,List.set_cons_zero,List.set_cons_succ])
  go_cut [76] (fun v76 wc => ∃ (kq : Nat) (x76_8 : Bool),v76 = .bool x76_8 ∧ Aside0 (bodkinlaw17_ChangeCases.j0 kq t221 x76_8 t215 t216 t217 t218 t219 t220 t223 t224 t225 t226 t227 t228 t231 t232 t233 t234 t235 t236 t239 t240 t241 t242 t243 t244 = some r) ∧ Aside0 (kq ≤ k) ∧ Aside0 (wc.heap[gb213]? = some (.cells #[.int .i64 a1_0,.int .i64 a1_1,.int .i64 a1_2,.int .i64 a1_3] 23 (0,0))) ∧ Aside0 (wc.heap[gb222]? = some (.cells #[.int .i64 t215,.int .i64 t216,.string t217,.int .i64 t218,.string t219,.bool t220] 30 (0,0))) ∧ Aside0 (wc.heap[gb230]? = some (.cells #[.int .i64 t223,.int .i64 t224,.string t225,.int .i64 t226,.string t227,.bool t228] 30 (0,0))) ∧ Aside0 (wc.heap[gb238]? = some (.cells #[.int .i64 t231,.int .i64 t232,.string t233,.int .i64 t234,.string t235,.bool t236] 30 (0,0))) ∧ Aside0 (wc.heap[gb246]? = some (.cells #[.int .i64 t239,.int .i64 t240,.string t241,.int .i64 t242,.string t243,.bool t244] 30 (0,0))) ∧ Aside0 (Below w.heap.size w wc))
  case first =>
   have H := HC9.out
   clear HC9
   by_cases c38 : t221 = t229
   ·rw [if_pos c38] at H
    have c38b0 : (t221 == t229) = true := beq_iff_eq.mpr c38
    have c38b1 : (t221 != t229) = false := bne_eq_false_iff_eq.mpr c38
    clear c38
    (first | rw [c38b0] | (simp only [i64_w,i32_w];rw [c38b0]) | skip)
    by_cases c39 : t221 = t237
    ·rw [if_pos c39] at H
     have c39b0 : (t221 == t237) = true := beq_iff_eq.mpr c39
     have c39b1 : (t221 != t237) = false := bne_eq_false_iff_eq.mpr c39
     clear c39
     have H' := Aside0.mk H
     clear H
     go_wp2
     go_meet
     case rel => exact ⟨_,((t221 != t245)),au8,H',⟨by first | omega | exact Nat.le_refl _⟩,⟨by (with_reducible repeat (first | refine blk_drewN ?_ _ | refine blk_drew ?_ | refine blk_alloc ?_ _));refine blk_far ?_ NB213_246.out _;(with_reducible repeat (first | refine blk_drewN ?_ _ | refine blk_drew ?_ | refine blk_alloc ?_ _));refine blk_far ?_ NB213_246.out _;(with_reducible repeat (first | refine blk_drewN ?_ _ | refine blk_drew ?_ | refine blk_alloc ?_ _));refine blk_far ?_ NB213_246.out _;(with_reducible repeat (first | refine blk_drewN ?_ _ | refine blk_drew ?_ | refine blk_alloc ?_ _));refine blk_far ?_ NB213_246.out _;(with_reducible repeat (first | refine blk_drewN ?_ _ | refine blk_drew ?_ | refine blk_alloc ?_ _));refine blk_far ?_ NB213_246.out _;(with_reducible repeat (first | refine blk_drewN ?_ _ | refine blk_drew ?_ | refine blk_alloc ?_ _));refine blk_far ?_ NB213_246.out _;(with_reducible repeat (first | refine blk_drewN ?_ _ | refine blk_drew ?_ | refine blk_alloc ?_ _));exact BK213.out⟩,⟨by (with_reducible repeat (first | refine blk_drewN ?_ _ | refine blk_drew ?_ | refine blk_alloc ?_ _));refine blk_far ?_ NB222_246.out _;(with_reducible repeat (first | refine blk_drewN ?_ _ | refine blk_drew ?_ | refine blk_alloc ?_ _));refine blk_far ?_ NB222_246.out _;(with_reducible repeat (first | refine blk_drewN ?_ _ | refine blk_drew ?_ | refine blk_alloc ?_ _));refine blk_far ?_ NB222_246.out _;(with_reducible repeat (first | refine blk_drewN ?_ _ | refine blk_drew ?_ | refine blk_alloc ?_ _));refine blk_far ?_ NB222_246.out _;(with_reducible repeat (first | refine blk_drewN ?_ _ | refine blk_drew ?_ | refine blk_alloc ?_ _));refine blk_far ?_ NB222_246.out _;(with_reducible repeat (first | refine blk_drewN ?_ _ | refine blk_drew ?_ | refine blk_alloc ?_ _));refine blk_far ?_ NB222_246.out _;(with_reducible repeat (first | refine blk_drewN ?_ _ | refine blk_drew ?_ | refine blk_alloc ?_ _));exact BK222.out⟩,⟨by (with_reducible repeat (first | refine blk_drewN ?_ _ | refine blk_drew ?_ | refine blk_alloc ?_ _));refine blk_far ?_ NB230_246.out _;(with_reducible repeat (first | refine blk_drewN ?_ _ | refine blk_drew ?_ | refine blk_alloc ?_ _));refine blk_far ?_ NB230_246.out _;(with_reducible repeat (first | refine blk_drewN ?_ _ | refine blk_drew ?_ | refine blk_alloc ?_ _));refine blk_far ?_ NB230_246.out _;(with_reducible repeat (first | refine blk_drewN ?_ _ | refine blk_drew ?_ | refine blk_alloc ?_ _));refine blk_far ?_ NB230_246.out _;(with_reducible repeat (first | refine blk_drewN ?_ _ | refine blk_drew ?_ | refine blk_alloc ?_ _));refine blk_far ?_ NB230_246.out _;(with_reducible repeat (first | refine blk_drewN ?_ _ | refine blk_drew ?_ | refine blk_alloc ?_ _));refine blk_far ?_ NB230_246.out _;(with_reducible repeat (first | refine blk_drewN ?_ _ | refine blk_drew ?_ | refine blk_alloc ?_ _));exact BK230.out⟩,⟨by (with_reducible repeat (first | refine blk_drewN ?_ _ | refine blk_drew ?_ | refine blk_alloc ?_ _));refine blk_far ?_ NB238_246.out _;(with_reducible repeat (first | refine blk_drewN ?_ _ | refine blk_drew ?_ | refine blk_alloc ?_ _));refine blk_far ?_ NB238_246.out _;(with_reducible repeat (first | refine blk_drewN ?_ _ | refine blk_drew ?_ | refine blk_alloc ?_ _));refine blk_far ?_ NB238_246.out _;(with_reducible repeat (first | refine blk_drewN ?_ _ | refine blk_drew ?_ | refine blk_alloc ?_ _));refine blk_far ?_ NB238_246.out _;(with_reducible repeat (first | refine blk_drewN ?_ _ | refine blk_drew ?_ | refine blk_alloc ?_ _));refine blk_far ?_ NB238_246.out _;(with_reducible repeat (first | refine blk_drewN ?_ _ | refine blk_drew ?_ | refine blk_alloc ?_ _));refine blk_far ?_ NB238_246.out _;(with_reducible repeat (first | refine blk_drewN ?_ _ | refine blk_drew ?_ | refine blk_alloc ?_ _));exact BK238.out⟩,⟨by (with_reducible repeat (first | refine blk_drewN ?_ _ | refine blk_drew ?_ | refine blk_alloc ?_ _));refine blk_put (cs := #[.int .i64 t239,.int .i64 t240,.string t241,.int .i64 t242,.string t243,.bool false]) ?_ 5 _ rfl;(with_reducible repeat (first | refine blk_drewN ?_ _ | refine blk_drew ?_ | refine blk_alloc ?_ _));refine blk_put (cs := #[.int .i64 t239,.int .i64 t240,.string t241,.int .i64 t242,.string (⟨#[]⟩ : ByteArray),.bool false]) ?_ 4 _ rfl;(with_reducible repeat (first | refine blk_drewN ?_ _ | refine blk_drew ?_ | refine blk_alloc ?_ _));refine blk_put (cs := #[.int .i64 t239,.int .i64 t240,.string t241,.int .i64 0,.string (⟨#[]⟩ : ByteArray),.bool false]) ?_ 3 _ rfl;(with_reducible repeat (first | refine blk_drewN ?_ _ | refine blk_drew ?_ | refine blk_alloc ?_ _));refine blk_put (cs := #[.int .i64 t239,.int .i64 t240,.string (⟨#[]⟩ : ByteArray),.int .i64 0,.string (⟨#[]⟩ : ByteArray),.bool false]) ?_ 2 _ rfl;(with_reducible repeat (first | refine blk_drewN ?_ _ | refine blk_drew ?_ | refine blk_alloc ?_ _));refine blk_put (cs := #[.int .i64 t239,.int .i64 0,.string (⟨#[]⟩ : ByteArray),.int .i64 0,.string (⟨#[]⟩ : ByteArray),.bool false]) ?_ 1 _ rfl;(with_reducible repeat (first | refine blk_drewN ?_ _ | refine blk_drew ?_ | refine blk_alloc ?_ _));refine blk_put (cs := #[.int .i64 0,.int .i64 0,.string (⟨#[]⟩ : ByteArray),.int .i64 0,.string (⟨#[]⟩ : ByteArray),.bool false]) ?_ 0 _ rfl;(with_reducible repeat (first | refine blk_drewN ?_ _ | refine blk_drew ?_ | refine blk_alloc ?_ _));exact BK246.out⟩,⟨by repeat (first | (with_reducible first | exact HB.out | apply below_alloc | apply pw_below_drewN | apply below_drew1 | refine below_set ?_ GE213.out | refine below_set ?_ GE222.out | refine below_set ?_ GE230.out | refine below_set ?_ GE238.out | refine below_set ?_ GE246.out) | exact HB.out)⟩⟩
    ·rw [if_neg c39] at H
     exfalso
     subst hr_
     cases k <;> simp [bodkinlaw17_ChangeCases.j0] at H
   ·rw [if_neg c38] at H
    exfalso
    subst hr_
    cases k <;> simp [bodkinlaw17_ChangeCases.j0] at H
  case rest =>
   clear HC9
   try clear c1
   try clear c2
   try clear p2
   try clear c3
   try clear c4
   try clear c8
   try clear c9
   try clear c15
   try clear c20
   try clear c21
   try clear c26
   try clear c27
   try clear c28
   try clear c33
   try clear c34
   try clear c35
   try clear c36
   try clear c38
   try clear c38b0
   try clear c38b1
   try clear c39
   try clear c39b0
   try clear c39b1
   try clear hcz12_0
   try clear hcz12_1
   try clear hcz12_2
   try clear hcz12_3
   try clear hcz16_0
   try clear hcz16_1
   try clear hcz16_2
   try clear hcz16_3
   try clear hcz16_4
   try clear hcz16_5
   try clear hcz17_0
   try clear hcz17_1
   try clear hcz17_2
   try clear hcz17_3
   try clear hcz22_0
   try clear hcz22_1
   try clear hcz22_2
   try clear hcz22_3
   try clear hcz22_4
   try clear hcz22_5
   try clear hcz23_0
   try clear hcz23_1
   try clear hcz23_2
   try clear hcz23_3
   try clear hcz29_0
   try clear hcz29_1
   try clear hcz29_2
   try clear hcz29_3
   try clear hcz29_4
   try clear hcz29_5
   try clear hcz30_0
   try clear hcz30_1
   try clear hcz30_2
   try clear hcz30_3
   try clear hcz37_0
   try clear hcz37_1
   try clear hcz37_2
   try clear hcz37_3
   try clear hcz37_4
   try clear hcz37_5
   try clear hfz12_0
   try clear hfz12_1
   try clear hfz12_2
   try clear hfz12_3
   try clear hfz16_0
   try clear hfz16_1
   try clear hfz16_2
   try clear hfz16_3
   try clear hfz16_4
   try clear hfz16_5
   try clear hfz17_0
   try clear hfz17_1
   try clear hfz17_2
   try clear hfz17_3
   try clear hfz22_0
   try clear hfz22_1
   try clear hfz22_2
   try clear hfz22_3
   try clear hfz22_4
   try clear hfz22_5
   try clear hfz23_0
   try clear hfz23_1
   try clear hfz23_2
   try clear hfz23_3
   try clear hfz29_0
   try clear hfz29_1
   try clear hfz29_2
   try clear hfz29_3
   try clear hfz29_4
   try clear hfz29_5
   try clear hfz30_0
   try clear hfz30_1
   try clear hfz30_2
   try clear hfz30_3
   try clear hfz37_0
   try clear hfz37_1
   try clear hfz37_2
   try clear hfz37_3
   try clear hfz37_4
   try clear hfz37_5
   obtain ⟨kq,x76_8,rfl,HA,HJ8,BK213,BK222,BK230,BK238,BK246,HB⟩ := hcut
   cases kq with
   | zero => exact absurd HA.out (by simp [bodkinlaw17_ChangeCases.j0])
   | succ kj8 =>
    have H := HA.out
    clear HA
    simp only [bodkinlaw17_ChangeCases.j0] at H
    by_cases c40 : x76_8 = true
    ·subst c40
     have H1 : (some false) = some r := by rw [if_pos rfl] at H;exact H
     clear H
     have H := H1
     clear H1
     obtain rfl := Option.some.inj H
     cases hr_
    ·replace c40 := Bool.eq_false_iff.mpr c40
     subst c40
     have H1 : (if t221 = 0 then ((word_Upper.f t219).bind fun t247 => (if (!(t223 == t215) || (!(t224 == t216) || (!(t225.toList == t247.toList)))) = true then (some false) else ((word_Lower.f t219).bind fun t248 => (if (!(t231 == t215) || (!(t232 == t216) || (!(t233.toList == t248.toList)))) = true then (some false) else ((word_Capital.f t219).bind fun t249 => (if (t239 == t215 && (t240 == t216 && (t241.toList == t249.toList))) = true then (if t226 = (wrap64 (t215 + t216)) then (if t234 = (wrap64 (t215 + t216)) then (if t242 = (wrap64 (t215 + t216)) then (if t227.toList = ([] : List UInt8) then (if t235.toList = ([] : List UInt8) then (some (t243.toList == ([] : List UInt8))) else (some false)) else (some false)) else (some false)) else (some false)) else (some false)) else (some false))))))) else (some (t221 == 8))) = some r := by rw [if_neg (show ¬ (false = true) by decide)] at H;exact H
     clear H
     have H := H1
     clear H1
     by_cases c41 : t221 = 0
     ·rw [if_pos c41] at H
      have c41b0 : (t221 == 0) = true := beq_iff_eq.mpr c41
      have c41b1 : (t221 != 0) = false := bne_eq_false_iff_eq.mpr c41
      clear c41
      replace H := Option.bind_eq_some_iff.mp H
      obtain ⟨t247,A420,H⟩ := H
      replace H : (if (!(t223 == t215) || (!(t224 == t216) || (!(t225.toList == t247.toList)))) = true then (some false) else ((word_Lower.f t219).bind fun t248 => (if (!(t231 == t215) || (!(t232 == t216) || (!(t233.toList == t248.toList)))) = true then (some false) else ((word_Capital.f t219).bind fun t249 => (if (t239 == t215 && (t240 == t216 && (t241.toList == t249.toList))) = true then (if t226 = (wrap64 (t215 + t216)) then (if t234 = (wrap64 (t215 + t216)) then (if t242 = (wrap64 (t215 + t216)) then (if t227.toList = ([] : List UInt8) then (if t235.toList = ([] : List UInt8) then (some (t243.toList == ([] : List UInt8))) else (some false)) else (some false)) else (some false)) else (some false)) else (some false)) else (some false)))))) = some r := H
      have A42 := Aside0.mk A420
      clear A420
      by_cases c43 : (!(t223 == t215) || (!(t224 == t216) || (!(t225.toList == t247.toList)))) = true
      ·rw [if_pos c43] at H
       have c43b0 : (!(t223 == t215) || (!(t224 == t216) || (!(t225.toList == t247.toList)))) = true := c43
       clear c43
       obtain rfl := Option.some.inj H
       cases hr_
      ·rw [if_neg c43] at H
       have c43b0 : (!(t223 == t215) || (!(t224 == t216) || (!(t225.toList == t247.toList)))) = false := by simpa using c43
       clear c43
       replace H := Option.bind_eq_some_iff.mp H
       obtain ⟨t248,A510,H⟩ := H
       replace H : (if (!(t231 == t215) || (!(t232 == t216) || (!(t233.toList == t248.toList)))) = true then (some false) else ((word_Capital.f t219).bind fun t249 => (if (t239 == t215 && (t240 == t216 && (t241.toList == t249.toList))) = true then (if t226 = (wrap64 (t215 + t216)) then (if t234 = (wrap64 (t215 + t216)) then (if t242 = (wrap64 (t215 + t216)) then (if t227.toList = ([] : List UInt8) then (if t235.toList = ([] : List UInt8) then (some (t243.toList == ([] : List UInt8))) else (some false)) else (some false)) else (some false)) else (some false)) else (some false)) else (some false)))) = some r := H
       have A51 := Aside0.mk A510
       clear A510
       by_cases c52 : (!(t231 == t215) || (!(t232 == t216) || (!(t233.toList == t248.toList)))) = true
       ·rw [if_pos c52] at H
        have c52b0 : (!(t231 == t215) || (!(t232 == t216) || (!(t233.toList == t248.toList)))) = true := c52
        clear c52
        obtain rfl := Option.some.inj H
        cases hr_
       ·rw [if_neg c52] at H
        have c52b0 : (!(t231 == t215) || (!(t232 == t216) || (!(t233.toList == t248.toList)))) = false := by simpa using c52
        clear c52
        replace H := Option.bind_eq_some_iff.mp H
        obtain ⟨t249,A610,H⟩ := H
        replace H : (if (t239 == t215 && (t240 == t216 && (t241.toList == t249.toList))) = true then (if t226 = (wrap64 (t215 + t216)) then (if t234 = (wrap64 (t215 + t216)) then (if t242 = (wrap64 (t215 + t216)) then (if t227.toList = ([] : List UInt8) then (if t235.toList = ([] : List UInt8) then (some (t243.toList == ([] : List UInt8))) else (some false)) else (some false)) else (some false)) else (some false)) else (some false)) else (some false)) = some r := H
        have A61 := Aside0.mk A610
        clear A610
        by_cases c62 : (t239 == t215 && (t240 == t216 && (t241.toList == t249.toList))) = true
        ·rw [if_pos c62] at H
         have c62b0 : (t239 == t215 && (t240 == t216 && (t241.toList == t249.toList))) = true := c62
         have c62z := c62
         simp only [beq_self_eq_true,Bool.true_and,Bool.and_eq_true,beq_iff_eq] at c62z
         (try (have c62b1 : decide (t239 = t215 && (t240 == t216 && (t241.toList == t249.toList))) = true := by simpa using c62))
         (try (have c62b2 : (t239 == t215 && (t240 == t216 && (t241.toList == t249.toList))) = true := by simpa using c62))
         clear c62
         by_cases c63 : t226 = (wrap64 (t215 + t216))
         ·rw [if_pos c63] at H
          have c63b0 : (t226 == (wrap64 (t215 + t216))) = true := beq_iff_eq.mpr c63
          have c63b1 : (t226 != (wrap64 (t215 + t216))) = false := bne_eq_false_iff_eq.mpr c63
          clear c63
          by_cases c64 : t234 = (wrap64 (t215 + t216))
          ·rw [if_pos c64] at H
           have c64b0 : (t234 == (wrap64 (t215 + t216))) = true := beq_iff_eq.mpr c64
           have c64b1 : (t234 != (wrap64 (t215 + t216))) = false := bne_eq_false_iff_eq.mpr c64
           clear c64
           by_cases c65 : t242 = (wrap64 (t215 + t216))
           ·rw [if_pos c65] at H
            have c65b0 : (t242 == (wrap64 (t215 + t216))) = true := beq_iff_eq.mpr c65
            have c65b1 : (t242 != (wrap64 (t215 + t216))) = false := bne_eq_false_iff_eq.mpr c65
            clear c65
            by_cases c66 : t227.toList = ([] : List UInt8)
            ·rw [if_pos c66] at H
             have c66b0 : (t227.toList == ([] : List UInt8)) = true := beq_iff_eq.mpr c66
             have c66b1 : (t227.toList != ([] : List UInt8)) = false := bne_eq_false_iff_eq.mpr c66
             clear c66
             by_cases c67 : t235.toList = ([] : List UInt8)
             ·rw [if_pos c67] at H
              have c67b0 : (t235.toList == ([] : List UInt8)) = true := beq_iff_eq.mpr c67
              have c67b1 : (t235.toList != ([] : List UInt8)) = false := bne_eq_false_iff_eq.mpr c67
              clear c67
              obtain rfl := Option.some.inj H
              have hnb68 := NB222_213.out
              have hnc68 := NB213_222.out
              have hnb69 := NB222_230.out
              have hnc69 := NB230_222.out
              have hnb70 := NB222_238.out
              have hnc70 := NB238_222.out
              have hnb71 := NB222_246.out
              have hnc71 := NB246_222.out
              have hcz72_0 : wc.cell? ⟨gb222,0,none⟩ = some (.int .i64 t215) := (blk_cell BK222.out 0).trans rfl
              have hcz72_1 : wc.cell? ⟨gb222,1,none⟩ = some (.int .i64 t216) := (blk_cell BK222.out 1).trans rfl
              have hcz72_2 : wc.cell? ⟨gb222,2,none⟩ = some (.string t217) := (blk_cell BK222.out 2).trans rfl
              have hcz72_3 : wc.cell? ⟨gb222,3,none⟩ = some (.int .i64 t218) := (blk_cell BK222.out 3).trans rfl
              have hcz72_4 : wc.cell? ⟨gb222,4,none⟩ = some (.string t219) := (blk_cell BK222.out 4).trans rfl
              have hcz72_5 : wc.cell? ⟨gb222,5,none⟩ = some (.bool t220) := (blk_cell BK222.out 5).trans rfl
              have hfz72_0 := blk_frozen BK222.out 0
              have hfz72_1 := blk_frozen BK222.out 1
              have hfz72_2 := blk_frozen BK222.out 2
              have hfz72_3 := blk_frozen BK222.out 3
              have hfz72_4 := blk_frozen BK222.out 4
              have hfz72_5 := blk_frozen BK222.out 5
              try go_wp2
              have n0_ := Aside0.mk (blk_drew BK213.out)
              have n1_ := Aside0.mk (blk_drew BK222.out)
              have n2_ := Aside0.mk (blk_drew BK230.out)
              have n3_ := Aside0.mk (blk_drew BK238.out)
              have n4_ := Aside0.mk (blk_drew BK246.out)
              have n5_ := Aside0.mk (below_drew1 HB.out)
              clear BK213
              clear BK222
              clear BK230
              clear BK238
              clear BK246
              clear HB
              have BK213 := n0_
              have BK222 := n1_
              have BK230 := n2_
              have BK238 := n3_
              have BK246 := n4_
              have HB := n5_
              clear n0_ n1_ n2_ n3_ n4_ n5_
              refine start_ (n := 28) (S := fun w' => w'.cell? ⟨gb230,0,none⟩ = some (.int .i64 t223) ∧ w'.cell? ⟨gb230,1,none⟩ = some (.int .i64 t224) ∧ w'.cell? ⟨gb230,2,none⟩ = some (.string t225) ∧ w'.cell? ⟨gb230,3,none⟩ = some (.int .i64 t226) ∧ w'.cell? ⟨gb230,4,none⟩ = some (.string t227) ∧ w'.cell? ⟨gb230,5,none⟩ = some (.bool t228) ∧ w'.cell? ⟨gb222,0,none⟩ = some (.int .i64 t215) ∧ w'.cell? ⟨gb222,1,none⟩ = some (.int .i64 t216) ∧ w'.cell? ⟨gb222,2,none⟩ = some (.string t217) ∧ w'.cell? ⟨gb222,3,none⟩ = some (.int .i64 t218) ∧ w'.cell? ⟨gb222,4,none⟩ = some (.string t219) ∧ w'.cell? ⟨gb222,5,none⟩ = some (.bool t220) ∧ w'.cell? ⟨gb238,0,none⟩ = some (.int .i64 t231) ∧ w'.cell? ⟨gb238,1,none⟩ = some (.int .i64 t232) ∧ w'.cell? ⟨gb238,2,none⟩ = some (.string t233) ∧ w'.cell? ⟨gb238,3,none⟩ = some (.int .i64 t234) ∧ w'.cell? ⟨gb238,4,none⟩ = some (.string t235) ∧ w'.cell? ⟨gb238,5,none⟩ = some (.bool t236)) (ds := []) #[false,false,false,false,false,false,false,false,false,false,false,false,false,false,false,false,false,false,false,false,false,false,false,false,false,false,false,false] (by kernel_rfl) rfl rfl ⟨(blk_cell BK230.out 0).trans rfl,(blk_cell BK230.out 1).trans rfl,(blk_cell BK230.out 2).trans rfl,(blk_cell BK230.out 3).trans rfl,(blk_cell BK230.out 4).trans rfl,(blk_cell BK230.out 5).trans rfl,(blk_cell BK222.out 0).trans rfl,(blk_cell BK222.out 1).trans rfl,(blk_cell BK222.out 2).trans rfl,(blk_cell BK222.out 3).trans rfl,(blk_cell BK222.out 4).trans rfl,(blk_cell BK222.out 5).trans rfl,(blk_cell BK238.out 0).trans rfl,(blk_cell BK238.out 1).trans rfl,(blk_cell BK238.out 2).trans rfl,(blk_cell BK238.out 3).trans rfl,(blk_cell BK238.out 4).trans rfl,(blk_cell BK238.out 5).trans rfl⟩ (fun hHeld => ?_);refine with_tabW bodkinlaw17_ChangeCases.tab12 bodkinlaw17_ChangeCases.bits12 (fun HT_ HW_ => ?_)
              generalize wc.drew = w73 at BK213 BK222 BK230 BK238 BK246 HB hHeld ⊢
              refine pure_ (i := 0) (N := some 88) (v := ?_) (a' := ?_) #[true,false,false,false,false,false,false,false,false,false,false,false,false,false,false,false,false,false,false,false,false,false,false,false,false,false,false,false] rfl rfl (any_of HT_.out (by kernel_rfl)) (fun _ _ _ h => h) (Or.inl ⟨by rfl,?_⟩) ?_ ?_
              rotate_left
              ·intro w'
               go_simp
               with_reducible rfl
              rotate_left
              ·simp only [Act.put,List.setIfInBounds_toArray,List.set_cons_zero,List.set_cons_succ,i64_w,i32_w]
               rfl
              refine pure_ (i := 2) (N := some 90) (v := ?_) (a' := ?_) #[true,false,true,false,false,false,false,false,false,false,false,false,false,false,false,false,false,false,false,false,false,false,false,false,false,false,false,false] rfl rfl (any_of HT_.out (by kernel_rfl)) (fun _ _ _ h => h) (Or.inl ⟨by rfl,?_⟩) ?_ ?_
              rotate_left
              ·intro w'
               go_simp
               with_reducible rfl
              rotate_left
              ·simp only [Act.put,List.setIfInBounds_toArray,List.set_cons_zero,List.set_cons_succ,i64_w,i32_w]
               rfl
              refine pure_ (i := 3) (N := some 91) (v := ?_) (a' := ?_) #[true,false,true,true,false,false,false,false,false,false,false,false,false,false,false,false,false,false,false,false,false,false,false,false,false,false,false,false] rfl rfl (any_of HT_.out (by kernel_rfl)) (fun _ _ _ h => h) (Or.inl ⟨by rfl,?_⟩) ?_ ?_
              rotate_left
              ·intro w'
               go_simp
               with_reducible rfl
              rotate_left
              ·simp only [Act.put,List.setIfInBounds_toArray,List.set_cons_zero,List.set_cons_succ,i64_w,i32_w]
               rfl
              refine pure_ (i := 5) (N := some 93) (v := ?_) (a' := ?_) #[true,false,true,true,false,true,false,false,false,false,false,false,false,false,false,false,false,false,false,false,false,false,false,false,false,false,false,false] rfl rfl (any_of HT_.out (by kernel_rfl)) (fun _ _ _ h => h) (Or.inl ⟨by rfl,?_⟩) ?_ ?_
              rotate_left
              ·intro w'
               go_simp
               with_reducible rfl
              rotate_left
              ·simp only [Act.put,List.setIfInBounds_toArray,List.set_cons_zero,List.set_cons_succ,i64_w,i32_w]
               rfl
              refine pure_ (i := 6) (N := some 94) (v := ?_) (a' := ?_) #[true,false,true,true,false,true,true,false,false,false,false,false,false,false,false,false,false,false,false,false,false,false,false,false,false,false,false,false] rfl rfl (any_of HT_.out (by kernel_rfl)) (fun _ _ _ h => h) (Or.inl ⟨by rfl,?_⟩) ?_ ?_
              rotate_left
              ·intro w'
               go_simp
               with_reducible rfl
              rotate_left
              ·simp only [Act.put,List.setIfInBounds_toArray,List.set_cons_zero,List.set_cons_succ,i64_w,i32_w]
               rfl
              refine pure_ (i := 8) (N := some 96) (v := ?_) (a' := ?_) #[true,false,true,true,false,true,true,false,true,false,false,false,false,false,false,false,false,false,false,false,false,false,false,false,false,false,false,false] rfl rfl (any_of HT_.out (by kernel_rfl)) (fun _ _ _ h => h) (Or.inl ⟨by rfl,?_⟩) ?_ ?_
              rotate_left
              ·intro w'
               go_simp
               with_reducible rfl
              rotate_left
              ·simp only [Act.put,List.setIfInBounds_toArray,List.set_cons_zero,List.set_cons_succ,i64_w,i32_w]
               rfl
              refine take_ (i := 1) (N := some 89) (v := ?_) (a' := ?_) #[true,true,true,true,false,true,true,false,true,false,false,false,false,false,false,false,false,false,false,false,false,false,false,false,false,false,false,false] rfl rfl (take_ofW HT_.out HW_.out (by kernel_rfl)) (fun _ _ _ h => h) (Or.inl ⟨by rfl,?_⟩) hHeld ?_ ?_
              rotate_left
              ·rintro w' ⟨s0,s1,s2,s3,s4,s5,s6,s7,s8,s9,s10,s11,s12,s13,s14,s15,s16,s17⟩
               go_simp
               with_reducible rfl
              rotate_left
              ·simp only [Act.put,List.setIfInBounds_toArray,List.set_cons_zero,List.set_cons_succ,i64_w,i32_w]
               rfl
              refine take_ (i := 4) (N := some 92) (v := ?_) (a' := ?_) #[true,true,true,true,true,true,true,false,true,false,false,false,false,false,false,false,false,false,false,false,false,false,false,false,false,false,false,false] rfl rfl (take_ofW HT_.out HW_.out (by kernel_rfl)) (fun _ _ _ h => h) (Or.inl ⟨by rfl,?_⟩) hHeld ?_ ?_
              rotate_left
              ·rintro w' ⟨s0,s1,s2,s3,s4,s5,s6,s7,s8,s9,s10,s11,s12,s13,s14,s15,s16,s17⟩
               go_simp
               with_reducible rfl
              rotate_left
              ·simp only [Act.put,List.setIfInBounds_toArray,List.set_cons_zero,List.set_cons_succ,i64_w,i32_w]
               rfl
              refine take_ (i := 7) (N := some 95) (v := ?_) (a' := ?_) #[true,true,true,true,true,true,true,true,true,false,false,false,false,false,false,false,false,false,false,false,false,false,false,false,false,false,false,false] rfl rfl (take_ofW HT_.out HW_.out (by kernel_rfl)) (fun _ _ _ h => h) (Or.inl ⟨by rfl,?_⟩) hHeld ?_ ?_
              rotate_left
              ·rintro w' ⟨s0,s1,s2,s3,s4,s5,s6,s7,s8,s9,s10,s11,s12,s13,s14,s15,s16,s17⟩
               go_simp
               with_reducible rfl
              rotate_left
              ·simp only [Act.put,List.setIfInBounds_toArray,List.set_cons_zero,List.set_cons_succ,i64_w,i32_w]
               rfl
              refine take_ (i := 9) (N := some 97) (v := ?_) (a' := ?_) #[true,true,true,true,true,true,true,true,true,true,false,false,false,false,false,false,false,false,false,false,false,false,false,false,false,false,false,false] rfl rfl (take_ofW HT_.out HW_.out (by kernel_rfl)) (fun _ _ _ h => h) (Or.inl ⟨by rfl,?_⟩) hHeld ?_ ?_
              rotate_left
              ·rintro w' ⟨s0,s1,s2,s3,s4,s5,s6,s7,s8,s9,s10,s11,s12,s13,s14,s15,s16,s17⟩
               go_simp
               with_reducible rfl
              rotate_left
              ·simp only [Act.put,List.setIfInBounds_toArray,List.set_cons_zero,List.set_cons_succ,i64_w,i32_w]
               rfl
              refine one_ (i := 10) (N := some 98) #[true,true,true,true,true,true,true,true,true,true,true,false,false,false,false,false,false,false,false,false,false,false,false,false,false,false,false,false] rfl rfl (one_of HT_.out (by kernel_rfl)) (by decide) (fun K hK => ?_)
              refine goes_ Tryd.func10 (by kernel_rfl) rfl #[.string t219] (by rfl) rfl rfl au1 ?_
              with_reducible refine (word_Upper.calls t219 t247 _ ?side1 A42.out).mono ?_
              (case side1 => exact tabs_below HT.out au15)
              rintro e w74 ⟨rfl,hb⟩
              refine ⟨_,rfl,?_⟩
              have n0_ := Aside0.mk (blk_below (g := gb213) (o := .cells #[.int .i64 a1_0,.int .i64 a1_1,.int .i64 a1_2,.int .i64 a1_3] 23 (0,0)) au13 hb)
              have n1_ := Aside0.mk (blk_below (g := gb222) (o := .cells #[.int .i64 t215,.int .i64 t216,.string t217,.int .i64 t218,.string t219,.bool t220] 30 (0,0)) au19 hb)
              have n2_ := Aside0.mk (blk_below (g := gb230) (o := .cells #[.int .i64 t223,.int .i64 t224,.string t225,.int .i64 t226,.string t227,.bool t228] 30 (0,0)) au26 hb)
              have n3_ := Aside0.mk (blk_below (g := gb238) (o := .cells #[.int .i64 t231,.int .i64 t232,.string t233,.int .i64 t234,.string t235,.bool t236] 30 (0,0)) (by (with_reducible repeat (first | refine blk_drewN ?_ _ | refine blk_drew ?_ | refine blk_alloc ?_ _));exact BK238.out) hb)
              have n4_ := Aside0.mk (blk_below (g := gb246) (o := .cells #[.int .i64 t239,.int .i64 t240,.string t241,.int .i64 t242,.string t243,.bool t244] 30 (0,0)) (by (with_reducible repeat (first | refine blk_drewN ?_ _ | refine blk_drew ?_ | refine blk_alloc ?_ _));exact BK246.out) hb)
              have n5_ := Aside0.mk (below_step au15 hb)
              clear BK213
              clear BK222
              clear BK230
              clear BK238
              clear BK246
              clear HB
              have BK213 := n0_
              have BK222 := n1_
              have BK230 := n2_
              have BK238 := n3_
              have BK246 := n4_
              have HB := n5_
              clear n0_ n1_ n2_ n3_ n4_ n5_
              (try clear hb)
              (try clear hb2)
              (try clear hk)
              (try clear hi)
              refine hK.out _ _ ⟨(blk_cell BK230.out 0).trans rfl,(blk_cell BK230.out 1).trans rfl,(blk_cell BK230.out 2).trans rfl,(blk_cell BK230.out 3).trans rfl,(blk_cell BK230.out 4).trans rfl,(blk_cell BK230.out 5).trans rfl,(blk_cell BK222.out 0).trans rfl,(blk_cell BK222.out 1).trans rfl,(blk_cell BK222.out 2).trans rfl,(blk_cell BK222.out 3).trans rfl,(blk_cell BK222.out 4).trans rfl,(blk_cell BK222.out 5).trans rfl,(blk_cell BK238.out 0).trans rfl,(blk_cell BK238.out 1).trans rfl,(blk_cell BK238.out 2).trans rfl,(blk_cell BK238.out 3).trans rfl,(blk_cell BK238.out 4).trans rfl,(blk_cell BK238.out 5).trans rfl⟩ (fun hHeld => ?_)
              clear hK K
              refine norm_ (a' := ?_) ?_ ?_
              rotate_left
              ·show Act.put _ (some 98) _ = _
               simp only [Act.put,List.setIfInBounds_toArray,List.set_cons_zero,List.set_cons_succ,i64_w,i32_w]
               rfl
              refine pure_ (i := 11) (N := some 99) (v := ?_) (a' := ?_) #[true,true,true,true,true,true,true,true,true,true,true,true,false,false,false,false,false,false,false,false,false,false,false,false,false,false,false,false] rfl rfl (any_of HT_.out (by kernel_rfl)) (fun _ _ _ h => h) (Or.inl ⟨by rfl,?_⟩) ?_ ?_
              rotate_left
              ·intro w'
               go_simp
               with_reducible rfl
              rotate_left
              ·simp only [Act.put,List.setIfInBounds_toArray,List.set_cons_zero,List.set_cons_succ,i64_w,i32_w]
               rfl
              refine pure_ (i := 12) (N := some 100) (v := ?_) (a' := ?_) #[true,true,true,true,true,true,true,true,true,true,true,true,true,false,false,false,false,false,false,false,false,false,false,false,false,false,false,false] rfl rfl (any_of HT_.out (by kernel_rfl)) (fun _ _ _ h => h) (Or.inl ⟨by rfl,?_⟩) ?_ ?_
              rotate_left
              ·intro w'
               go_simp
               with_reducible rfl
              rotate_left
              ·simp only [Act.put,List.setIfInBounds_toArray,List.set_cons_zero,List.set_cons_succ,i64_w,i32_w]
               rfl
              refine pure_ (i := 13) (N := some 101) (v := ?_) (a' := ?_) #[true,true,true,true,true,true,true,true,true,true,true,true,true,true,false,false,false,false,false,false,false,false,false,false,false,false,false,false] rfl rfl (any_of HT_.out (by kernel_rfl)) (fun _ _ _ h => h) (Or.inl ⟨by rfl,?_⟩) ?_ ?_
              rotate_left
              ·intro w'
               go_simp
               with_reducible rfl
              rotate_left
              ·simp only [Act.put,List.setIfInBounds_toArray,List.set_cons_zero,List.set_cons_succ,i64_w,i32_w]
               rfl
              refine pure_ (i := 14) (N := some 102) (v := ?_) (a' := ?_) #[true,true,true,true,true,true,true,true,true,true,true,true,true,true,true,false,false,false,false,false,false,false,false,false,false,false,false,false] rfl rfl (any_of HT_.out (by kernel_rfl)) (fun _ _ _ h => h) (Or.inl ⟨by rfl,?_⟩) ?_ ?_
              rotate_left
              ·intro w'
               go_simp
               with_reducible rfl
              rotate_left
              ·simp only [Act.put,List.setIfInBounds_toArray,List.set_cons_zero,List.set_cons_succ,i64_w,i32_w]
               rfl
              refine pure_ (i := 16) (N := some 104) (v := ?_) (a' := ?_) #[true,true,true,true,true,true,true,true,true,true,true,true,true,true,true,false,true,false,false,false,false,false,false,false,false,false,false,false] rfl rfl (any_of HT_.out (by kernel_rfl)) (fun _ _ _ h => h) (Or.inl ⟨by rfl,?_⟩) ?_ ?_
              rotate_left
              ·intro w'
               go_simp
               with_reducible rfl
              rotate_left
              ·simp only [Act.put,List.setIfInBounds_toArray,List.set_cons_zero,List.set_cons_succ,i64_w,i32_w]
               rfl
              refine pure_ (i := 17) (N := some 105) (v := ?_) (a' := ?_) #[true,true,true,true,true,true,true,true,true,true,true,true,true,true,true,false,true,true,false,false,false,false,false,false,false,false,false,false] rfl rfl (any_of HT_.out (by kernel_rfl)) (fun _ _ _ h => h) (Or.inl ⟨by rfl,?_⟩) ?_ ?_
              rotate_left
              ·intro w'
               go_simp
               with_reducible rfl
              rotate_left
              ·simp only [Act.put,List.setIfInBounds_toArray,List.set_cons_zero,List.set_cons_succ,i64_w,i32_w]
               rfl
              refine pure_ (i := 19) (N := some 107) (v := ?_) (a' := ?_) #[true,true,true,true,true,true,true,true,true,true,true,true,true,true,true,false,true,true,false,true,false,false,false,false,false,false,false,false] rfl rfl (any_of HT_.out (by kernel_rfl)) (fun _ _ _ h => h) (Or.inl ⟨by rfl,?_⟩) ?_ ?_
              rotate_left
              ·intro w'
               go_simp
               with_reducible rfl
              rotate_left
              ·simp only [Act.put,List.setIfInBounds_toArray,List.set_cons_zero,List.set_cons_succ,i64_w,i32_w]
               rfl
              refine pure_ (i := 20) (N := some 108) (v := ?_) (a' := ?_) #[true,true,true,true,true,true,true,true,true,true,true,true,true,true,true,false,true,true,false,true,true,false,false,false,false,false,false,false] rfl rfl (any_of HT_.out (by kernel_rfl)) (fun _ _ _ h => h) (Or.inl ⟨by rfl,?_⟩) ?_ ?_
              rotate_left
              ·intro w'
               go_simp
               with_reducible rfl
              rotate_left
              ·simp only [Act.put,List.setIfInBounds_toArray,List.set_cons_zero,List.set_cons_succ,i64_w,i32_w]
               rfl
              refine pure_ (i := 22) (N := some 110) (v := ?_) (a' := ?_) #[true,true,true,true,true,true,true,true,true,true,true,true,true,true,true,false,true,true,false,true,true,false,true,false,false,false,false,false] rfl rfl (any_of HT_.out (by kernel_rfl)) (fun _ _ _ h => h) (Or.inl ⟨by rfl,?_⟩) ?_ ?_
              rotate_left
              ·intro w'
               go_simp
               with_reducible rfl
              rotate_left
              ·simp only [Act.put,List.setIfInBounds_toArray,List.set_cons_zero,List.set_cons_succ,i64_w,i32_w]
               rfl
              refine take_ (i := 15) (N := some 103) (v := ?_) (a' := ?_) #[true,true,true,true,true,true,true,true,true,true,true,true,true,true,true,true,true,true,false,true,true,false,true,false,false,false,false,false] rfl rfl (take_ofW HT_.out HW_.out (by kernel_rfl)) (fun _ _ _ h => h) (Or.inl ⟨by rfl,?_⟩) hHeld ?_ ?_
              rotate_left
              ·rintro w' ⟨s0,s1,s2,s3,s4,s5,s6,s7,s8,s9,s10,s11,s12,s13,s14,s15,s16,s17⟩
               go_simp
               with_reducible rfl
              rotate_left
              ·simp only [Act.put,List.setIfInBounds_toArray,List.set_cons_zero,List.set_cons_succ,i64_w,i32_w]
               rfl
              refine take_ (i := 18) (N := some 106) (v := ?_) (a' := ?_) #[true,true,true,true,true,true,true,true,true,true,true,true,true,true,true,true,true,true,true,true,true,false,true,false,false,false,false,false] rfl rfl (take_ofW HT_.out HW_.out (by kernel_rfl)) (fun _ _ _ h => h) (Or.inl ⟨by rfl,?_⟩) hHeld ?_ ?_
              rotate_left
              ·rintro w' ⟨s0,s1,s2,s3,s4,s5,s6,s7,s8,s9,s10,s11,s12,s13,s14,s15,s16,s17⟩
               go_simp
               with_reducible rfl
              rotate_left
              ·simp only [Act.put,List.setIfInBounds_toArray,List.set_cons_zero,List.set_cons_succ,i64_w,i32_w]
               rfl
              refine take_ (i := 21) (N := some 109) (v := ?_) (a' := ?_) #[true,true,true,true,true,true,true,true,true,true,true,true,true,true,true,true,true,true,true,true,true,true,true,false,false,false,false,false] rfl rfl (take_ofW HT_.out HW_.out (by kernel_rfl)) (fun _ _ _ h => h) (Or.inl ⟨by rfl,?_⟩) hHeld ?_ ?_
              rotate_left
              ·rintro w' ⟨s0,s1,s2,s3,s4,s5,s6,s7,s8,s9,s10,s11,s12,s13,s14,s15,s16,s17⟩
               go_simp
               with_reducible rfl
              rotate_left
              ·simp only [Act.put,List.setIfInBounds_toArray,List.set_cons_zero,List.set_cons_succ,i64_w,i32_w]
               rfl
              refine take_ (i := 23) (N := some 111) (v := ?_) (a' := ?_) #[true,true,true,true,true,true,true,true,true,true,true,true,true,true,true,true,true,true,true,true,true,true,true,true,false,false,false,false] rfl rfl (take_ofW HT_.out HW_.out (by kernel_rfl)) (fun _ _ _ h => h) (Or.inl ⟨by rfl,?_⟩) hHeld ?_ ?_
              rotate_left
              ·rintro w' ⟨s0,s1,s2,s3,s4,s5,s6,s7,s8,s9,s10,s11,s12,s13,s14,s15,s16,s17⟩
               go_simp
               with_reducible rfl
              rotate_left
              ·simp only [Act.put,List.setIfInBounds_toArray,List.set_cons_zero,List.set_cons_succ,i64_w,i32_w]
               rfl
              refine one_ (i := 24) (N := some 112) #[true,true,true,true,true,true,true,true,true,true,true,true,true,true,true,true,true,true,true,true,true,true,true,true,true,false,false,false] rfl rfl (one_of HT_.out (by kernel_rfl)) (by decide) (fun K hK => ?_)
              refine goes_ Tryd.func11 (by kernel_rfl) rfl #[.string t219] (by rfl) rfl rfl au1 ?_
              with_reducible refine (word_Lower.calls t219 t248 _ ?side1 A51.out).mono ?_
              (case side1 => exact tabs_below HT.out au15)
              rintro e w75 ⟨rfl,hb⟩
              refine ⟨_,rfl,?_⟩
              have n0_ := Aside0.mk (blk_below (g := gb213) (o := .cells #[.int .i64 a1_0,.int .i64 a1_1,.int .i64 a1_2,.int .i64 a1_3] 23 (0,0)) au13 hb)
              have n1_ := Aside0.mk (blk_below (g := gb222) (o := .cells #[.int .i64 t215,.int .i64 t216,.string t217,.int .i64 t218,.string t219,.bool t220] 30 (0,0)) au19 hb)
              have n2_ := Aside0.mk (blk_below (g := gb230) (o := .cells #[.int .i64 t223,.int .i64 t224,.string t225,.int .i64 t226,.string t227,.bool t228] 30 (0,0)) au26 hb)
              have n3_ := Aside0.mk (blk_below (g := gb238) (o := .cells #[.int .i64 t231,.int .i64 t232,.string t233,.int .i64 t234,.string t235,.bool t236] 30 (0,0)) (by (with_reducible repeat (first | refine blk_drewN ?_ _ | refine blk_drew ?_ | refine blk_alloc ?_ _));exact BK238.out) hb)
              have n4_ := Aside0.mk (blk_below (g := gb246) (o := .cells #[.int .i64 t239,.int .i64 t240,.string t241,.int .i64 t242,.string t243,.bool t244] 30 (0,0)) (by (with_reducible repeat (first | refine blk_drewN ?_ _ | refine blk_drew ?_ | refine blk_alloc ?_ _));exact BK246.out) hb)
              have n5_ := Aside0.mk (below_step au15 hb)
              clear BK213
              clear BK222
              clear BK230
              clear BK238
              clear BK246
              clear HB
              have BK213 := n0_
              have BK222 := n1_
              have BK230 := n2_
              have BK238 := n3_
              have BK246 := n4_
              have HB := n5_
              clear n0_ n1_ n2_ n3_ n4_ n5_
              (try clear hb)
              (try clear hb2)
              (try clear hk)
              (try clear hi)
              refine hK.out _ _ ⟨(blk_cell BK230.out 0).trans rfl,(blk_cell BK230.out 1).trans rfl,(blk_cell BK230.out 2).trans rfl,(blk_cell BK230.out 3).trans rfl,(blk_cell BK230.out 4).trans rfl,(blk_cell BK230.out 5).trans rfl,(blk_cell BK222.out 0).trans rfl,(blk_cell BK222.out 1).trans rfl,(blk_cell BK222.out 2).trans rfl,(blk_cell BK222.out 3).trans rfl,(blk_cell BK222.out 4).trans rfl,(blk_cell BK222.out 5).trans rfl,(blk_cell BK238.out 0).trans rfl,(blk_cell BK238.out 1).trans rfl,(blk_cell BK238.out 2).trans rfl,(blk_cell BK238.out 3).trans rfl,(blk_cell BK238.out 4).trans rfl,(blk_cell BK238.out 5).trans rfl⟩ (fun hHeld => ?_)
              clear hK K
              refine norm_ (a' := ?_) ?_ ?_
              rotate_left
              ·show Act.put _ (some 112) _ = _
               simp only [Act.put,List.setIfInBounds_toArray,List.set_cons_zero,List.set_cons_succ,i64_w,i32_w]
               rfl
              refine pure_ (i := 25) (N := some 113) (v := ?_) (a' := ?_) #[true,true,true,true,true,true,true,true,true,true,true,true,true,true,true,true,true,true,true,true,true,true,true,true,true,true,false,false] rfl rfl (any_of HT_.out (by kernel_rfl)) (fun _ _ _ h => h) (Or.inl ⟨by rfl,?_⟩) ?_ ?_
              rotate_left
              ·intro w'
               go_simp
               with_reducible rfl
              rotate_left
              ·simp only [Act.put,List.setIfInBounds_toArray,List.set_cons_zero,List.set_cons_succ,i64_w,i32_w]
               rfl
              refine pure_ (i := 26) (N := some 114) (v := ?_) (a' := ?_) #[true,true,true,true,true,true,true,true,true,true,true,true,true,true,true,true,true,true,true,true,true,true,true,true,true,true,true,false] rfl rfl (any_of HT_.out (by kernel_rfl)) (fun _ _ _ h => h) (Or.inl ⟨by rfl,?_⟩) ?_ ?_
              rotate_left
              ·intro w'
               go_simp
               with_reducible rfl
              rotate_left
              ·simp only [Act.put,List.setIfInBounds_toArray,List.set_cons_zero,List.set_cons_succ,i64_w,i32_w]
               rfl
              refine pure_ (i := 27) (N := some 115) (v := ?_) (a' := ?_) #[true,true,true,true,true,true,true,true,true,true,true,true,true,true,true,true,true,true,true,true,true,true,true,true,true,true,true,true] rfl rfl (any_of HT_.out (by kernel_rfl)) (fun _ _ _ h => h) (Or.inl ⟨by rfl,?_⟩) ?_ ?_
              rotate_left
              ·intro w'
               go_simp
               with_reducible rfl
              rotate_left
              ·simp only [Act.put,List.setIfInBounds_toArray,List.set_cons_zero,List.set_cons_succ,i64_w,i32_w]
               rfl
              refine done_ (done_of HT_.out (by kernel_rfl)) ?_
              try go_wp2
              have n0_ := Aside0.mk (blk_drew BK213.out)
              have n1_ := Aside0.mk (blk_drew BK222.out)
              have n2_ := Aside0.mk (blk_drew BK230.out)
              have n3_ := Aside0.mk (blk_drew BK238.out)
              have n4_ := Aside0.mk (blk_drew BK246.out)
              have n5_ := Aside0.mk (below_drew1 HB.out)
              clear BK213
              clear BK222
              clear BK230
              clear BK238
              clear BK246
              clear HB
              have BK213 := n0_
              have BK222 := n1_
              have BK230 := n2_
              have BK238 := n3_
              have BK246 := n4_
              have HB := n5_
              clear n0_ n1_ n2_ n3_ n4_ n5_
              refine start_ (n := 47) (S := fun w' => w'.cell? ⟨gb246,0,none⟩ = some (.int .i64 t239) ∧ w'.cell? ⟨gb246,1,none⟩ = some (.int .i64 t240) ∧ w'.cell? ⟨gb246,2,none⟩ = some (.string t241) ∧ w'.cell? ⟨gb246,3,none⟩ = some (.int .i64 t242) ∧ w'.cell? ⟨gb246,4,none⟩ = some (.string t243) ∧ w'.cell? ⟨gb246,5,none⟩ = some (.bool t244) ∧ w'.cell? ⟨gb222,0,none⟩ = some (.int .i64 t215) ∧ w'.cell? ⟨gb222,1,none⟩ = some (.int .i64 t216) ∧ w'.cell? ⟨gb222,2,none⟩ = some (.string t217) ∧ w'.cell? ⟨gb222,3,none⟩ = some (.int .i64 t218) ∧ w'.cell? ⟨gb222,4,none⟩ = some (.string t219) ∧ w'.cell? ⟨gb222,5,none⟩ = some (.bool t220) ∧ w'.cell? ⟨gb230,0,none⟩ = some (.int .i64 t223) ∧ w'.cell? ⟨gb230,1,none⟩ = some (.int .i64 t224) ∧ w'.cell? ⟨gb230,2,none⟩ = some (.string t225) ∧ w'.cell? ⟨gb230,3,none⟩ = some (.int .i64 t226) ∧ w'.cell? ⟨gb230,4,none⟩ = some (.string t227) ∧ w'.cell? ⟨gb230,5,none⟩ = some (.bool t228) ∧ w'.cell? ⟨gb238,0,none⟩ = some (.int .i64 t231) ∧ w'.cell? ⟨gb238,1,none⟩ = some (.int .i64 t232) ∧ w'.cell? ⟨gb238,2,none⟩ = some (.string t233) ∧ w'.cell? ⟨gb238,3,none⟩ = some (.int .i64 t234) ∧ w'.cell? ⟨gb238,4,none⟩ = some (.string t235) ∧ w'.cell? ⟨gb238,5,none⟩ = some (.bool t236)) (ds := []) #[false,false,false,false,false,false,false,false,false,false,false,false,false,false,false,false,false,false,false,false,false,false,false,false,false,false,false,false,false,false,false,false,false,false,false,false,false,false,false,false,false,false,false,false,false,false,false] (by kernel_rfl) rfl rfl ⟨(blk_cell BK246.out 0).trans rfl,(blk_cell BK246.out 1).trans rfl,(blk_cell BK246.out 2).trans rfl,(blk_cell BK246.out 3).trans rfl,(blk_cell BK246.out 4).trans rfl,(blk_cell BK246.out 5).trans rfl,(blk_cell BK222.out 0).trans rfl,(blk_cell BK222.out 1).trans rfl,(blk_cell BK222.out 2).trans rfl,(blk_cell BK222.out 3).trans rfl,(blk_cell BK222.out 4).trans rfl,(blk_cell BK222.out 5).trans rfl,(blk_cell BK230.out 0).trans rfl,(blk_cell BK230.out 1).trans rfl,(blk_cell BK230.out 2).trans rfl,(blk_cell BK230.out 3).trans rfl,(blk_cell BK230.out 4).trans rfl,(blk_cell BK230.out 5).trans rfl,(blk_cell BK238.out 0).trans rfl,(blk_cell BK238.out 1).trans rfl,(blk_cell BK238.out 2).trans rfl,(blk_cell BK238.out 3).trans rfl,(blk_cell BK238.out 4).trans rfl,(blk_cell BK238.out 5).trans rfl⟩ (fun hHeld => ?_);refine with_tabW bodkinlaw17_ChangeCases.tab14 bodkinlaw17_ChangeCases.bits14 (fun HT_ HW_ => ?_)
              generalize w75.drew = w76 at BK213 BK222 BK230 BK238 BK246 HB hHeld ⊢
              refine pure_ (i := 0) (N := some 116) (v := ?_) (a' := ?_) #[true,false,false,false,false,false,false,false,false,false,false,false,false,false,false,false,false,false,false,false,false,false,false,false,false,false,false,false,false,false,false,false,false,false,false,false,false,false,false,false,false,false,false,false,false,false,false] rfl rfl (any_of HT_.out (by kernel_rfl)) (fun _ _ _ h => h) (Or.inl ⟨by rfl,?_⟩) ?_ ?_
              rotate_left
              ·intro w'
               go_simp
               with_reducible rfl
              rotate_left
              ·simp only [Act.put,List.setIfInBounds_toArray,List.set_cons_zero,List.set_cons_succ,i64_w,i32_w]
               rfl
              refine pure_ (i := 2) (N := some 118) (v := ?_) (a' := ?_) #[true,false,true,false,false,false,false,false,false,false,false,false,false,false,false,false,false,false,false,false,false,false,false,false,false,false,false,false,false,false,false,false,false,false,false,false,false,false,false,false,false,false,false,false,false,false,false] rfl rfl (any_of HT_.out (by kernel_rfl)) (fun _ _ _ h => h) (Or.inl ⟨by rfl,?_⟩) ?_ ?_
              rotate_left
              ·intro w'
               go_simp
               with_reducible rfl
              rotate_left
              ·simp only [Act.put,List.setIfInBounds_toArray,List.set_cons_zero,List.set_cons_succ,i64_w,i32_w]
               rfl
              refine pure_ (i := 3) (N := some 119) (v := ?_) (a' := ?_) #[true,false,true,true,false,false,false,false,false,false,false,false,false,false,false,false,false,false,false,false,false,false,false,false,false,false,false,false,false,false,false,false,false,false,false,false,false,false,false,false,false,false,false,false,false,false,false] rfl rfl (any_of HT_.out (by kernel_rfl)) (fun _ _ _ h => h) (Or.inl ⟨by rfl,?_⟩) ?_ ?_
              rotate_left
              ·intro w'
               go_simp
               with_reducible rfl
              rotate_left
              ·simp only [Act.put,List.setIfInBounds_toArray,List.set_cons_zero,List.set_cons_succ,i64_w,i32_w]
               rfl
              refine pure_ (i := 5) (N := some 121) (v := ?_) (a' := ?_) #[true,false,true,true,false,true,false,false,false,false,false,false,false,false,false,false,false,false,false,false,false,false,false,false,false,false,false,false,false,false,false,false,false,false,false,false,false,false,false,false,false,false,false,false,false,false,false] rfl rfl (any_of HT_.out (by kernel_rfl)) (fun _ _ _ h => h) (Or.inl ⟨by rfl,?_⟩) ?_ ?_
              rotate_left
              ·intro w'
               go_simp
               with_reducible rfl
              rotate_left
              ·simp only [Act.put,List.setIfInBounds_toArray,List.set_cons_zero,List.set_cons_succ,i64_w,i32_w]
               rfl
              refine pure_ (i := 6) (N := some 122) (v := ?_) (a' := ?_) #[true,false,true,true,false,true,true,false,false,false,false,false,false,false,false,false,false,false,false,false,false,false,false,false,false,false,false,false,false,false,false,false,false,false,false,false,false,false,false,false,false,false,false,false,false,false,false] rfl rfl (any_of HT_.out (by kernel_rfl)) (fun _ _ _ h => h) (Or.inl ⟨by rfl,?_⟩) ?_ ?_
              rotate_left
              ·intro w'
               go_simp
               with_reducible rfl
              rotate_left
              ·simp only [Act.put,List.setIfInBounds_toArray,List.set_cons_zero,List.set_cons_succ,i64_w,i32_w]
               rfl
              refine pure_ (i := 8) (N := some 124) (v := ?_) (a' := ?_) #[true,false,true,true,false,true,true,false,true,false,false,false,false,false,false,false,false,false,false,false,false,false,false,false,false,false,false,false,false,false,false,false,false,false,false,false,false,false,false,false,false,false,false,false,false,false,false] rfl rfl (any_of HT_.out (by kernel_rfl)) (fun _ _ _ h => h) (Or.inl ⟨by rfl,?_⟩) ?_ ?_
              rotate_left
              ·intro w'
               go_simp
               with_reducible rfl
              rotate_left
              ·simp only [Act.put,List.setIfInBounds_toArray,List.set_cons_zero,List.set_cons_succ,i64_w,i32_w]
               rfl
              refine take_ (i := 1) (N := some 117) (v := ?_) (a' := ?_) #[true,true,true,true,false,true,true,false,true,false,false,false,false,false,false,false,false,false,false,false,false,false,false,false,false,false,false,false,false,false,false,false,false,false,false,false,false,false,false,false,false,false,false,false,false,false,false] rfl rfl (take_ofW HT_.out HW_.out (by kernel_rfl)) (fun _ _ _ h => h) (Or.inl ⟨by rfl,?_⟩) hHeld ?_ ?_
              rotate_left
              ·rintro w' ⟨s0,s1,s2,s3,s4,s5,s6,s7,s8,s9,s10,s11,s12,s13,s14,s15,s16,s17,s18,s19,s20,s21,s22,s23⟩
               go_simp
               with_reducible rfl
              rotate_left
              ·simp only [Act.put,List.setIfInBounds_toArray,List.set_cons_zero,List.set_cons_succ,i64_w,i32_w]
               rfl
              refine take_ (i := 4) (N := some 120) (v := ?_) (a' := ?_) #[true,true,true,true,true,true,true,false,true,false,false,false,false,false,false,false,false,false,false,false,false,false,false,false,false,false,false,false,false,false,false,false,false,false,false,false,false,false,false,false,false,false,false,false,false,false,false] rfl rfl (take_ofW HT_.out HW_.out (by kernel_rfl)) (fun _ _ _ h => h) (Or.inl ⟨by rfl,?_⟩) hHeld ?_ ?_
              rotate_left
              ·rintro w' ⟨s0,s1,s2,s3,s4,s5,s6,s7,s8,s9,s10,s11,s12,s13,s14,s15,s16,s17,s18,s19,s20,s21,s22,s23⟩
               go_simp
               with_reducible rfl
              rotate_left
              ·simp only [Act.put,List.setIfInBounds_toArray,List.set_cons_zero,List.set_cons_succ,i64_w,i32_w]
               rfl
              refine take_ (i := 7) (N := some 123) (v := ?_) (a' := ?_) #[true,true,true,true,true,true,true,true,true,false,false,false,false,false,false,false,false,false,false,false,false,false,false,false,false,false,false,false,false,false,false,false,false,false,false,false,false,false,false,false,false,false,false,false,false,false,false] rfl rfl (take_ofW HT_.out HW_.out (by kernel_rfl)) (fun _ _ _ h => h) (Or.inl ⟨by rfl,?_⟩) hHeld ?_ ?_
              rotate_left
              ·rintro w' ⟨s0,s1,s2,s3,s4,s5,s6,s7,s8,s9,s10,s11,s12,s13,s14,s15,s16,s17,s18,s19,s20,s21,s22,s23⟩
               go_simp
               with_reducible rfl
              rotate_left
              ·simp only [Act.put,List.setIfInBounds_toArray,List.set_cons_zero,List.set_cons_succ,i64_w,i32_w]
               rfl
              refine take_ (i := 9) (N := some 125) (v := ?_) (a' := ?_) #[true,true,true,true,true,true,true,true,true,true,false,false,false,false,false,false,false,false,false,false,false,false,false,false,false,false,false,false,false,false,false,false,false,false,false,false,false,false,false,false,false,false,false,false,false,false,false] rfl rfl (take_ofW HT_.out HW_.out (by kernel_rfl)) (fun _ _ _ h => h) (Or.inl ⟨by rfl,?_⟩) hHeld ?_ ?_
              rotate_left
              ·rintro w' ⟨s0,s1,s2,s3,s4,s5,s6,s7,s8,s9,s10,s11,s12,s13,s14,s15,s16,s17,s18,s19,s20,s21,s22,s23⟩
               go_simp
               with_reducible rfl
              rotate_left
              ·simp only [Act.put,List.setIfInBounds_toArray,List.set_cons_zero,List.set_cons_succ,i64_w,i32_w]
               rfl
              refine one_ (i := 10) (N := some 126) #[true,true,true,true,true,true,true,true,true,true,true,false,false,false,false,false,false,false,false,false,false,false,false,false,false,false,false,false,false,false,false,false,false,false,false,false,false,false,false,false,false,false,false,false,false,false,false] rfl rfl (one_of HT_.out (by kernel_rfl)) (by decide) (fun K hK => ?_)
              refine goes_ Tryd.func12 (by kernel_rfl) rfl #[.string t219] (by rfl) rfl rfl au1 ?_
              with_reducible refine (word_Capital.calls t219 t249 _ ?side1 A61.out).mono ?_
              (case side1 => exact tabs_below HT.out au15)
              rintro e w77 ⟨rfl,hb⟩
              refine ⟨_,rfl,?_⟩
              have n0_ := Aside0.mk (blk_below (g := gb213) (o := .cells #[.int .i64 a1_0,.int .i64 a1_1,.int .i64 a1_2,.int .i64 a1_3] 23 (0,0)) au13 hb)
              have n1_ := Aside0.mk (blk_below (g := gb222) (o := .cells #[.int .i64 t215,.int .i64 t216,.string t217,.int .i64 t218,.string t219,.bool t220] 30 (0,0)) au19 hb)
              have n2_ := Aside0.mk (blk_below (g := gb230) (o := .cells #[.int .i64 t223,.int .i64 t224,.string t225,.int .i64 t226,.string t227,.bool t228] 30 (0,0)) au26 hb)
              have n3_ := Aside0.mk (blk_below (g := gb238) (o := .cells #[.int .i64 t231,.int .i64 t232,.string t233,.int .i64 t234,.string t235,.bool t236] 30 (0,0)) (by (with_reducible repeat (first | refine blk_drewN ?_ _ | refine blk_drew ?_ | refine blk_alloc ?_ _));exact BK238.out) hb)
              have n4_ := Aside0.mk (blk_below (g := gb246) (o := .cells #[.int .i64 t239,.int .i64 t240,.string t241,.int .i64 t242,.string t243,.bool t244] 30 (0,0)) (by (with_reducible repeat (first | refine blk_drewN ?_ _ | refine blk_drew ?_ | refine blk_alloc ?_ _));exact BK246.out) hb)
              have n5_ := Aside0.mk (below_step au15 hb)
              clear BK213
              clear BK222
              clear BK230
              clear BK238
              clear BK246
              clear HB
              have BK213 := n0_
              have BK222 := n1_
              have BK230 := n2_
              have BK238 := n3_
              have BK246 := n4_
              have HB := n5_
              clear n0_ n1_ n2_ n3_ n4_ n5_
              (try clear hb)
              (try clear hb2)
              (try clear hk)
              (try clear hi)
              refine hK.out _ _ ⟨(blk_cell BK246.out 0).trans rfl,(blk_cell BK246.out 1).trans rfl,(blk_cell BK246.out 2).trans rfl,(blk_cell BK246.out 3).trans rfl,(blk_cell BK246.out 4).trans rfl,(blk_cell BK246.out 5).trans rfl,(blk_cell BK222.out 0).trans rfl,(blk_cell BK222.out 1).trans rfl,(blk_cell BK222.out 2).trans rfl,(blk_cell BK222.out 3).trans rfl,(blk_cell BK222.out 4).trans rfl,(blk_cell BK222.out 5).trans rfl,(blk_cell BK230.out 0).trans rfl,(blk_cell BK230.out 1).trans rfl,(blk_cell BK230.out 2).trans rfl,(blk_cell BK230.out 3).trans rfl,(blk_cell BK230.out 4).trans rfl,(blk_cell BK230.out 5).trans rfl,(blk_cell BK238.out 0).trans rfl,(blk_cell BK238.out 1).trans rfl,(blk_cell BK238.out 2).trans rfl,(blk_cell BK238.out 3).trans rfl,(blk_cell BK238.out 4).trans rfl,(blk_cell BK238.out 5).trans rfl⟩ (fun hHeld => ?_)
              clear hK K
              refine norm_ (a' := ?_) ?_ ?_
              rotate_left
              ·show Act.put _ (some 126) _ = _
               simp only [Act.put,List.setIfInBounds_toArray,List.set_cons_zero,List.set_cons_succ,i64_w,i32_w]
               rfl
              refine pure_ (i := 11) (N := some 127) (v := ?_) (a' := ?_) #[true,true,true,true,true,true,true,true,true,true,true,true,false,false,false,false,false,false,false,false,false,false,false,false,false,false,false,false,false,false,false,false,false,false,false,false,false,false,false,false,false,false,false,false,false,false,false] rfl rfl (any_of HT_.out (by kernel_rfl)) (fun _ _ _ h => h) (Or.inl ⟨by rfl,?_⟩) ?_ ?_
              rotate_left
              ·intro w'
               go_simp
               with_reducible rfl
              rotate_left
              ·simp only [Act.put,List.setIfInBounds_toArray,List.set_cons_zero,List.set_cons_succ,i64_w,i32_w]
               rfl
              refine pure_ (i := 12) (N := some 128) (v := ?_) (a' := ?_) #[true,true,true,true,true,true,true,true,true,true,true,true,true,false,false,false,false,false,false,false,false,false,false,false,false,false,false,false,false,false,false,false,false,false,false,false,false,false,false,false,false,false,false,false,false,false,false] rfl rfl (any_of HT_.out (by kernel_rfl)) (fun _ _ _ h => h) (Or.inl ⟨by rfl,?_⟩) ?_ ?_
              rotate_left
              ·intro w'
               go_simp
               with_reducible rfl
              rotate_left
              ·simp only [Act.put,List.setIfInBounds_toArray,List.set_cons_zero,List.set_cons_succ,i64_w,i32_w]
               rfl
              refine pure_ (i := 13) (N := some 129) (v := ?_) (a' := ?_) #[true,true,true,true,true,true,true,true,true,true,true,true,true,true,false,false,false,false,false,false,false,false,false,false,false,false,false,false,false,false,false,false,false,false,false,false,false,false,false,false,false,false,false,false,false,false,false] rfl rfl (any_of HT_.out (by kernel_rfl)) (fun _ _ _ h => h) (Or.inl ⟨by rfl,?_⟩) ?_ ?_
              rotate_left
              ·intro w'
               go_simp
               with_reducible rfl
              rotate_left
              ·simp only [Act.put,List.setIfInBounds_toArray,List.set_cons_zero,List.set_cons_succ,i64_w,i32_w]
               rfl
              refine pure_ (i := 14) (N := some 130) (v := ?_) (a' := ?_) #[true,true,true,true,true,true,true,true,true,true,true,true,true,true,true,false,false,false,false,false,false,false,false,false,false,false,false,false,false,false,false,false,false,false,false,false,false,false,false,false,false,false,false,false,false,false,false] rfl rfl (any_of HT_.out (by kernel_rfl)) (fun _ _ _ h => h) (Or.inl ⟨by rfl,?_⟩) ?_ ?_
              rotate_left
              ·intro w'
               go_simp
               with_reducible rfl
              rotate_left
              ·simp only [Act.put,List.setIfInBounds_toArray,List.set_cons_zero,List.set_cons_succ,i64_w,i32_w]
               rfl
              refine pure_ (i := 16) (N := some 132) (v := ?_) (a' := ?_) #[true,true,true,true,true,true,true,true,true,true,true,true,true,true,true,false,true,false,false,false,false,false,false,false,false,false,false,false,false,false,false,false,false,false,false,false,false,false,false,false,false,false,false,false,false,false,false] rfl rfl (any_of HT_.out (by kernel_rfl)) (fun _ _ _ h => h) (Or.inl ⟨by rfl,?_⟩) ?_ ?_
              rotate_left
              ·intro w'
               go_simp
               with_reducible rfl
              rotate_left
              ·simp only [Act.put,List.setIfInBounds_toArray,List.set_cons_zero,List.set_cons_succ,i64_w,i32_w]
               rfl
              refine take_ (i := 15) (N := some 131) (v := ?_) (a' := ?_) #[true,true,true,true,true,true,true,true,true,true,true,true,true,true,true,true,true,false,false,false,false,false,false,false,false,false,false,false,false,false,false,false,false,false,false,false,false,false,false,false,false,false,false,false,false,false,false] rfl rfl (take_ofW HT_.out HW_.out (by kernel_rfl)) (fun _ _ _ h => h) (Or.inl ⟨by rfl,?_⟩) hHeld ?_ ?_
              rotate_left
              ·rintro w' ⟨s0,s1,s2,s3,s4,s5,s6,s7,s8,s9,s10,s11,s12,s13,s14,s15,s16,s17,s18,s19,s20,s21,s22,s23⟩
               go_simp
               with_reducible rfl
              rotate_left
              ·simp only [Act.put,List.setIfInBounds_toArray,List.set_cons_zero,List.set_cons_succ,i64_w,i32_w]
               rfl
              refine pure_ (i := 17) (N := some 133) (v := ?_) (a' := ?_) #[true,true,true,true,true,true,true,true,true,true,true,true,true,true,true,true,true,true,false,false,false,false,false,false,false,false,false,false,false,false,false,false,false,false,false,false,false,false,false,false,false,false,false,false,false,false,false] rfl rfl (any_of HT_.out (by kernel_rfl)) (fun _ _ _ h => h) (Or.inl ⟨by rfl,?_⟩) ?_ ?_
              rotate_left
              ·intro w'
               go_simp
               with_reducible rfl
              rotate_left
              ·simp only [Act.put,List.setIfInBounds_toArray,List.set_cons_zero,List.set_cons_succ,i64_w,i32_w]
               rfl
              refine pure_ (i := 18) (N := some 134) (v := ?_) (a' := ?_) #[true,true,true,true,true,true,true,true,true,true,true,true,true,true,true,true,true,true,true,false,false,false,false,false,false,false,false,false,false,false,false,false,false,false,false,false,false,false,false,false,false,false,false,false,false,false,false] rfl rfl (any_of HT_.out (by kernel_rfl)) (fun _ _ _ h => h) (Or.inl ⟨by rfl,?_⟩) ?_ ?_
              rotate_left
              ·intro w'
               go_simp
               with_reducible rfl
              rotate_left
              ·simp only [Act.put,List.setIfInBounds_toArray,List.set_cons_zero,List.set_cons_succ,i64_w,i32_w]
               rfl
              refine pure_ (i := 19) (N := some 135) (v := ?_) (a' := ?_) #[true,true,true,true,true,true,true,true,true,true,true,true,true,true,true,true,true,true,true,true,false,false,false,false,false,false,false,false,false,false,false,false,false,false,false,false,false,false,false,false,false,false,false,false,false,false,false] rfl rfl (any_of HT_.out (by kernel_rfl)) (fun _ _ _ h => h) (Or.inl ⟨by rfl,?_⟩) ?_ ?_
              rotate_left
              ·intro w'
               go_simp
               with_reducible rfl
              rotate_left
              ·simp only [Act.put,List.setIfInBounds_toArray,List.set_cons_zero,List.set_cons_succ,i64_w,i32_w]
               rfl
              refine pure_ (i := 20) (N := some 136) (v := ?_) (a' := ?_) #[true,true,true,true,true,true,true,true,true,true,true,true,true,true,true,true,true,true,true,true,true,false,false,false,false,false,false,false,false,false,false,false,false,false,false,false,false,false,false,false,false,false,false,false,false,false,false] rfl rfl (any_of HT_.out (by kernel_rfl)) (fun _ _ _ h => h) (Or.inl ⟨by rfl,?_⟩) ?_ ?_
              rotate_left
              ·intro w'
               go_simp
               with_reducible rfl
              rotate_left
              ·simp only [Act.put,List.setIfInBounds_toArray,List.set_cons_zero,List.set_cons_succ,i64_w,i32_w]
               rfl
              refine pure_ (i := 22) (N := some 138) (v := ?_) (a' := ?_) #[true,true,true,true,true,true,true,true,true,true,true,true,true,true,true,true,true,true,true,true,true,false,true,false,false,false,false,false,false,false,false,false,false,false,false,false,false,false,false,false,false,false,false,false,false,false,false] rfl rfl (any_of HT_.out (by kernel_rfl)) (fun _ _ _ h => h) (Or.inl ⟨by rfl,?_⟩) ?_ ?_
              rotate_left
              ·intro w'
               go_simp
               with_reducible rfl
              rotate_left
              ·simp only [Act.put,List.setIfInBounds_toArray,List.set_cons_zero,List.set_cons_succ,i64_w,i32_w]
               rfl
              refine take_ (i := 21) (N := some 137) (v := ?_) (a' := ?_) #[true,true,true,true,true,true,true,true,true,true,true,true,true,true,true,true,true,true,true,true,true,true,true,false,false,false,false,false,false,false,false,false,false,false,false,false,false,false,false,false,false,false,false,false,false,false,false] rfl rfl (take_ofW HT_.out HW_.out (by kernel_rfl)) (fun _ _ _ h => h) (Or.inl ⟨by rfl,?_⟩) hHeld ?_ ?_
              rotate_left
              ·rintro w' ⟨s0,s1,s2,s3,s4,s5,s6,s7,s8,s9,s10,s11,s12,s13,s14,s15,s16,s17,s18,s19,s20,s21,s22,s23⟩
               go_simp
               with_reducible rfl
              rotate_left
              ·simp only [Act.put,List.setIfInBounds_toArray,List.set_cons_zero,List.set_cons_succ,i64_w,i32_w]
               rfl
              refine pure_ (i := 23) (N := some 139) (v := ?_) (a' := ?_) #[true,true,true,true,true,true,true,true,true,true,true,true,true,true,true,true,true,true,true,true,true,true,true,true,false,false,false,false,false,false,false,false,false,false,false,false,false,false,false,false,false,false,false,false,false,false,false] rfl rfl (any_of HT_.out (by kernel_rfl)) (fun _ _ _ h => h) (Or.inl ⟨by rfl,?_⟩) ?_ ?_
              rotate_left
              ·intro w'
               go_simp
               with_reducible rfl
              rotate_left
              ·simp only [Act.put,List.setIfInBounds_toArray,List.set_cons_zero,List.set_cons_succ,i64_w,i32_w]
               rfl
              refine pure_ (i := 24) (N := some 140) (v := ?_) (a' := ?_) #[true,true,true,true,true,true,true,true,true,true,true,true,true,true,true,true,true,true,true,true,true,true,true,true,true,false,false,false,false,false,false,false,false,false,false,false,false,false,false,false,false,false,false,false,false,false,false] rfl rfl (any_of HT_.out (by kernel_rfl)) (fun _ _ _ h => h) (Or.inl ⟨by rfl,?_⟩) ?_ ?_
              rotate_left
              ·intro w'
               go_simp
               with_reducible rfl
              rotate_left
              ·simp only [Act.put,List.setIfInBounds_toArray,List.set_cons_zero,List.set_cons_succ,i64_w,i32_w]
               rfl
              refine pure_ (i := 25) (N := some 141) (v := ?_) (a' := ?_) #[true,true,true,true,true,true,true,true,true,true,true,true,true,true,true,true,true,true,true,true,true,true,true,true,true,true,false,false,false,false,false,false,false,false,false,false,false,false,false,false,false,false,false,false,false,false,false] rfl rfl (any_of HT_.out (by kernel_rfl)) (fun _ _ _ h => h) (Or.inl ⟨by rfl,?_⟩) ?_ ?_
              rotate_left
              ·intro w'
               go_simp
               with_reducible rfl
              rotate_left
              ·simp only [Act.put,List.setIfInBounds_toArray,List.set_cons_zero,List.set_cons_succ,i64_w,i32_w]
               rfl
              refine pure_ (i := 26) (N := some 142) (v := ?_) (a' := ?_) #[true,true,true,true,true,true,true,true,true,true,true,true,true,true,true,true,true,true,true,true,true,true,true,true,true,true,true,false,false,false,false,false,false,false,false,false,false,false,false,false,false,false,false,false,false,false,false] rfl rfl (any_of HT_.out (by kernel_rfl)) (fun _ _ _ h => h) (Or.inl ⟨by rfl,?_⟩) ?_ ?_
              rotate_left
              ·intro w'
               go_simp
               with_reducible rfl
              rotate_left
              ·simp only [Act.put,List.setIfInBounds_toArray,List.set_cons_zero,List.set_cons_succ,i64_w,i32_w]
               rfl
              refine pure_ (i := 28) (N := some 144) (v := ?_) (a' := ?_) #[true,true,true,true,true,true,true,true,true,true,true,true,true,true,true,true,true,true,true,true,true,true,true,true,true,true,true,false,true,false,false,false,false,false,false,false,false,false,false,false,false,false,false,false,false,false,false] rfl rfl (any_of HT_.out (by kernel_rfl)) (fun _ _ _ h => h) (Or.inl ⟨by rfl,?_⟩) ?_ ?_
              rotate_left
              ·intro w'
               go_simp
               with_reducible rfl
              rotate_left
              ·simp only [Act.put,List.setIfInBounds_toArray,List.set_cons_zero,List.set_cons_succ,i64_w,i32_w]
               rfl
              refine take_ (i := 27) (N := some 143) (v := ?_) (a' := ?_) #[true,true,true,true,true,true,true,true,true,true,true,true,true,true,true,true,true,true,true,true,true,true,true,true,true,true,true,true,true,false,false,false,false,false,false,false,false,false,false,false,false,false,false,false,false,false,false] rfl rfl (take_ofW HT_.out HW_.out (by kernel_rfl)) (fun _ _ _ h => h) (Or.inl ⟨by rfl,?_⟩) hHeld ?_ ?_
              rotate_left
              ·rintro w' ⟨s0,s1,s2,s3,s4,s5,s6,s7,s8,s9,s10,s11,s12,s13,s14,s15,s16,s17,s18,s19,s20,s21,s22,s23⟩
               go_simp
               with_reducible rfl
              rotate_left
              ·simp only [Act.put,List.setIfInBounds_toArray,List.set_cons_zero,List.set_cons_succ,i64_w,i32_w]
               rfl
              refine pure_ (i := 29) (N := some 145) (v := ?_) (a' := ?_) #[true,true,true,true,true,true,true,true,true,true,true,true,true,true,true,true,true,true,true,true,true,true,true,true,true,true,true,true,true,true,false,false,false,false,false,false,false,false,false,false,false,false,false,false,false,false,false] rfl rfl (any_of HT_.out (by kernel_rfl)) (fun _ _ _ h => h) (Or.inl ⟨by rfl,?_⟩) ?_ ?_
              rotate_left
              ·intro w'
               go_simp
               with_reducible rfl
              rotate_left
              ·simp only [Act.put,List.setIfInBounds_toArray,List.set_cons_zero,List.set_cons_succ,i64_w,i32_w]
               rfl
              refine pure_ (i := 30) (N := some 146) (v := ?_) (a' := ?_) #[true,true,true,true,true,true,true,true,true,true,true,true,true,true,true,true,true,true,true,true,true,true,true,true,true,true,true,true,true,true,true,false,false,false,false,false,false,false,false,false,false,false,false,false,false,false,false] rfl rfl (any_of HT_.out (by kernel_rfl)) (fun _ _ _ h => h) (Or.inl ⟨by rfl,?_⟩) ?_ ?_
              rotate_left
              ·intro w'
               go_simp
               with_reducible rfl
              rotate_left
              ·simp only [Act.put,List.setIfInBounds_toArray,List.set_cons_zero,List.set_cons_succ,i64_w,i32_w]
               rfl
              refine pure_ (i := 31) (N := some 147) (v := ?_) (a' := ?_) #[true,true,true,true,true,true,true,true,true,true,true,true,true,true,true,true,true,true,true,true,true,true,true,true,true,true,true,true,true,true,true,true,false,false,false,false,false,false,false,false,false,false,false,false,false,false,false] rfl rfl (any_of HT_.out (by kernel_rfl)) (fun _ _ _ h => h) (Or.inl ⟨by rfl,?_⟩) ?_ ?_
              rotate_left
              ·intro w'
               go_simp
               with_reducible rfl
              rotate_left
              ·simp only [Act.put,List.setIfInBounds_toArray,List.set_cons_zero,List.set_cons_succ,i64_w,i32_w]
               rfl
              refine pure_ (i := 32) (N := some 148) (v := ?_) (a' := ?_) #[true,true,true,true,true,true,true,true,true,true,true,true,true,true,true,true,true,true,true,true,true,true,true,true,true,true,true,true,true,true,true,true,true,false,false,false,false,false,false,false,false,false,false,false,false,false,false] rfl rfl (any_of HT_.out (by kernel_rfl)) (fun _ _ _ h => h) (Or.inl ⟨by rfl,?_⟩) ?_ ?_
              rotate_left
              ·intro w'
               go_simp
               with_reducible rfl
              rotate_left
              ·simp only [Act.put,List.setIfInBounds_toArray,List.set_cons_zero,List.set_cons_succ,i64_w,i32_w]
               rfl
              refine take_ (i := 33) (N := some 149) (v := ?_) (a' := ?_) #[true,true,true,true,true,true,true,true,true,true,true,true,true,true,true,true,true,true,true,true,true,true,true,true,true,true,true,true,true,true,true,true,true,true,false,false,false,false,false,false,false,false,false,false,false,false,false] rfl rfl (take_ofW HT_.out HW_.out (by kernel_rfl)) (fun _ _ _ h => h) (Or.inl ⟨by rfl,?_⟩) hHeld ?_ ?_
              rotate_left
              ·rintro w' ⟨s0,s1,s2,s3,s4,s5,s6,s7,s8,s9,s10,s11,s12,s13,s14,s15,s16,s17,s18,s19,s20,s21,s22,s23⟩
               go_simp
               with_reducible rfl
              rotate_left
              ·simp only [Act.put,List.setIfInBounds_toArray,List.set_cons_zero,List.set_cons_succ,i64_w,i32_w]
               rfl
              refine pure_ (i := 34) (N := some 150) (v := ?_) (a' := ?_) #[true,true,true,true,true,true,true,true,true,true,true,true,true,true,true,true,true,true,true,true,true,true,true,true,true,true,true,true,true,true,true,true,true,true,true,false,false,false,false,false,false,false,false,false,false,false,false] rfl rfl (any_of HT_.out (by kernel_rfl)) (fun _ _ _ h => h) (Or.inl ⟨by rfl,?_⟩) ?_ ?_
              rotate_left
              ·intro w'
               go_simp
               with_reducible rfl
              rotate_left
              ·simp only [Act.put,List.setIfInBounds_toArray,List.set_cons_zero,List.set_cons_succ,i64_w,i32_w]
               rfl
              refine pure_ (i := 35) (N := some 151) (v := ?_) (a' := ?_) #[true,true,true,true,true,true,true,true,true,true,true,true,true,true,true,true,true,true,true,true,true,true,true,true,true,true,true,true,true,true,true,true,true,true,true,true,false,false,false,false,false,false,false,false,false,false,false] rfl rfl (any_of HT_.out (by kernel_rfl)) (fun _ _ _ h => h) (Or.inl ⟨by rfl,?_⟩) ?_ ?_
              rotate_left
              ·intro w'
               go_simp
               with_reducible rfl
              rotate_left
              ·simp only [Act.put,List.setIfInBounds_toArray,List.set_cons_zero,List.set_cons_succ,i64_w,i32_w]
               rfl
              refine pure_ (i := 36) (N := some 152) (v := ?_) (a' := ?_) #[true,true,true,true,true,true,true,true,true,true,true,true,true,true,true,true,true,true,true,true,true,true,true,true,true,true,true,true,true,true,true,true,true,true,true,true,true,false,false,false,false,false,false,false,false,false,false] rfl rfl (any_of HT_.out (by kernel_rfl)) (fun _ _ _ h => h) (Or.inl ⟨by rfl,?_⟩) ?_ ?_
              rotate_left
              ·intro w'
               go_simp
               with_reducible rfl
              rotate_left
              ·simp only [Act.put,List.setIfInBounds_toArray,List.set_cons_zero,List.set_cons_succ,i64_w,i32_w]
               rfl
              refine pure_ (i := 37) (N := some 153) (v := ?_) (a' := ?_) #[true,true,true,true,true,true,true,true,true,true,true,true,true,true,true,true,true,true,true,true,true,true,true,true,true,true,true,true,true,true,true,true,true,true,true,true,true,true,false,false,false,false,false,false,false,false,false] rfl rfl (any_of HT_.out (by kernel_rfl)) (fun _ _ _ h => h) (Or.inl ⟨by rfl,?_⟩) ?_ ?_
              rotate_left
              ·intro w'
               go_simp
               with_reducible rfl
              rotate_left
              ·simp only [Act.put,List.setIfInBounds_toArray,List.set_cons_zero,List.set_cons_succ,i64_w,i32_w]
               rfl
              refine take_ (i := 38) (N := some 154) (v := ?_) (a' := ?_) #[true,true,true,true,true,true,true,true,true,true,true,true,true,true,true,true,true,true,true,true,true,true,true,true,true,true,true,true,true,true,true,true,true,true,true,true,true,true,true,false,false,false,false,false,false,false,false] rfl rfl (take_ofW HT_.out HW_.out (by kernel_rfl)) (fun _ _ _ h => h) (Or.inl ⟨by rfl,?_⟩) hHeld ?_ ?_
              rotate_left
              ·rintro w' ⟨s0,s1,s2,s3,s4,s5,s6,s7,s8,s9,s10,s11,s12,s13,s14,s15,s16,s17,s18,s19,s20,s21,s22,s23⟩
               go_simp
               with_reducible rfl
              rotate_left
              ·simp only [Act.put,List.setIfInBounds_toArray,List.set_cons_zero,List.set_cons_succ,i64_w,i32_w]
               rfl
              refine pure_ (i := 39) (N := some 155) (v := ?_) (a' := ?_) #[true,true,true,true,true,true,true,true,true,true,true,true,true,true,true,true,true,true,true,true,true,true,true,true,true,true,true,true,true,true,true,true,true,true,true,true,true,true,true,true,false,false,false,false,false,false,false] rfl rfl (any_of HT_.out (by kernel_rfl)) (fun _ _ _ h => h) (Or.inl ⟨by rfl,?_⟩) ?_ ?_
              rotate_left
              ·intro w'
               go_simp
               with_reducible rfl
              rotate_left
              ·simp only [Act.put,List.setIfInBounds_toArray,List.set_cons_zero,List.set_cons_succ,i64_w,i32_w]
               rfl
              refine pure_ (i := 40) (N := some 156) (v := ?_) (a' := ?_) #[true,true,true,true,true,true,true,true,true,true,true,true,true,true,true,true,true,true,true,true,true,true,true,true,true,true,true,true,true,true,true,true,true,true,true,true,true,true,true,true,true,false,false,false,false,false,false] rfl rfl (any_of HT_.out (by kernel_rfl)) (fun _ _ _ h => h) (Or.inl ⟨by rfl,?_⟩) ?_ ?_
              rotate_left
              ·intro w'
               go_simp
               with_reducible rfl
              rotate_left
              ·simp only [Act.put,List.setIfInBounds_toArray,List.set_cons_zero,List.set_cons_succ,i64_w,i32_w]
               rfl
              refine pure_ (i := 41) (N := some 157) (v := ?_) (a' := ?_) #[true,true,true,true,true,true,true,true,true,true,true,true,true,true,true,true,true,true,true,true,true,true,true,true,true,true,true,true,true,true,true,true,true,true,true,true,true,true,true,true,true,true,false,false,false,false,false] rfl rfl (any_of HT_.out (by kernel_rfl)) (fun _ _ _ h => h) (Or.inl ⟨by rfl,?_⟩) ?_ ?_
              rotate_left
              ·intro w'
               go_simp
               with_reducible rfl
              rotate_left
              ·simp only [Act.put,List.setIfInBounds_toArray,List.set_cons_zero,List.set_cons_succ,i64_w,i32_w]
               rfl
              refine pure_ (i := 42) (N := some 158) (v := ?_) (a' := ?_) #[true,true,true,true,true,true,true,true,true,true,true,true,true,true,true,true,true,true,true,true,true,true,true,true,true,true,true,true,true,true,true,true,true,true,true,true,true,true,true,true,true,true,true,false,false,false,false] rfl rfl (any_of HT_.out (by kernel_rfl)) (fun _ _ _ h => h) (Or.inl ⟨by rfl,?_⟩) ?_ ?_
              rotate_left
              ·intro w'
               go_simp
               with_reducible rfl
              rotate_left
              ·simp only [Act.put,List.setIfInBounds_toArray,List.set_cons_zero,List.set_cons_succ,i64_w,i32_w]
               rfl
              refine take_ (i := 43) (N := some 159) (v := ?_) (a' := ?_) #[true,true,true,true,true,true,true,true,true,true,true,true,true,true,true,true,true,true,true,true,true,true,true,true,true,true,true,true,true,true,true,true,true,true,true,true,true,true,true,true,true,true,true,true,false,false,false] rfl rfl (take_ofW HT_.out HW_.out (by kernel_rfl)) (fun _ _ _ h => h) (Or.inl ⟨by rfl,?_⟩) hHeld ?_ ?_
              rotate_left
              ·rintro w' ⟨s0,s1,s2,s3,s4,s5,s6,s7,s8,s9,s10,s11,s12,s13,s14,s15,s16,s17,s18,s19,s20,s21,s22,s23⟩
               go_simp
               with_reducible rfl
              rotate_left
              ·simp only [Act.put,List.setIfInBounds_toArray,List.set_cons_zero,List.set_cons_succ,i64_w,i32_w]
               rfl
              refine pure_ (i := 44) (N := some 160) (v := ?_) (a' := ?_) #[true,true,true,true,true,true,true,true,true,true,true,true,true,true,true,true,true,true,true,true,true,true,true,true,true,true,true,true,true,true,true,true,true,true,true,true,true,true,true,true,true,true,true,true,true,false,false] rfl rfl (any_of HT_.out (by kernel_rfl)) (fun _ _ _ h => h) (Or.inl ⟨by rfl,?_⟩) ?_ ?_
              rotate_left
              ·intro w'
               go_simp
               with_reducible rfl
              rotate_left
              ·simp only [Act.put,List.setIfInBounds_toArray,List.set_cons_zero,List.set_cons_succ,i64_w,i32_w]
               rfl
              refine pure_ (i := 45) (N := some 161) (v := ?_) (a' := ?_) #[true,true,true,true,true,true,true,true,true,true,true,true,true,true,true,true,true,true,true,true,true,true,true,true,true,true,true,true,true,true,true,true,true,true,true,true,true,true,true,true,true,true,true,true,true,true,false] rfl rfl (any_of HT_.out (by kernel_rfl)) (fun _ _ _ h => h) (Or.inl ⟨by rfl,?_⟩) ?_ ?_
              rotate_left
              ·intro w'
               go_simp
               with_reducible rfl
              rotate_left
              ·simp only [Act.put,List.setIfInBounds_toArray,List.set_cons_zero,List.set_cons_succ,i64_w,i32_w]
               rfl
              refine pure_ (i := 46) (N := some 4) (v := ?_) (a' := ?_) #[true,true,true,true,true,true,true,true,true,true,true,true,true,true,true,true,true,true,true,true,true,true,true,true,true,true,true,true,true,true,true,true,true,true,true,true,true,true,true,true,true,true,true,true,true,true,true] rfl rfl (any_of HT_.out (by kernel_rfl)) (fun _ _ _ h => h) (Or.inl ⟨by rfl,?_⟩) ?_ ?_
              rotate_left
              ·intro w'
               go_simp
               with_reducible rfl
              rotate_left
              ·simp only [Act.put,List.setIfInBounds_toArray,List.set_cons_zero,List.set_cons_succ,i64_w,i32_w]
               rfl
              refine done_ (done_of HT_.out (by kernel_rfl)) ?_
              try go_wp2
              go_ret
              exact ⟨au2,by repeat (first | (with_reducible first | exact HB.out | apply below_alloc | apply pw_below_drewN | apply below_drew1 | refine below_set ?_ GE213.out | refine below_set ?_ GE222.out | refine below_set ?_ GE230.out | refine below_set ?_ GE238.out | refine below_set ?_ GE246.out) | exact HB.out)⟩
             ·rw [if_neg c67] at H
              have c67b0 : (t235.toList == ([] : List UInt8)) = false := beq_eq_false_iff_ne.mpr c67
              have c67b1 : (t235.toList != ([] : List UInt8)) = true := bne_iff_ne.mpr c67
              obtain rfl := Option.some.inj H
              cases hr_
            ·rw [if_neg c66] at H
             have c66b0 : (t227.toList == ([] : List UInt8)) = false := beq_eq_false_iff_ne.mpr c66
             have c66b1 : (t227.toList != ([] : List UInt8)) = true := bne_iff_ne.mpr c66
             obtain rfl := Option.some.inj H
             cases hr_
           ·rw [if_neg c65] at H
            have c65b0 : (t242 == (wrap64 (t215 + t216))) = false := beq_eq_false_iff_ne.mpr c65
            have c65b1 : (t242 != (wrap64 (t215 + t216))) = true := bne_iff_ne.mpr c65
            obtain rfl := Option.some.inj H
            cases hr_
          ·rw [if_neg c64] at H
           have c64b0 : (t234 == (wrap64 (t215 + t216))) = false := beq_eq_false_iff_ne.mpr c64
           have c64b1 : (t234 != (wrap64 (t215 + t216))) = true := bne_iff_ne.mpr c64
           obtain rfl := Option.some.inj H
           cases hr_
         ·rw [if_neg c63] at H
          have c63b0 : (t226 == (wrap64 (t215 + t216))) = false := beq_eq_false_iff_ne.mpr c63
          have c63b1 : (t226 != (wrap64 (t215 + t216))) = true := bne_iff_ne.mpr c63
          obtain rfl := Option.some.inj H
          cases hr_
        ·rw [if_neg c62] at H
         have c62b0 : (t239 == t215 && (t240 == t216 && (t241.toList == t249.toList))) = false := by simpa using c62
         (try (have c62b1 : decide (t239 = t215 && (t240 == t216 && (t241.toList == t249.toList))) = false := by simpa using c62))
         (try (have c62b2 : (t239 == t215 && (t240 == t216 && (t241.toList == t249.toList))) = false := by simpa using c62))
         (try (have c62b3 : ¬ (t239 = t215 && (t240 == t216 && (t241.toList == t249.toList))) := by simpa using c62))
         clear c62
         obtain rfl := Option.some.inj H
         cases hr_
     ·rw [if_neg c41] at H
      have c41b0 : (t221 == 0) = false := beq_eq_false_iff_ne.mpr c41
      have c41b1 : (t221 != 0) = true := bne_iff_ne.mpr c41
      obtain rfl := Option.some.inj H
      go_wp2
      go_ret
      exact ⟨au2,by repeat (first | (with_reducible first | exact HB.out | apply below_alloc | apply pw_below_drewN | apply below_drew1 | refine below_set ?_ GE213.out | refine below_set ?_ GE222.out | refine below_set ?_ GE230.out | refine below_set ?_ GE238.out | refine below_set ?_ GE246.out) | exact HB.out)⟩
 ·replace c4 := Bool.eq_false_iff.mpr c4
  subst c4
  have H1 : (some false) = some r := by rw [if_neg (show ¬ (false = true) by decide)] at H;exact H
  clear H
  have H := H1
  clear H1
  obtain rfl := Option.some.inj H
  cases hr_
end Go.Proofs.YtfmnmjoofnbnfaaDoor.U
end
